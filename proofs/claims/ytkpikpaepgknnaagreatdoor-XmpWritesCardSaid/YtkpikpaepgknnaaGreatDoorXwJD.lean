/- Walks and laws, joined: part D. No condition. -/
import Derived.Test.YtkpikpaepgknnaaGreatDoorXwJC
import Derived.Maps.AppendAt
import Derived.Laws.AppendOwnNone
import Derived.Lib.SlBytesConst
set_option linter.unusedSimpArgs false
set_option linter.unusedVariables false
/- A property put into a row that is full. No condition. -/
namespace Go.Proofs.YtkpikpaepgknnaaGreatDoor
open Go Go.RowKit Go.Wk Go.Xt Go.Xe Go.Xw
def GJ (g q n cap G i : Nat) : Nat → Value → World → Prop := fun j v _ => match j with
  | 0 => v = .slice (some ⟨q, 0, none⟩) (n + 1) G
  | 1 => v = .int .i64 (i : Nat)
  | 2 => v = .int .i64 1
  | 3 => v = .int .i64 ((i : Int) + 1)
  | 4 => v = .slice (some ⟨q, (i + 1) * 4, none⟩) (n - i) (G - (i + 1))
  | 5 => v = .slice (some ⟨g, 0, none⟩) n cap
  | 6 => v = .int .i64 (i : Nat)
  | _ => v = .slice (some ⟨g, i * 4, none⟩) (n - i) (cap - i)
theorem GJ_mono {g q n cap G i : Nat} (j : Nat) (v : Value) (w w' : World) (hG : GJ g q n cap G i j v w) (hk : Below w.heap.size w w') : GJ g q n cap G i j v w' := by
  unfold GJ at hG ⊢; exact hG
def zP : Value := .agg #[.string ⟨#[]⟩, .string ⟨#[]⟩, .int .i64 0, .slice none 0 0]
theorem zero_len (k : Nat) : (Builtin.zeroCells zP.cells k).size = k * 4 := by simp [Builtin.zeroCells, zP, Value.cells]
/-- the plain row behind both copies -/
theorem row_new {ROW : List Value} {l : List PA} {x : PA} {n i G : Nat} (hl : l.length = n) (hi : i < n) (hG : n + 1 ≤ G) (hsz : ROW.length = G * 4) (htk : ROW.take (i * 4) = (flatP l).take (i * 4)) :
    ∀ F R1 R2 : List Value, F = (flatP l).drop (i * 4) → R1 = ROW.take (i * 4) ++ prs x ++ ROW.drop (i * 4 + 4) → R2 = R1.take ((i + 1) * 4) ++ F ++ R1.drop ((i + 1) * 4 + F.length) →
    R1.length = G * 4 ∧ R2.length = G * 4 ∧ R2.take ((n + 1) * 4) = flatP (l.take i ++ x :: l.drop i) := by
  intro F R1 R2 eF eR1 eR2
  have hf : (flatP l).length = n * 4 := by rw [Xw.flat_len, hl]
  have hF : F.length = n * 4 - i * 4 := by rw [eF, List.length_drop, hf]
  have hp : (prs x).length = 4 := rfl
  have h1 : R1.length = G * 4 := by
    rw [eR1, List.length_append, List.length_append, List.length_take, List.length_drop, hp, hsz]; omega
  have h2 : R2.length = G * 4 := by
    rw [eR2, List.length_append, List.length_append, List.length_take, List.length_drop, hF, h1]; omega
  refine ⟨h1, h2, ?_⟩
  have e1 : R1.take ((i + 1) * 4) = (flatP l).take (i * 4) ++ prs x := by
    have e0 : ((flatP l).take (i * 4) ++ prs x).length = (i + 1) * 4 := by rw [List.length_append, List.length_take, hp, hf]; omega
    rw [eR1, htk, List.take_append_of_le_length (by omega), List.take_of_length_le (by omega)]
  have hlen : ((flatP l).take (i * 4) ++ prs x ++ F).length = (n + 1) * 4 := by
    rw [List.length_append, List.length_append, List.length_take, hp, hF, hf]; omega
  rw [eR2, e1, List.take_append_of_le_length (by omega), List.take_of_length_le (by omega), flat_app, flat_take]
  have : flatP (x :: l.drop i) = prs x ++ flatP (l.drop i) := rfl
  rw [this, flat_drop, ← eF, List.append_assoc]
set_option maxHeartbeats 8000000 in
set_option maxRecDepth 100000 in
theorem ins_grow {w : World} (g cap n i : Nat) (cur : Array Value) (l : List PA) (hl : l.length = n) (hi : i < n) (hn : n ≤ 20) (hroom : cap < n + 1) (hnc : n ≤ cap) (hg : Blk w g 38 cur) (hsz : cur.size = cap * 4) (htk : cur.toList.take (n * 4) = flatP l) (vb : Nat) (x : PA) (hx : Blk w vb 38 (prs x).toArray) :
    Calls Tryz.prog 59 #[.slice (some ⟨g, 0, none⟩) n cap, .int .i64 (i : Nat), .slice (some ⟨vb, 0, none⟩) 1 1] w fun e w' => ∃ G, e = .returned (.slice (some ⟨w.heap.size, 0, none⟩) (n + 1) G) ∧ n + 1 ≤ G ∧ G ≤ maxLen ∧ Below w.heap.size w w' ∧ ∃ R : List Value, Blk w' w.heap.size 38 R.toArray ∧ R.length = G * 4 ∧ R.take ((n + 1) * 4) = flatP (l.take i ++ x :: l.drop i) := by
  obtain ⟨i0, hi0, hz0, hzs, hzb⟩ := prop_info
  have hz3 : (cap : Int) < (n : Int) + 1 := by omega
  have hkk : (n : Int) + 1 - (i : Int) = ((n + 1 - i : Nat) : Int) := by omega
  have hik : i + (n + 1 - i) = n + 1 := by omega
  have hcell : ∀ j v, j < n * 4 → (flatP l)[j]? = some v → w.cell? ⟨g, j, none⟩ = some v := fun j v hj h => by
    rw [hg.cell, ← Array.getElem?_toList]
    rw [← htk, List.getElem?_take, if_pos hj] at h
    exact h
  have hold : (Builtin.firstCells i0.size i (.slice (some ⟨g, 0, none⟩) i cap)).run Tryz.prog w.drew = .ok ((flatP l).take (i * 4)).toArray w.drew := by
    rw [hzs]
    exact run_firstCells_some w.drew 4 i ⟨g, 0, none⟩ i cap ((flatP l).take (i * 4)) (by rw [List.length_take, Xw.flat_len, hl]; omega) (fun j v hj => by
      rw [add_none, Nat.zero_add]
      rw [List.getElem?_take] at hj
      split at hj
      · exact hcell j v (by omega) hj
      · cases hj)
  obtain ⟨G, hG⟩ : ∃ G, G = grownCap w (n + 1) cap 38 := ⟨_, rfl⟩
  obtain ⟨ROW, hROW⟩ : ∃ ROW : Array Value, ROW = ((flatP l).take (i * 4)).toArray ++ Builtin.zeroCells zP.cells (n + 1 - i) ++ Builtin.zeroCells zP.cells (G - (n + 1)) := ⟨_, rfl⟩
  obtain ⟨W1, hW1⟩ : ∃ W1, W1 = w.drew.alloc (.cells ROW 38) := ⟨_, rfl⟩
  have hrz : ∀ ty, (Builtin.append_ #[59, 3] ty #[.slice (some ⟨g, 0, none⟩) i cap, .int .i64 ((n : Int) + 1 - (i : Int))]).run Tryz.prog w = .ok (.slice (some ⟨w.heap.size, 0, none⟩) (n + 1) G) W1 := fun ty => by
    have h := Lib.run_append_grow_zeros w 59 3 ty 38 i0 zP .i64 .i64 Tryz.underlying59 Tryz.underlying3 hi0 hz0 (some ⟨g, 0, none⟩) i cap ((flatP l).take (i * 4)) hold (n + 1 - i) (by omega) (by omega) (by omega) (by omega) (by rw [hzb]; omega) (by rw [hzb, hik]; exact growslice_fits (by omega) (by omega))
    rw [hik] at h
    rw [hkk, hW1, hROW, hG]
    exact h
  have hGn : n + 1 ≤ G := by rw [hG]; exact grownCap_ge w _ _ _
  have hGm : G ≤ maxLen := by rw [hG]; exact grownCap_le_maxLen w (n + 1) cap 38 (by unfold maxLen; omega)
  have hG63 : G ≤ 9223372036854775807 := by unfold maxLen at hGm; omega
  have hRs : ROW.toList.length = G * 4 := by
    rw [Array.length_toList, hROW, Array.size_append, Array.size_append, List.size_toArray, zero_len, zero_len, List.length_take, Xw.flat_len, hl]; omega
  have hRt : ROW.toList.take (i * 4) = (flatP l).take (i * 4) := by
    have hlen : ((flatP l).take (i * 4)).length = i * 4 := by rw [List.length_take, Xw.flat_len, hl]; omega
    rw [hROW, Array.toList_append, Array.toList_append, List.append_assoc, List.take_append_of_le_length (by show i * 4 ≤ ((flatP l).take (i * 4)).length; omega)]
    exact List.take_of_length_le (by show ((flatP l).take (i * 4)).length ≤ i * 4; omega)
  have hb1 : Below w.heap.size w W1 := by rw [hW1]; exact ((Below.refl _ _).drew).alloc (Nat.le_refl _) _
  have hq1 : Blk W1 w.heap.size 38 ROW := by rw [hW1]; exact Blk.new w.drew 38 ROW
  have hx1 := hx.below hb1 hx.lt
  have hg1 := hg.below hb1 hg.lt
  obtain ⟨F, hF⟩ : ∃ F, F = (flatP l).drop (i * 4) := ⟨_, rfl⟩
  have hFl : F.length = (n - i) * 4 := by rw [hF, List.length_drop, Xw.flat_len, hl]; omega
  obtain ⟨R1, hR1⟩ : ∃ R, R = ROW.toList.take (i * 4) ++ prs x ++ ROW.toList.drop (i * 4 + 4) := ⟨_, rfl⟩
  obtain ⟨R2, hR2'⟩ : ∃ R, R = R1.take ((i + 1) * 4) ++ F ++ R1.drop ((i + 1) * 4 + F.length) := ⟨_, rfl⟩
  obtain ⟨z1, z2, z3⟩ := row_new (x := x) hl hi hGn hRs hRt F R1 R2 hF hR1 hR2'
  obtain ⟨W2, hW2⟩ : ∃ W2, W2 = W1.setRow w.heap.size R1.toArray := ⟨_, rfl⟩
  have hcpA : ∀ ty, (Builtin.copy_ #[59, 29] ty #[.slice (some ⟨w.heap.size, i * 4, none⟩) (n + 1 - i) (G - i), .slice (some ⟨vb, 0, none⟩) 1 1]).run Tryz.prog W1 = .ok (goInt (Nat.min 1 (n + 1 - i) : Nat)) W2 := fun ty => by
    rw [hW2, hR1]
    have h0 := run_copy_rows Tryz.prog W1 59 29 ty 38 w.heap.size (i * 4) (n + 1 - i) (G - i) ⟨vb, 0, none⟩ 1 1 ROW 38 (prs x) 4 Tryz.underlying59 (by kernel_rfl) hq1 (by rw [prs_len]; simp only [Nat.min_def]; split <;> omega) (fun j v hj => by
      rw [add_none, Nat.zero_add, hx1.cell]; simpa using hj) (by rw [prs_len]; rw [Array.length_toList] at hRs; omega) (prs_one x)
    rw [prs_len] at h0
    exact h0
  have hq2 : Blk W2 w.heap.size 38 R1.toArray := by rw [hW2]; exact row_blk hq1
  have hgr2 : W1.grownBy W2 (some w.heap.size) := by rw [hW2]; exact row_grown W1 _ _
  have hg2 : Blk W2 g 38 cur := hg1.grown hgr2 (by intro e; injection e with e; have := hg.lt; omega)
  have hb2 : Below w.heap.size w W2 := hb1.grown hgr2 hb1.size (fun k hk => by injection hk with hk; omega)
  have hGi : ¬ (G = i) := by omega
  have hGim : ¬ (G = i + 1) := by omega
  have hci : ¬ (cap = i) := by omega
  have hw1 : IntKind.i64.wrap ((i : Int) + 1) = (i : Int) + 1 := by rw [IntKind.wrap_i64]; omega
  have hb1' : (0 : Int) ≤ (i : Int) + 1 := by omega
  have htn : ((i : Int) + 1).toNat = i + 1 := by omega
  have hz2 : ¬ ((i : Int) = (n : Int)) := by omega
  have hin : i ≤ n := by omega
  clear hkk hik hold hROW hG hRs hRt hcell hi0 hz0 hzs hzb hR1 hx1 hg1 hq1 hb1 hgr2 hW1
  replace hb2 := Lib.hid hb2
  replace hg2 := Lib.hid hg2
  replace hq2 := Lib.hid hq2
  replace hW2 := Lib.hid hW2
  replace hF := Lib.hid hF
  replace hFl := Lib.hid hFl
  replace hR2' := Lib.hid hR2'
  replace z1 := Lib.hid z1
  replace z2 := Lib.hid z2
  replace z3 := Lib.hid z3
  replace htk := Lib.hid htk
  replace hl := Lib.hid hl
  replace hsz := Lib.hid hsz
  replace hGm := Lib.hid hGm
  clear hg hx
  go_enter Tryz.func59, Tryz.ntmps59
  go_wp2_with (first
    | (at_builtin; refine Lib.wpList_append_run _ rfl _ _ _ _ rfl _ _ rfl rfl _ _ (hrz _) ?_)
    | (at_builtin; refine wpList_copy_runI _ rfl _ _ 59 29 rfl _ _ rfl rfl (hcpA _) ?_))
  clear hrz hcpA
  generalize ((i : Int) == (n : Int)) = bb
  generalize decide ((cap : Int) < (n : Int) + 1) = bc
  obtain ⟨q, hq⟩ : ∃ q, q = w.heap.size := ⟨_, rfl⟩
  rw [← hq] at hq2 ⊢
  replace hq := Lib.hid hq
  refine wp_lin_tail (by kernel_rfl) [none, none, none, none, none, none, none, none, none, none, none, none, none, none, none, none, none, none, none, none, none, none, none, none, none, none, none, none, none, none, none, none, none, none, none, none, none, none, none, none, none, none, none, none, none, none, some 0, some 1, some 2, some 3, some 4, some 5, some 6, some 7, none, none, none, none, none, none, none, none, none, none, none, none, none, none, none, none, none, none, none, none, none, none, none, none, none, none, none, none, none, none, none, none, none, none, none, none, none, none, none, none, none] (fun w' => Below W2.heap.size W2 w') (fun w' w'' => Below w'.heap.size w' w'') (GJ g q n cap G i) (by rfl) (by kernel_rfl) 8 _ rfl (by decide) (by kernel_rfl) [4, 3, 3, 4, 8, 7, 7, 8] (by kernel_rfl) ?shR ?smono (.cons 7 (Wk.step_of [5, 6] rfl (by kernel_rfl) ?s7) (.cons 6 (Wk.step_of [] rfl (by kernel_rfl) ?s6) (.cons 5 (Wk.step_of [] rfl (by kernel_rfl) ?s5) (.cons 4 (Wk.step_of [0, 3] rfl (by kernel_rfl) ?s4) (.cons 3 (Wk.step_of [1, 2] rfl (by kernel_rfl) ?s3) (.cons 2 (Wk.step_of [] rfl (by kernel_rfl) ?s2) (.cons 1 (Wk.step_of [] rfl (by kernel_rfl) ?s1) (.cons 0 (Wk.step_of [] rfl (by kernel_rfl) ?s0) (.nil))))))))) ?sdone
  case shR => exact (Below.refl _ _).drew
  case smono => exact GJ_mono
  case s0 =>
    intro x' w' hRw hd K' hK
    simp only [All, GJ] at hd
    simp (config := {decide := true}) only [upd, GJ, fillL, if_true, if_false] at hK ⊢
    go_simp
    have hK2 := hK _ _ ⟨hRw, Below.refl _ _, rfl⟩
    exact hK2
  case s1 =>
    intro x' w' hRw hd K' hK
    simp only [All, GJ] at hd
    simp (config := {decide := true}) only [upd, GJ, fillL, if_true, if_false] at hK ⊢
    go_simp
    have hK2 := hK _ _ ⟨hRw, Below.refl _ _, rfl⟩
    exact hK2
  case s2 =>
    intro x' w' hRw hd K' hK
    simp only [All, GJ] at hd
    simp (config := {decide := true}) only [upd, GJ, fillL, if_true, if_false] at hK ⊢
    go_simp
    have hK2 := hK _ _ ⟨hRw, Below.refl _ _, rfl⟩
    exact hK2
  case s3 =>
    intro x' w' hRw hd K' hK
    simp only [All, GJ] at hd
    obtain ⟨e1, e2, _⟩ := hd
    simp (config := {decide := true}) only [upd, GJ, fillL, if_true, if_false] at hK ⊢
    simp only [e1, e2] at hK ⊢
    go_simp
    have hK2 := hK _ _ ⟨hRw, Below.refl _ _, rfl⟩
    exact hK2
  case s4 =>
    intro x' w' hRw hd K' hK
    simp only [All, GJ] at hd
    obtain ⟨e0, e3, _⟩ := hd
    simp (config := {decide := true}) only [upd, GJ, fillL, if_true, if_false] at hK ⊢
    simp only [e0, e3] at hK ⊢
    go_simp
    have hK2 := hK _ _ ⟨hRw, Below.refl _ _, rfl⟩
    exact hK2
  case s5 =>
    intro x' w' hRw hd K' hK
    simp only [All, GJ] at hd
    simp (config := {decide := true}) only [upd, GJ, fillL, if_true, if_false] at hK ⊢
    go_simp
    have hK2 := hK _ _ ⟨hRw, Below.refl _ _, rfl⟩
    exact hK2
  case s6 =>
    intro x' w' hRw hd K' hK
    simp only [All, GJ] at hd
    simp (config := {decide := true}) only [upd, GJ, fillL, if_true, if_false] at hK ⊢
    go_simp
    have hK2 := hK _ _ ⟨hRw, Below.refl _ _, rfl⟩
    exact hK2
  case s7 =>
    intro x' w' hRw hd K' hK
    simp only [All, GJ] at hd
    obtain ⟨e5, e6, _⟩ := hd
    simp (config := {decide := true}) only [upd, GJ, fillL, if_true, if_false] at hK ⊢
    simp only [e5, e6] at hK ⊢
    go_simp
    have hK2 := hK _ _ ⟨hRw, Below.refl _ _, rfl⟩
    exact hK2
  case sdone =>
    intro x' w4 hR2 hG fr hfr
    have e4 := hG 4 (by omega)
    have e7 := hG 7 (by omega)
    simp only [GJ] at e4 e7
    simp only [fillL] at hfr
    rw [e4, e7] at hfr
    clear hG e4 e7
    have hg4 := hg2.out.below hR2 hg2.out.lt
    have hq4 := hq2.out.below hR2 hq2.out.lt
    have hcpB : ∀ ty, (Builtin.copy_ #[59, 59] ty #[.slice (some ⟨q, (i + 1) * 4, none⟩) (n - i) (G - (i + 1)), .slice (some ⟨g, i * 4, none⟩) (n - i) (cap - i)]).run Tryz.prog w4 = .ok (goInt (Nat.min (n - i) (n - i) : Nat)) (w4.setRow q R2.toArray) := fun ty => by
      rw [hR2'.out]
      exact run_copy_rows Tryz.prog w4 59 59 ty 38 q ((i + 1) * 4) (n - i) (G - (i + 1)) ⟨g, i * 4, none⟩ (n - i) (cap - i) R1.toArray 38 F 4 Tryz.underlying59 (by kernel_rfl) hq4 (by rw [hFl.out]; simp only [Nat.min_def]; split <;> omega) (fun j v hj => by
        rw [add_none, hg4.cell]
        rw [hF.out, List.getElem?_drop, ← htk.out, List.getElem?_take] at hj
        split at hj
        · rw [← Array.getElem?_toList]; exact hj
        · cases hj) (by rw [hFl.out, List.size_toArray, z1.out]; omega) (fun v hv => flat_one l v (by rw [hF.out] at hv; exact List.mem_of_mem_drop hv))
    have hqf := row_blk (cs := R2.toArray) hq4
    have hbf : Below w.heap.size w (w4.setRow q R2.toArray) := (hb2.out.trans (hR2.mono hb2.out.size)).grown (row_grown w4 q _) (Nat.le_trans hb2.out.size hR2.size) (fun k hk => by injection hk with hk; have := hq.out; omega)
    replace hqf := Lib.hid hqf
    replace hbf := Lib.hid hbf
    clear hg4 hq4 hR2
    subst hfr
    refine wpList_copy_runI _ rfl _ _ 59 59 rfl _ _ rfl rfl (hcpB _) ?_
    clear hcpB
    go_wp2
    go_ret
    have hqe := hq.out
    clear hq
    subst hqe
    exact ⟨G, rfl, hGn, hGm.out, hbf.out, R2, hqf.out, z2.out, z3.out⟩
/-- wherever it is put -/
theorem xmp_insert {w : World} (B : Nat) (v : Value) (l : List PA) (i : Nat) (hi : i ≤ l.length) (hn : l.length ≤ 20) (hO : w.ownsRow B 38 4 v l.length (flatP l)) (vb : Nat) (x : PA) (hx : Blk w vb 38 (prs x).toArray) (hne : v.ownBlock ≠ some vb) (hB : B ≤ w.heap.size) :
    Calls Tryz.prog 59 #[v, .int .i64 (i : Nat), .slice (some ⟨vb, 0, none⟩) 1 1] w fun e w' => ∃ v', e = .returned v' ∧ w'.ownsRow B 38 4 v' (l.length + 1) (flatP (l.take i ++ x :: l.drop i)) ∧ w.grownBy w' v.ownBlock := by
  have hlen : (flatP (l.take i ++ x :: l.drop i)).length = (l.length + 1) * 4 := by
    rw [Xw.flat_len, List.length_append, List.length_cons, List.length_take, List.length_drop]; omega
  by_cases hin : i = l.length
  · subst hin
    refine (ins_end B v l.length (flatP l) hO hn vb x hx hB).mono ?_
    rintro e w' ⟨v', rfl, h1, h2⟩
    refine ⟨v', rfl, ?_, h2⟩
    rw [List.take_of_length_le (Nat.le_refl _), List.drop_of_length_le (Nat.le_refl _), flat_app]
    exact h1
  · rcases hO.2 with ⟨_, h0⟩ | ⟨g, cap, cur, rfl, hg1, hg2, hcp, hcm, hsz, htk⟩
    · omega
    · by_cases hroom : l.length + 1 ≤ cap
      · refine (ins_room g cap l.length i cur l rfl (by omega) hn hroom hcm hg2 hsz htk vb x hx (fun e => hne (by rw [e]; rfl))).mono ?_
        rintro e w' ⟨rfl, h1, R, h2, h3, h4⟩
        exact ⟨_, rfl, ⟨hlen, .inr ⟨g, cap, R.toArray, rfl, hg1, h2, hroom, hcm, by rw [List.size_toArray]; exact h3, h4⟩⟩, h1⟩
      · refine (ins_grow g cap l.length i cur l rfl (by omega) hn (by omega) hcp hg2 hsz htk vb x hx).mono ?_
        rintro e w' ⟨G, rfl, h1, h2, h3, R, h4, h5, h6⟩
        exact ⟨_, rfl, ⟨hlen, .inr ⟨w.heap.size, G, R.toArray, rfl, hB, h4, h1, h2, by rw [List.size_toArray]; exact h5, h6⟩⟩, ⟨h3.os, h3.tape, h3.output, h3.size, fun k hk _ => h3.block k hk⟩⟩
end Go.Proofs.YtkpikpaepgknnaaGreatDoor

/- A drawn region of two phases: operations that only reckon may come ahead of the one that writes, or behind it. No condition. -/
namespace Go.Wk
open Go
/-- what only reckons -/
def AllU (G : Nat → Value → Prop) (x : Nat → Value) : List Nat → Prop
  | [] => True
  | j :: js => G j (x j) ∧ AllU G x js
theorem allU_of {G : Nat → Value → Prop} {x : Nat → Value} : ∀ {js : List Nat}, (∀ j ∈ js, G j (x j)) → AllU G x js
  | [], _ => trivial
  | _ :: _, h => ⟨h _ (List.mem_cons_self ..), allU_of fun j hj => h j (List.mem_cons_of_mem _ hj)⟩
def StepU (P : Program) (ops : Array Oper) (Q : Exit → Act → World → Prop) (mk : (Nat → Value) → Act) (GU : Nat → Value → Prop) (i : Nat) : Prop :=
  ∀ x w, (∀ j ∈ afters ops i, GU j (x j)) → wpOp P ops Q i (fun a' w' => ∃ v, a' = mk (upd x i v) ∧ w' = w ∧ GU i v) (mk x) w
theorem stepU_of {P : Program} {ops : Array Oper} {Q : Exit → Act → World → Prop} {mk : (Nat → Value) → Act} {GU : Nat → Value → Prop} {i : Nat} {o : Oper} (js : List Nat)
    (ho : ops[i]? = some o) (hj : (js.all fun j => (afters ops i).contains j) = true)
    (h : ∀ x w, AllU GU x js → ∀ K : Act → World → Prop, (∀ v, GU i v → K (mk (upd x i v)) w) →
      if Region.wanted o (yielded ops (mk x).tmps) = true then Oper.wp P o (mk x) w K Q else K ((mk x).put o.dst undef) w) : StepU P ops Q mk GU i := by
  intro x w hd
  unfold wpOp
  simp only [ho]
  have h1 := h x w (allU_of fun j hj' => hd j (List.contains_iff_mem.1 (List.all_eq_true.1 hj j hj'))) (fun a' w' => ∃ v, a' = mk (upd x i v) ∧ w' = w ∧ GU i v) (fun v h => ⟨v, rfl, rfl, h⟩)
  split
  · rename_i hw; rw [if_pos hw] at h1; exact .inl h1
  · rename_i hw; rw [if_neg hw] at h1; obtain ⟨v, h2, h3⟩ := h1; exact ⟨v, h2, by simp, by simpa using h3⟩
section
variable {P : Program} {ops : Array Oper} {Q : Exit → Act → World → Prop}
theorem wpAny_two (mk : (Nat → Value) → Act) {R : World → Prop} {Keeps : World → World → Prop} {Good : Nat → Value → World → Prop} {F : Value → World → Prop} {GU : Nat → Value → Prop} (U : Nat → Bool) (n last : Nat) (hnl : n < last) (hlast : last < ops.size) (l : List Oper) (hll : last + l.length = ops.size) (hl : ∀ j, l[j]? = ops[last + j]?)
    (chain : ((List.range ops.size).all fun j => Nat.ble j last || (afters ops j).contains (j - 1)) = true)
    (back : ((List.range ops.size).all fun i => (afters ops i).all fun j => decide (j < i)) = true)
    (hUn : U n = false) (hbe : ∀ i, n < i → i < last → U i = true)
    (closed : ∀ i, i < last → U i = true → ∀ j ∈ afters ops i, U j = true)
    (wit : List Nat) (cover : ∀ i, i < n → U i = false → i ∈ afters ops (wit.getD i 0) ∧ wit.getD i 0 ≤ n ∧ U (wit.getD i 0) = false)
    (wit2 : List Nat) (cover2 : ∀ i, i < last → i ∈ afters ops (wit2.getD i 0) ∧ wit2.getD i 0 ≤ last)
    (nafter : ∀ j ∈ afters ops n, U j = false ∨ True)
    (mono : ∀ i v w w', U i = false → Good i v w → Keeps w w' → Good i v w')
    (step : ∀ i, i < n → U i = false → ∀ x w, R w → (∀ j ∈ afters ops i, U j = false → Good j (x j) w) → (∀ j ∈ afters ops i, U j = true → GU j (x j)) → wpOp P ops Q i (fun a' w' => ∃ v, a' = mk (upd x i v) ∧ R w' ∧ Keeps w w' ∧ Good i v w') (mk x) w)
    (stepU : ∀ i, i < last → U i = true → StepU P ops Q mk GU i)
    (stepN : ∀ x w, R w → (∀ i, i < n → U i = false → Good i (x i) w) → (∀ j ∈ afters ops n, U j = true → GU j (x j)) → wpOp P ops Q n (fun a' w' => ∃ v, a' = mk (upd x n v) ∧ F v w') (mk x) w)
    (fin : ∀ x w, F (x n) w → (∀ i, i < last → U i = true → GU i (x i)) → wpList P ops Q l (mk x) w) :
    ∀ (fuel : Nat) (listed : Array Bool) (x : Nat → Value) (w : World), listed.toList.count false ≤ fuel → listed.size = ops.size → (∀ j, last ≤ j → j < ops.size → listed.getD j false = false) →
      (∀ i, i < ops.size → listed.getD i false = true → ∀ j ∈ afters ops i, listed.getD j false = true) → (∀ i, i < last → U i = true → listed.getD i false = true → GU i (x i)) →
      ((listed.getD n false = false ∧ R w ∧ (∀ i, i < n → U i = false → listed.getD i false = true → Good i (x i) w)) ∨ ((∀ i, i < last → U i = false → listed.getD i false = true) ∧ F (x n) w)) → wpAny P .any ops Q fuel listed (mk x) w := by
  intro fuel
  induction fuel with
  | zero =>
    intro listed x w hc hs hl0 hd hgu hph
    exact (count_none (i := last) (by omega) (hl0 last (Nat.le_refl _) hlast) hc).elim
  | succ fuel ih =>
    intro listed x w hc hs hl0 hd hgu hph
    refine ⟨fun hr => absurd (all_listed back hs hr last (by omega)) (by rw [hl0 last (Nat.le_refl _) hlast]; simp), fun i hi => ?_⟩
    have hi0 := hi
    obtain ⟨hi', h1, haft⟩ := ready_after hi
    have hd' : ∀ k, k < ops.size → (listed.setIfInBounds i true).getD k false = true → ∀ j ∈ afters ops k, (listed.setIfInBounds i true).getD j false = true := by
      intro k hk hkl j hj
      rw [getD_set _ _ _ _ (by omega)] at hkl ⊢
      by_cases hji : j = i
      · rw [if_pos hji]
      · rw [if_neg hji]
        by_cases hki : k = i
        · subst hki; exact haft j hj
        · rw [if_neg hki] at hkl; exact hd k hk hkl j hj
    have hcu := count_up (fuel := fuel) (by omega) h1 hc
    by_cases hil : i = last
    · subst hil
      -- all others are done
      have hothers : ∀ m k, k < i → i ≤ k + m → listed.getD k false = true := by
        intro m
        induction m with
        | zero => intro k hk hm; omega
        | succ m ihm =>
          intro k hk hm
          obtain ⟨hjk, hjn⟩ := cover2 k hk
          obtain ⟨j, hjj⟩ : ∃ j, j = wit2.getD k 0 := ⟨_, rfl⟩
          rw [← hjj] at hjk hjn
          have hlt := afters_lt (n := 0) back j k (by omega) hjk
          by_cases hji : j = i
          · subst hji; exact haft k hjk
          · exact hd j (by omega) (ihm j (by omega) (by omega)) k hjk
      rcases hph with ⟨hn0, _⟩ | ⟨hnu, hF⟩
      · rw [hothers i n hnl (by omega)] at hn0; cases hn0
      · have htail := fin x w hF fun k hk hu => hgu k hk hu (hothers i k hk (by omega))
        have hiff : ∀ q, q < ops.size → (listed.getD q false = true ↔ q < i) := fun q hq => by
          constructor
          · intro h
            rcases Nat.lt_or_ge q i with h' | h'
            · exact h'
            · rw [hl0 q h' hq] at h; cases h
          · exact fun h => hothers i q h (by omega)
        have hfin := wpAny_tail (P := P) (Q := Q) i back chain l i (fuel + 1) listed (mk x) w (Nat.le_refl _) hll hl hs hc hiff htail
        exact hfin.2 i hi0
    · have hill : i < last := by
        rcases Nat.lt_or_ge i last with h | h
        · exact h
        · exfalso
          have hch := List.all_eq_true.1 chain i (List.mem_range.2 hi')
          rw [Bool.or_eq_true] at hch
          rcases hch with hch | hch
          · have := Nat.le_of_ble_eq_true hch; omega
          · have := haft _ (List.contains_iff_mem.1 hch)
            rw [hl0 (i - 1) (by omega) (by omega)] at this; cases this
      have hl0' : ∀ j, last ≤ j → j < ops.size → (listed.setIfInBounds i true).getD j false = false := fun j hj hj2 => by rw [getD_set _ _ _ _ (by omega), if_neg (by omega)]; exact hl0 j hj hj2
      by_cases hui : U i = true
      · refine wpOp_mono ?_ (stepU i hill hui x w fun j hj => hgu j (by have := afters_lt (n := 0) back i j hi' hj; omega) (closed i hill hui j hj) (haft j hj))
        rintro a' w' ⟨v, rfl, rfl, hg⟩
        refine ih _ _ _ hcu (by simpa using hs) hl0' hd' ?_ ?_
        · intro j hj hju hjl
          rw [getD_set _ _ _ _ (by omega)] at hjl
          unfold upd
          by_cases hji : j = i
          · subst hji; simpa using hg
          · rw [if_neg hji] at hjl ⊢
            exact hgu j hj hju hjl
        · rcases hph with ⟨hn0, hR, hG⟩ | ⟨hnu, hF⟩
          · have hni : n ≠ i := fun e => by rw [← e, hUn] at hui; cases hui
            refine .inl ⟨by rw [getD_set _ _ _ _ (by omega), if_neg hni]; exact hn0, hR, fun j hj hju hjl => ?_⟩
            have hji : j ≠ i := fun e => by rw [e, hui] at hju; cases hju
            rw [getD_set _ _ _ _ (by omega), if_neg hji] at hjl
            unfold upd; rw [if_neg hji]; exact hG j hj hju hjl
          · have hni : n ≠ i := fun e => by rw [← e, hUn] at hui; cases hui
            refine .inr ⟨fun j hj hju => ?_, by unfold upd; rw [if_neg hni]; exact hF⟩
            have hji : j ≠ i := fun e => by rw [e, hui] at hju; cases hju
            rw [getD_set _ _ _ _ (by omega), if_neg hji]; exact hnu j hj hju
      · have hui : U i = false := by simpa using hui
        rcases hph with ⟨hn0, hR, hG⟩ | ⟨hnu, hF⟩
        · have hin : i ≤ n := by
            rcases Nat.lt_or_ge n i with h | h
            · rw [hbe i h hill] at hui; cases hui
            · exact h
          by_cases hni : i = n
          · subst hni
            have hothers : ∀ m k, k < i → i ≤ k + m → U k = false → listed.getD k false = true := by
              intro m
              induction m with
              | zero => intro k hk hm; omega
              | succ m ihm =>
                intro k hk hm hku
                obtain ⟨hjk, hjn, hju⟩ := cover k hk hku
                obtain ⟨j, hjj⟩ : ∃ j, j = wit.getD k 0 := ⟨_, rfl⟩
                rw [← hjj] at hjk hjn hju
                have hlt := afters_lt (n := 0) back j k (by omega) hjk
                by_cases hji : j = i
                · subst hji; exact haft k hjk
                · exact hd j (by omega) (ihm j (by omega) (by omega) hju) k hjk
            refine wpOp_mono ?_ (stepN x w hR (fun k hk hku => hG k hk hku (hothers i k hk (by omega) hku)) (fun j hj hju => hgu j (by have := afters_lt (n := 0) back i j hi' hj; omega) hju (haft j hj)))
            rintro a' w' ⟨v, rfl, hF⟩
            refine ih _ _ _ hcu (by simpa using hs) hl0' hd' ?_ (.inr ⟨fun j hj hju => ?_, by unfold upd; simpa using hF⟩)
            · intro j hj hju hjl
              have hji : j ≠ i := fun e => by rw [e, hui] at hju; cases hju
              rw [getD_set _ _ _ _ (by omega), if_neg hji] at hjl
              unfold upd; rw [if_neg hji]; exact hgu j hj hju hjl
            · rw [getD_set _ _ _ _ (by omega)]
              by_cases hji : j = i
              · rw [if_pos hji]
              · rw [if_neg hji]
                rcases Nat.lt_or_ge j i with h | h
                · exact hothers i j h (by omega) hju
                · rw [hbe j (by omega) hj] at hju; cases hju
          · refine wpOp_mono ?_ (step i (by omega) hui x w hR (fun j hj hju => hG j (by have := afters_lt (n := 0) back i j hi' hj; omega) hju (haft j hj)) (fun j hj hju => hgu j (by have := afters_lt (n := 0) back i j hi' hj; omega) hju (haft j hj)))
            rintro a' w' ⟨v, rfl, hR', hK, hg⟩
            refine ih _ _ _ hcu (by simpa using hs) hl0' hd' ?_ (.inl ⟨by rw [getD_set _ _ _ _ (by omega), if_neg (fun e => hni e.symm)]; exact hn0, hR', fun j hj hju hjl => ?_⟩)
            · intro j hj hju hjl
              have hji : j ≠ i := fun e => by rw [e, hui] at hju; cases hju
              rw [getD_set _ _ _ _ (by omega), if_neg hji] at hjl
              unfold upd; rw [if_neg hji]; exact hgu j hj hju hjl
            · rw [getD_set _ _ _ _ (by omega)] at hjl
              unfold upd
              by_cases hji : j = i
              · subst hji; simpa using hg
              · rw [if_neg hji] at hjl ⊢
                exact mono _ _ _ _ hju (hG j hj hju hjl) hK
        · have := hnu i hill hui
          have hil2 : i < listed.size := by omega
          simp only [Array.getD_eq_getD_getElem?, Array.getElem?_eq_getElem hil2, Option.getD_some] at h1 this
          rw [h1] at this; cases this
end
theorem wp_lin_two {P : Program} {ops : Array Oper} {Q : Exit → Act → World → Prop} {id : Nat} {tm : List Value} {df : List Deferred} {w0 : World} (hm : P.follows .mixedOrders = true) (ss : List (Option Nat))
    (R : World → Prop) (Keeps : World → World → Prop) (G : Nat → Value → World → Prop) (F : Value → World → Prop) (GU : Nat → Value → Prop) (U : Nat → Bool)
    (h0 : fillL tm ss (oldX tm ss) = tm)
    (back : ((List.range ops.size).all fun i => (afters ops i).all fun j => decide (j < i)) = true)
    (n last : Nat) (on : Oper) (l : List Oper) (hdr : ops.toList.drop last = l) (hon : ops[n]? = some on) (hnl : n < last) (hls : last < ops.size)
    (chain : ((List.range ops.size).all fun j => Nat.ble j last || (afters ops j).contains (j - 1)) = true)
    (hU : (!U n && ((List.range last).all fun i => (Nat.ble i n || U i) && (!U i || (afters ops i).all U))) = true)
    (wit : List Nat) (cover : ((List.range n).all fun i => U i || ((afters ops (wit.getD i 0)).contains i && Nat.ble (wit.getD i 0) n && !U (wit.getD i 0))) = true)
    (wit2 : List Nat) (cover2 : ((List.range last).all fun i => (afters ops (wit2.getD i 0)).contains i && Nat.ble (wit2.getD i 0) last) = true)
    (hR : R w0.drew)
    (mono : ∀ i v w w', G i v w → Keeps w w' → G i v w')
    (step : Steps (fun i => i = n ∨ (U i = true ∧ StepU P ops Q (fun x => { tmps := (fillL tm ss x).toArray, defers := df }) GU i) ∨ (U i = false ∧ Step P ops Q (fun x => { tmps := (fillL tm ss x).toArray, defers := df }) R Keeps (fun j v w => if U j = true then GU j v else G j v w) i)) last)
    (stepN : ∀ x w, R w → (∀ i, i < n → U i = false → G i (x i) w) → (∀ j ∈ afters ops n, U j = true → GU j (x j)) → ∀ K : Act → World → Prop, (∀ v w', F v w' → K { tmps := (fillL tm ss (upd x n v)).toArray, defers := df } w') →
      ∀ fr, fr = fillL tm ss x → if Region.wanted on (yielded ops fr.toArray) = true then Oper.wp P on { tmps := fr.toArray, defers := df } w K Q else K (({ tmps := fr.toArray, defers := df } : Act).put on.dst undef) w)
    (done : ∀ x w, F (x n) w → (∀ i, i < last → U i = true → GU i (x i)) → ∀ fr, fr = fillL tm ss x → wpList P ops Q l { tmps := fr.toArray, defers := df } w) :
    (Code.region id ops true).wp P Q { tmps := tm.toArray, defers := df } w0 := by
  have e0 : ({ tmps := tm.toArray, defers := df } : Act) = (fun x => ({ tmps := (fillL tm ss x).toArray, defers := df } : Act)) (oldX tm ss) := by simp only [h0]
  rw [e0]
  rw [Bool.and_eq_true] at hU
  have hU2 : ∀ i, i < last → (i ≤ n ∨ U i = true) ∧ (U i = true → ∀ j ∈ afters ops i, U j = true) := fun i hi => by
    have := List.all_eq_true.1 hU.2 i (List.mem_range.2 hi)
    rw [Bool.and_eq_true, Bool.or_eq_true, Bool.or_eq_true] at this
    refine ⟨this.1.imp Nat.le_of_ble_eq_true fun h => h, fun hu j hj => ?_⟩
    rcases this.2 with h | h
    · rw [hu] at h; cases h
    · exact List.all_eq_true.1 h j hj
  have hst := fun i hi => each_all step.each i hi
  refine wp_region_any hm (wpAny_two (R := R) (Keeps := Keeps) (Good := G) (F := F) (GU := GU) (mk := fun x => { tmps := (fillL tm ss x).toArray, defers := df }) U n last hnl hls l (by rw [← hdr]; simp; omega) (fun j => by rw [← hdr, List.getElem?_drop]; simp) chain back (by simpa using hU.1) (fun i h1 h2 => ((hU2 i h2).1).elim (fun h => by omega) fun h => h) (fun i hi hu => (hU2 i hi).2 hu)
    wit (fun i hi hu => by
      have := List.all_eq_true.1 cover i (List.mem_range.2 hi)
      rw [hu, Bool.false_or, Bool.and_eq_true, Bool.and_eq_true] at this
      exact ⟨List.contains_iff_mem.1 this.1.1, Nat.le_of_ble_eq_true this.1.2, by simpa using this.2⟩)
    wit2 (fun i hi => by
      have := List.all_eq_true.1 cover2 i (List.mem_range.2 hi)
      rw [Bool.and_eq_true] at this
      exact ⟨List.contains_iff_mem.1 this.1, Nat.le_of_ble_eq_true this.2⟩)
    (fun _ _ => .inr trivial) (fun i v w w' _ => mono i v w w')
    (fun i hi hu x w hR hg hgu => by
      rcases hst i (by omega) with rfl | ⟨h, _⟩ | ⟨_, h⟩
      · omega
      · rw [hu] at h; cases h
      · refine wpOp_mono ?_ (h x w hR fun j hj => ?_)
        · rintro a' w' ⟨v, h1, h2, h3, h4⟩
          refine ⟨v, h1, h2, h3, ?_⟩
          rw [if_neg (by rw [hu]; simp)] at h4; exact h4
        · cases hq : U j with
          | true => rw [if_pos hq]; exact hgu j hj hq
          | false => rw [if_neg (by rw [hq]; simp)]; exact hg j hj hq)
    (fun i hi hu => by
      rcases hst i hi with rfl | ⟨_, h⟩ | ⟨h, _⟩
      · simp [hu] at hU
      · exact h
      · rw [hu] at h; cases h)
    (fun x w hR hg hgu => by
      have h1 := stepN x w hR hg hgu (fun a' w' => ∃ v, a' = ({ tmps := (fillL tm ss (upd x n v)).toArray, defers := df } : Act) ∧ F v w') (fun v w' h => ⟨v, rfl, h⟩) _ rfl
      unfold wpOp
      simp only [hon]
      split
      · rename_i hw; rw [if_pos hw] at h1; exact .inl h1
      · rename_i hw; rw [if_neg hw] at h1; exact h1)
    (fun x w hF hu => done x w hF hu _ rfl) _ _ _ _ ?_ (by simp) ?_ ?_ ?_ (.inl ⟨?_, hR, ?_⟩))
  · simp
  · intro j _ hj
    simp [Array.getD_eq_getD_getElem?, hj]
  · intro i hi hl
    simp [Array.getD_eq_getD_getElem?, hi] at hl
  · intro i hi _ hl
    have : i < ops.size := by omega
    simp [Array.getD_eq_getD_getElem?, this] at hl
  · have : n < ops.size := by omega
    simp [Array.getD_eq_getD_getElem?, this]
  · intro i hi _ hl
    have : i < ops.size := by omega
    simp [Array.getD_eq_getD_getElem?, this] at hl
end Go.Wk

/- A property put into a list of them. No condition. -/
namespace Go.Proofs.YtkpikpaepgknnaaGreatDoor
open Go Go.RowKit Go.Wk Go.Xt Go.Xe Go.Xw
theorem row_out {w : World} {B : Nat} {v : Value} {l : List PA} (h : w.ownsRow B 38 4 v l.length (flatP l)) : ∃ A g cap, v = .slice A l.length cap ∧ (0 < l.length → A = some ⟨g, 0, none⟩) ∧ l.length ≤ cap ∧ CellsP w g l := by
  rcases h.2 with ⟨rfl, h0⟩ | ⟨g, cap, cur, rfl, _, hh, hnc, _, _, htk⟩
  · have : l = [] := List.eq_nil_of_length_eq_zero h0
    subst this
    exact ⟨none, 0, 0, rfl, fun h => by simp at h, Nat.le_refl _, fun i hi => by simp at hi⟩
  · refine ⟨_, g, cap, rfl, fun _ => rfl, hnc, fun i hi => ?_⟩
    have hc : ∀ j u, (prs l[i])[j]? = some u → j < 4 → w.cell? ⟨g, i * 4 + j, none⟩ = some u := fun j u hu hj => by
      rw [cell_of_row w g _ cur 38 (0, 0) hh, ← Array.getElem?_toList]
      have h1 := flat_at l i j hi hj
      rw [hu, ← htk, List.getElem?_take, if_pos (by omega)] at h1
      exact h1
    exact ⟨hc 0 _ rfl (by omega), hc 1 _ rfl (by omega), hc 2 _ rfl (by omega), hc 3 _ rfl (by omega)⟩
theorem row_kept {w w' : World} {B e s n : Nat} {v : Value} {xs : List Value} (h : w.ownsRow B e s v n xs) (hb : Below w.heap.size w w') : w'.ownsRow B e s v n xs := by
  refine ⟨h.1, ?_⟩
  rcases h.2 with h2 | ⟨g, cap, cur, e', hB, hh, rest⟩
  · exact .inl h2
  · exact .inr ⟨g, cap, cur, e', hB, (hb.block g (Array.getElem?_eq_some_iff.1 hh).1).trans hh, rest⟩
theorem row_lt {w : World} {B e s n q : Nat} {v : Value} {xs : List Value} (h : w.ownsRow B e s v n xs) (hq : v.ownBlock = some q) : B ≤ q ∧ q < w.heap.size := by
  rcases h.2 with ⟨rfl, _⟩ | ⟨g, cap, cur, rfl, hB, hh, _⟩
  · simp [Value.ownBlock] at hq
  · simp [Value.ownBlock] at hq; subst hq; exact ⟨hB, (Array.getElem?_eq_some_iff.1 hh).1⟩
/-- a list of properties in memory -/
structure ListAt (w : World) (L B : Nat) (l : List PA) : Prop where
  v : ∃ v, Blk w L 59 #[v] ∧ w.ownsRow B 38 4 v l.length (flatP l)
  lb : L < B
  size : B ≤ w.heap.size
  sorted : Sorted (pl l)
theorem ListAt.below {w w' : World} {L B : Nat} {l : List PA} (h : ListAt w L B l) (hb : Below w.heap.size w w') : ListAt w' L B l := by
  obtain ⟨⟨v, h1, h2⟩, h3, h4, h5⟩ := h
  exact ⟨⟨v, h1.below hb h1.lt, row_kept h2 hb⟩, h3, Nat.le_trans h4 hb.size, h5⟩
theorem set_gr (w : World) (g i : Nat) (v : Value) : w.grownBy (w.setCell ⟨g, i, none⟩ v) (some g) :=
  ⟨rfl, rfl, rfl, by simp [World.setCell], fun k _ hk => Below.heap_setCell _ _ _ _ (fun e => hk (by rw [e]))⟩
def GA1 (L bx : Nat) (vv : Value) (ax : Array Value) (P : Nat) (Z : Bool) : Nat → Value → World → Prop := fun j v _ => match j with
  | 0 => v = .pointer (some ⟨L, 0, none⟩)
  | 1 => v = .pointer (some ⟨L, 0, none⟩)
  | 2 => v = vv
  | 3 => v = .agg ax
  | 4 => v = .tuple #[.int .i64 (P : Nat), .bool Z]
  | 5 => v = .tuple #[.int .i64 (P : Nat), .bool Z]
  | 6 => v = .int .i64 (P : Nat)
  | 7 => v = .bool Z
  | _ => v = .int .i64 (P : Nat)
theorem GA1_mono {L bx : Nat} {vv : Value} {ax : Array Value} {P : Nat} {Z : Bool} (j : Nat) (v : Value) (w w' : World) (hG : GA1 L bx vv ax P Z j v w) (hk : Below w.heap.size w w') : GA1 L bx vv ax P Z j v w' := by
  unfold GA1 at hG ⊢; exact hG
def GA4 (L S : Nat) (vv : Value) (x : PA) (P : Nat) : Nat → Value → World → Prop := fun j v w => match j with
  | 1 => v = .pointer (some ⟨L, 0, none⟩)
  | 2 => v = .pointer (some ⟨L, 0, none⟩)
  | 3 => v = vv
  | 4 => v = .int .i64 (P : Nat)
  | 5 => v = .agg (prs x).toArray
  | _ => ∃ q, v = .slice (some ⟨q, 0, none⟩) 1 1 ∧ Blk w q 38 (prs x).toArray ∧ S ≤ q
theorem GA4_mono {L S : Nat} {vv : Value} {x : PA} {P : Nat} (j : Nat) (v : Value) (w w' : World) (hG : GA4 L S vv x P j v w) (hk : Below w.heap.size w w') : GA4 L S vv x P j v w' := by
  unfold GA4 at hG ⊢
  split at hG <;> first
    | exact hG
    | (obtain ⟨q, h1, h2, h3⟩ := hG; exact ⟨q, h1, h2.below hk h2.lt, h3⟩)
def UA (i : Nat) : Bool := i == 0
def GUA (L : Nat) : Nat → Value → Prop := fun _ v => v = .pointer (some ⟨L, 0, none⟩)
/-- behind the insertion -/
def FA (w : World) (L B : Nat) (vv : Value) (r : List PA) (n : Nat) (v : Value) (w' : World) : Prop := (∃ a m c, v = .slice a m c) ∧ Blk w' L 59 #[vv] ∧ w'.ownsRow B 38 4 v n (flatP r) ∧ Below (L + 1) w w' ∧ B ≤ w'.heap.size
set_option maxHeartbeats 16000000 in
set_option maxRecDepth 100000 in
theorem xmp_add {w : World} (L B : Nat) (l : List PA) (h : ListAt w L B l) (hn : l.length < 20) (x : PA) :
    Calls Tryz.prog 26 #[.pointer (some ⟨L, 0, none⟩), prV x.1 (.slice x.2.1 x.1.it.length x.2.2)] w fun e w' =>
      e = .returned (.bool (addP (pl l) x.1).isSome) ∧ Below L w w' ∧ ((addP (pl l) x.1).isSome = true → ListAt w' L B (l.take (posP x.1 (pl l)) ++ x :: l.drop (posP x.1 (pl l)))) := by
  obtain ⟨⟨vv, hL, hO⟩, hlb, hsz, hso⟩ := h
  obtain ⟨A, g, cap, rfl, hA, hcp, hcs⟩ := row_out hO
  obtain ⟨W1, hW1⟩ : ∃ W, W = w.alloc (.cells #[.string x.1.sp, .string x.1.nm, .int .i64 x.1.kd, .slice x.2.1 x.1.it.length x.2.2] 38) := ⟨_, rfl⟩
  have hb1 : Below w.heap.size w W1 := by rw [hW1]; exact (Below.refl _ _).alloc (Nat.le_refl _) _
  have hR : Blk W1 w.heap.size 38 #[.string x.1.sp, .string x.1.nm, .int .i64 x.1.kd, .slice x.2.1 x.1.it.length x.2.2] := by rw [hW1]; exact Blk.new w 38 _
  have cs := fun W (hW : Below w.heap.size w W) => xmp_search (w := W) A g cap l hA (by omega) hcp (hcs.below hW) x.1 x.2.1 x.1.it.length x.2.2 hso
  obtain ⟨P, hP⟩ : ∃ P, P = posP x.1 (pl l) := ⟨_, rfl⟩
  have hPn : P ≤ l.length := by rw [hP, ← pl_len l]; exact pos_le _ _
  have hins := fun (hz : hasP x.1 (pl l) = false) => sorted_ins hso hz
  unfold insP at hins
  have ea : addP (pl l) x.1 = if (hasP x.1 (pl l) || x.1.sp.toList == rdfL) then none else some (insP x.1 (pl l)) := rfl
  rw [← hP] at cs hins ⊢
  have hsort : hasP x.1 (pl l) = false → Sorted (pl (l.take P ++ x :: l.drop P)) := fun hz => by
    have := hins hz
    unfold pl at this ⊢
    rw [List.map_append, List.map_cons, List.map_take, List.map_drop]; exact this
  generalize hasP x.1 (pl l) = Z at cs hsort ea
  rw [ea]
  have hrl : ((if (Z || x.1.sp.toList == rdfL) = true then none else some (insP x.1 (pl l)) : Option (List Pr)).isSome) = (!Z && !(x.1.sp.toList == rdfL)) := by
    cases Z <;> cases (x.1.sp.toList == rdfL) <;> rfl
  rw [hrl]
  clear hrl hins ea
  obtain ⟨r0, r1, r2, r3⟩ := blk4 hR
  have hc0 := fun W (hW : Below W1.heap.size W1 W) => And.intro ((hW.cell (cell_lt r0)).trans r0) (And.intro ((hW.cell (cell_lt r1)).trans r1) (And.intro ((hW.cell (cell_lt r2)).trans r2) ((hW.cell (cell_lt r3)).trans r3)))
  have hL1 := hL.below hb1 hL.lt
  have l1 := hL1.cell 0
  have hl0 := fun W (hW : Below W1.heap.size W1 W) => (hW.cell (cell_lt l1)).trans l1
  have hO1 := row_kept hO hb1
  obtain ⟨n, hnn⟩ : ∃ n, n = l.length := ⟨_, rfl⟩
  rw [← hnn] at cs hL hL1 l1 hl0 hO hO1 hPn
  unfold prV at cs ⊢
  replace cs := Lib.hid cs
  replace hc0 := Lib.hid hc0
  replace hl0 := Lib.hid hl0
  replace hb1 := Lib.hid hb1
  replace hL1 := Lib.hid hL1
  replace hO1 := Lib.hid hO1
  replace hsort := Lib.hid hsort
  replace hP := Lib.hid hP
  replace hnn := Lib.hid hnn
  replace hPn := Lib.hid hPn
  replace hlb := Lib.hid hlb
  clear hA hcp hcs hso hR hL hO r0 r1 r2 r3 l1
  go_enter Tryz.func26, Tryz.ntmps26
  go_upto_region 1 with (fail)
  rw [← hW1]
  replace hW1 := Lib.hid hW1
  refine wp_lin_tail (by kernel_rfl) [none, none, none, none, none, some 8, none, some 5, some 0, some 1, some 2, some 3, some 4, some 6, some 7, none, none, none, none, none, none, none, none, none, none, none, none, none, none, none] (fun w' => Below W1.heap.size W1 w') (fun w' w'' => Below w'.heap.size w' w'') (GA1 L w.heap.size (.slice A n cap) #[.string x.1.sp, .string x.1.nm, .int .i64 x.1.kd, .slice x.2.1 x.1.it.length x.2.2] P Z) (by rfl) (by kernel_rfl) 9 _ rfl (by decide) (by kernel_rfl) [9, 9, 9, 9, 9, 9, 9, 9, 9] (by kernel_rfl) ?shR ?smono (.cons 8 (Wk.step_of [6] rfl (by kernel_rfl) ?s8) (.cons 7 (Wk.step_of [5] rfl (by kernel_rfl) ?s7) (.cons 6 (Wk.step_of [5] rfl (by kernel_rfl) ?s6) (.cons 5 (Wk.step_of [4] rfl (by kernel_rfl) ?s5) (.cons 4 (Wk.step_of [2, 3] rfl (by kernel_rfl) ?s4) (.cons 3 (Wk.step_of [] rfl (by kernel_rfl) ?s3) (.cons 2 (Wk.step_of [1] rfl (by kernel_rfl) ?s2) (.cons 1 (Wk.step_of [0] rfl (by kernel_rfl) ?s1) (.cons 0 (Wk.step_of [] rfl (by kernel_rfl) ?s0) (.nil)))))))))) ?sdone
  case shR => exact (Below.refl _ _).drew
  case smono => exact GA1_mono
  case s0 =>
    intro x' w' hRw hd K' hK
    simp only [All, GA1] at hd
    simp (config := {decide := true}) only [upd, GA1, fillL, if_true, if_false] at hK ⊢
    go_simp
    have hK2 := hK _ _ ⟨hRw, Below.refl _ _, rfl⟩
    exact hK2
  case s1 =>
    intro x' w' hRw hd K' hK
    simp only [All, GA1] at hd
    obtain ⟨e0, _⟩ := hd
    simp (config := {decide := true}) only [upd, GA1, fillL, if_true, if_false] at hK ⊢
    simp only [e0] at hK ⊢
    go_simp
    have hK2 := hK _ _ ⟨hRw, Below.refl _ _, rfl⟩
    exact hK2
  case s2 =>
    intro x' w' hRw hd K' hK
    simp only [All, GA1] at hd
    obtain ⟨e1, _⟩ := hd
    simp (config := {decide := true}) only [upd, GA1, fillL, if_true, if_false] at hK ⊢
    simp only [e1] at hK ⊢
    have z0 := hl0.out w' hRw
    go_simp
    have hK2 := hK _ _ ⟨hRw, Below.refl _ _, rfl⟩
    exact hK2
  case s3 =>
    intro x' w' hRw hd K' hK
    simp only [All, GA1] at hd
    simp (config := {decide := true}) only [upd, GA1, fillL, if_true, if_false] at hK ⊢
    obtain ⟨y0, y1, y2, y3⟩ := hc0.out w' hRw
    go_simp
    have hK2 := hK _ _ ⟨hRw, Below.refl _ _, rfl⟩
    exact hK2
  case s4 =>
    intro x' w' hRw hd K' hK
    simp only [All, GA1] at hd
    obtain ⟨e2, e3, _⟩ := hd
    simp (config := {decide := true}) only [upd, GA1, fillL, if_true, if_false] at hK ⊢
    simp only [e2, e3] at hK ⊢
    go_simp
    refine (cs.out w' (bthen hb1.out hRw)).mono ?_
    rintro e' w2 ⟨rfl, hB9⟩
    have hK2 := hK _ _ ⟨bthen hRw hB9, hB9, rfl⟩
    exact hK2
  case s5 =>
    intro x' w' hRw hd K' hK
    simp only [All, GA1] at hd
    obtain ⟨e4, _⟩ := hd
    simp (config := {decide := true}) only [upd, GA1, fillL, if_true, if_false] at hK ⊢
    simp only [e4] at hK ⊢
    go_simp
    have hK2 := hK _ _ ⟨hRw, Below.refl _ _, rfl⟩
    exact hK2
  case s6 =>
    intro x' w' hRw hd K' hK
    simp only [All, GA1] at hd
    obtain ⟨e5, _⟩ := hd
    simp (config := {decide := true}) only [upd, GA1, fillL, if_true, if_false] at hK ⊢
    simp only [e5] at hK ⊢
    go_simp
    have hK2 := hK _ _ ⟨hRw, Below.refl _ _, rfl⟩
    exact hK2
  case s7 =>
    intro x' w' hRw hd K' hK
    simp only [All, GA1] at hd
    obtain ⟨e5, _⟩ := hd
    simp (config := {decide := true}) only [upd, GA1, fillL, if_true, if_false] at hK ⊢
    simp only [e5] at hK ⊢
    go_simp
    have hK2 := hK _ _ ⟨hRw, Below.refl _ _, rfl⟩
    exact hK2
  case s8 =>
    intro x' w' hRw hd K' hK
    simp only [All, GA1] at hd
    obtain ⟨e6, _⟩ := hd
    simp (config := {decide := true}) only [upd, GA1, fillL, if_true, if_false] at hK ⊢
    simp only [e6] at hK ⊢
    go_simp
    have hK2 := hK _ _ ⟨hRw, Below.refl _ _, rfl⟩
    exact hK2
  case sdone =>
    intro x' w2 hR2 hG fr hfr
    have e7 := hG 7 (by omega)
    have e8 := hG 8 (by omega)
    simp only [GA1] at e7 e8
    simp only [fillL] at hfr
    rw [e7, e8] at hfr
    clear hG e7 e8
    have hL2 := hL1.out.below hR2 hL1.out.lt
    have hO2 := row_kept hO1.out hR2
    have hb2 := bthen hb1.out hR2
    obtain ⟨y0, y1, y2, y3⟩ := hc0.out w2 hR2
    have hc2 := fun W (hW : Below w2.heap.size w2 W) => hc0.out W (bthen hR2 hW)
    have hl2 := fun W (hW : Below w2.heap.size w2 W) => hl0.out W (bthen hR2 hW)
    replace hc2 := Lib.hid hc2
    replace hl2 := Lib.hid hl2
    replace hL2 := Lib.hid hL2
    replace hO2 := Lib.hid hO2
    replace hb2 := Lib.hid hb2
    clear hR2 hc0 hl0 cs hb1 hL1 hO1
    subst hfr
    have hLw : L ≤ w.heap.size := Nat.le_trans (Nat.le_of_lt hlb.out) hsz
    cases Z with
    | true =>
      go_wp2
      go_ret
      first | exact ⟨rfl, hb2.out.mono hLw, fun h => by simp at h⟩ | exact ⟨rfl, hb2.out.mono hLw⟩
    | false =>
      cases hrd : (x.1.sp.toList == rdfL) with
      | true =>
        have hrd2 := hrd
        unfold rdfL at hrd2
        go_wp2
        go_ret
        first | exact ⟨rfl, hb2.out.mono hLw, fun h => by simp at h⟩ | exact ⟨rfl, hb2.out.mono hLw⟩
      | false =>
        have hrd2 := hrd
        unfold rdfL at hrd2
        have hst := hsort.out rfl
        replace hst := Lib.hid hst
        clear hsort
        replace hrd := Lib.hid hrd
        go_upto_region 4 with (fail)
        refine wp_lin_two (by kernel_rfl) [none, none, none, none, none, none, none, none, none, none, none, none, none, none, none, none, none, none, none, none, none, some 0, some 1, some 2, some 3, some 4, some 5, some 6, some 7, none] (fun w' => Below w2.heap.size w2 w') (fun w' w'' => Below w'.heap.size w' w'') (GA4 L w2.heap.size (.slice A n cap) x P) (FA w L B (.slice A n cap) (l.take P ++ x :: l.drop P) (n + 1)) (GUA L) UA (by rfl) (by kernel_rfl) 7 8 _ _ rfl rfl (by decide) (by decide) (by kernel_rfl) (by kernel_rfl) [0, 2, 3, 7, 7, 6, 7] (by kernel_rfl) [8, 8, 8, 8, 8, 8, 8, 8] (by kernel_rfl) ?thR ?tmono (.cons 7 (.inl rfl) (.cons 6 (.inr (.inr ⟨rfl, Wk.step_of [5] rfl (by kernel_rfl) ?t6⟩)) (.cons 5 (.inr (.inr ⟨rfl, Wk.step_of [] rfl (by kernel_rfl) ?t5⟩)) (.cons 4 (.inr (.inr ⟨rfl, Wk.step_of [] rfl (by kernel_rfl) ?t4⟩)) (.cons 3 (.inr (.inr ⟨rfl, Wk.step_of [2] rfl (by kernel_rfl) ?t3⟩)) (.cons 2 (.inr (.inr ⟨rfl, Wk.step_of [1] rfl (by kernel_rfl) ?t2⟩)) (.cons 1 (.inr (.inr ⟨rfl, Wk.step_of [] rfl (by kernel_rfl) ?t1⟩)) (.cons 0 (.inr (.inl ⟨rfl, stepU_of [] rfl (by kernel_rfl) ?t0⟩)) (.nil))))))))) ?tsN ?tdone
        case thR => exact (Below.refl _ _).drew
        case tmono => exact GA4_mono
        case t0 =>
          intro x' w' hd K' hK
          simp only [AllU, GUA] at hd
          simp (config := {decide := true}) only [upd, GUA, fillL, if_true, if_false] at hK ⊢
          go_simp
          have hK2 := hK _ rfl
          exact hK2
        case t1 =>
          intro x' w' hRw hd K' hK
          simp (config := {decide := true}) only [All, GA4, UA, if_true, if_false] at hd
          simp (config := {decide := true}) only [upd, GA4, UA, fillL, if_true, if_false] at hK ⊢
          go_simp
          have hK2 := hK _ _ ⟨hRw, Below.refl _ _, rfl⟩
          exact hK2
        case t2 =>
          intro x' w' hRw hd K' hK
          simp (config := {decide := true}) only [All, GA4, UA, if_true, if_false] at hd
          obtain ⟨e1, _⟩ := hd
          simp (config := {decide := true}) only [upd, GA4, UA, fillL, if_true, if_false] at hK ⊢
          simp only [e1] at hK ⊢
          go_simp
          have hK2 := hK _ _ ⟨hRw, Below.refl _ _, rfl⟩
          exact hK2
        case t3 =>
          intro x' w' hRw hd K' hK
          simp (config := {decide := true}) only [All, GA4, UA, if_true, if_false] at hd
          obtain ⟨e2, _⟩ := hd
          simp (config := {decide := true}) only [upd, GA4, UA, fillL, if_true, if_false] at hK ⊢
          simp only [e2] at hK ⊢
          have z0 := hl2.out w' hRw
          go_simp
          have hK2 := hK _ _ ⟨hRw, Below.refl _ _, rfl⟩
          exact hK2
        case t4 =>
          intro x' w' hRw hd K' hK
          simp (config := {decide := true}) only [All, GA4, UA, if_true, if_false] at hd
          simp (config := {decide := true}) only [upd, GA4, UA, fillL, if_true, if_false] at hK ⊢
          go_simp
          have hK2 := hK _ _ ⟨hRw, Below.refl _ _, rfl⟩
          exact hK2
        case t5 =>
          intro x' w' hRw hd K' hK
          simp (config := {decide := true}) only [All, GA4, UA, if_true, if_false] at hd
          simp (config := {decide := true}) only [upd, GA4, UA, fillL, if_true, if_false] at hK ⊢
          obtain ⟨y0, y1, y2, y3⟩ := hc2.out w' hRw
          go_simp
          have hK2 := hK _ _ ⟨hRw, Below.refl _ _, rfl⟩
          exact hK2
        case t6 =>
          intro x' w' hRw hd K' hK
          simp (config := {decide := true}) only [All, GA4, UA, if_true, if_false] at hd
          obtain ⟨e5, _⟩ := hd
          simp (config := {decide := true}) only [upd, GA4, UA, fillL, if_true, if_false] at hK ⊢
          simp only [e5] at hK ⊢
          unfold prs at hK ⊢
          go_simp
          have hba : Below w'.heap.size w' (w'.alloc (.cells #[.string x.1.sp, .string x.1.nm, .int .i64 x.1.kd, .slice x.2.1 x.1.it.length x.2.2] 38)) := (Below.refl _ _).alloc (Nat.le_refl _) _
          have hK2 := hK _ _ ⟨bthen hRw hba, hba, _, rfl, Blk.new w' 38 _, hRw.size⟩
          exact hK2
        case tsN =>
          intro x' w6 hR6 hG _ K' hK fr hfr
          have a3 := hG 3 (by omega) rfl
          have a4 := hG 4 (by omega) rfl
          have a6 := hG 6 (by omega) rfl
          simp only [GA4] at a3 a4 a6
          clear hG
          obtain ⟨q, a6, hq, hqs⟩ := a6
          have hO6 := row_kept hO2.out hR6
          have hL6 := hL2.out.below hR6 hL2.out.lt
          have hB6 := bthen hb2.out hR6
          have z2 := hb2.out.size
          have z6 := hR6.size
          have hO2' := hO2.out
          have ci := xmp_insert (w := w6) B (.slice A n cap) l P (by have := hPn.out; have := hnn.out; omega) (by omega) (by rw [← hnn.out]; exact hO6) q x hq (fun e => by have := (row_lt hO2' e).2; omega) (by omega)
          simp only [fillL] at hfr
          rw [a3, a4, a6] at hfr
          subst hfr
          rw [if_pos (show Region.wanted _ _ = true from rfl)]
          go_simp
          refine ci.mono ?_
          rintro e' w7 ⟨v7, rfl, h71, h72⟩
          have hLlt := hlb.out
          have hnL : some L ≠ (Value.slice A n cap).ownBlock := fun e => by have := (row_lt hO6 e.symm).1; omega
          have hsl : ∃ a m c, v7 = .slice a m c := by rcases h71.2 with ⟨rfl, _⟩ | ⟨_, _, _, rfl, _⟩ <;> exact ⟨_, _, _, rfl⟩
          have hK2 := hK v7 w7 ⟨hsl, hL6.grown h72 hnL, by rw [hnn.out]; exact h71, (hB6.mono (by omega)).grown h72 (by omega) (fun k hk => by have := (row_lt hO6 hk).1; omega), by have := h72.size; omega⟩
          simp (config := {decide := true}) only [upd, fillL, if_true, if_false] at hK2
          rw [a3, a4, a6] at hK2
          exact hK2
        case tdone =>
          intro x' w7 hF hU fr hfr
          obtain ⟨⟨a7, m7, c7, hv7⟩, hL7, hO7, hB7, hz7⟩ := hF
          have u8 := hU 0 (by omega) rfl
          simp only [GUA] at u8
          simp only [fillL] at hfr
          rw [u8, hv7] at hfr
          rw [hv7] at hO7
          clear hU u8
          have l7 := hL7.cell 0
          have f7 := hL7.frozen 0
          have hL8 := hL7.set_ 0 (.slice a7 m7 c7)
          have hgr := set_gr w7 L 0 (.slice a7 m7 c7)
          have hO8 : (w7.setCell ⟨L, 0, none⟩ (.slice a7 m7 c7)).ownsRow B 38 4 (.slice a7 m7 c7) (n + 1) (flatP (l.take P ++ x :: l.drop P)) := hO7.kept hgr (by
            cases e : (Value.slice a7 m7 c7).ownBlock with
            | none => exact .inl rfl
            | some k => refine .inr fun e2 => ?_; injection e2 with e2; have := (row_lt hO7 e).1; have := hlb.out; omega)
          have hB8 : Below L w (w7.setCell ⟨L, 0, none⟩ (.slice a7 m7 c7)) := (hB7.mono (by omega)).grown hgr (by have := hlb.out; have := hB7.size; omega) (fun k hk => by injection hk with hk; omega)
          have hzz : B ≤ (w7.setCell ⟨L, 0, none⟩ (.slice a7 m7 c7)).heap.size := by have := hgr.size; omega
          replace hL8 := Lib.hid hL8
          replace hO8 := Lib.hid hO8
          replace hB8 := Lib.hid hB8
          replace hzz := Lib.hid hzz
          clear hL7 hO7 hB7 hgr
          subst hfr
          go_wp2
          go_ret
          refine ⟨congrArg (fun b => Ending.returned (.bool b)) (by rw [hrd.out]; rfl), hB8.out, fun _ => ⟨⟨_, hL8.out, ?_⟩, hlb.out, hzz.out, hst.out⟩⟩
          have hlen : (l.take P ++ x :: l.drop P).length = n + 1 := by have := hPn.out; have := hnn.out; rw [List.length_append, List.length_cons, List.length_take, List.length_drop]; omega
          rw [hlen]
          exact hO8.out
end Go.Proofs.YtkpikpaepgknnaaGreatDoor

/- What is written of an entry. No condition. -/
namespace Go.Xw
def langL (L : Bs) : Bs := if L = [] then [] else [32, 120, 109, 108, 58, 108, 97, 110, 103, 61, 34] ++ L ++ [34]
end Go.Xw
namespace Go.Proofs.YtkpikpaepgknnaaGreatDoor
open Go Go.RowKit Go.Wk Go.Xt Go.Xe Go.Xw
/-- an element of an entry -/
def markL (e : ByteArray × ByteArray) (N : Xw.Bs) : Xw.Bs := [60] ++ N ++ langL e.1.data.toList ++ [62] ++ escS e.2.data.toList ++ [60, 47] ++ N ++ [62]
theorem esc_of {w : World} (T : ByteArray) (hT3 : T.size ≤ 500) (hT : Lib.Utf8Tabs 0 1 w) (h2 : 2 ≤ w.heap.size) : ∃ E : ByteArray, E.data.toList = escS T.data.toList ∧ E.size ≤ 3000 ∧
    (∀ W, Below w.heap.size w W → Calls Tryz.prog 90 #[.string T] W fun e w' => e = .returned (.string E) ∧ Below W.heap.size W w') ∧
    (∀ W, Below w.heap.size w W → Calls Tryz.prog 31 #[.string T] W fun e w' => e = .returned (.string E) ∧ Below W.heap.size W w') := by
  have hl : T.data.toList.length = T.size := Array.length_toList
  have hf := flat_len T.data.toList.length T.data.toList (Nat.le_refl _)
  refine ⟨⟨(escS T.data.toList).toArray⟩, by simp, by show (escS T.data.toList).toArray.size ≤ 3000; rw [List.size_toArray]; omega, fun W hW => ?_, fun W hW => ?_⟩
  · have := xml_Escape (w := W) (bs := T.data.toList) (by omega) (tabs_below hT h2 hW) (by have := hW.size; omega)
    have e : str T.data.toList = .string T := by unfold str; simp
    rw [e] at this
    exact this
  · exact ref_Escape (w := W) T hT3 (tabs_below hT h2 hW) (by have := hW.size; omega)
theorem ba_app (a b : ByteArray) : (a ++ b).data.toList = a.data.toList ++ b.data.toList := by simp
set_option maxHeartbeats 4000000 in
set_option maxRecDepth 100000 in
theorem xmp_mark {w : World} (L T N : ByteArray) (hL : L.size ≤ 100) (hTs : T.size ≤ 300) (hN : N.size ≤ 300) (hT : Lib.Utf8Tabs 0 1 w) (h2 : 2 ≤ w.heap.size) :
    Calls Tryz.prog 60 #[.agg #[.string L, .string T], .string N] w fun e w' => ∃ R : ByteArray, e = .returned (.string R) ∧ R.data.toList = markL (L, T) N.data.toList ∧ R.size ≤ 4000 ∧ Below w.heap.size w w' := by
  obtain ⟨W1, hW1⟩ : ∃ W, W = w.alloc (.cells #[.string L, .string T] 55) := ⟨_, rfl⟩
  have hb1 : Below w.heap.size w W1 := by rw [hW1]; exact (Below.refl _ _).alloc (Nat.le_refl _) _
  have hR : Blk W1 w.heap.size 55 #[.string L, .string T] := by rw [hW1]; exact Blk.new w 55 _
  obtain ⟨E, hE, hEs, ce, _⟩ := esc_of T (by omega) hT h2
  have ce1 := ce W1 hb1
  have r0 := hR.cell 0
  have r1 := hR.cell 1
  have hem := ne_empty L
  have eL : L.data.toList = [] ↔ L.size = 0 := by
    have h : L.data.toList.length = L.size := Array.length_toList
    rw [← h, List.length_eq_zero_iff]
  replace hb1 := Lib.hid hb1
  replace hE := Lib.hid hE
  replace eL := Lib.hid eL
  clear ce hR hT h2
  cases hb : decide (0 < L.size) with
  | false =>
    have h0 : L.size = 0 := by have := of_decide_eq_false hb; omega
    have hem2 : L.toList.isEmpty = true := by rw [hb] at hem; simpa using hem
    replace h0 := Lib.hid h0
    clear hem hb
    go_enter Tryz.func60, Tryz.ntmps60
    go_upto_region 1 with (fail)
    rw [← hW1]
    replace hW1 := Lib.hid hW1
    go_wp2_with (go_at_call 90; (with_reducible refine ce1.mono ?_); rintro e w2 ⟨rfl, hb2⟩; replace hb2 := Lib.hid hb2)
    go_ret
    refine ⟨_, rfl, ?_, ?_, bthen hb1.out hb2.out⟩
    · unfold markL langL
      simp only [eL.out.2 h0.out, if_true]
      simp [hE.out]
    · simp only [ByteArray.size_append]; show 1 + _ + 0 + 1 + _ + 2 + _ + 1 ≤ 4000; omega
  | true =>
    have h0 : L.size ≠ 0 := by have := of_decide_eq_true hb; omega
    have hem2 : L.toList.isEmpty = false := by rw [hb] at hem; simpa using hem
    replace h0 := Lib.hid h0
    clear hem hb
    go_enter Tryz.func60, Tryz.ntmps60
    go_upto_region 1 with (fail)
    rw [← hW1]
    replace hW1 := Lib.hid hW1
    go_wp2_with (go_at_call 90; (with_reducible refine ce1.mono ?_); rintro e w2 ⟨rfl, hb2⟩; replace hb2 := Lib.hid hb2)
    go_ret
    refine ⟨_, rfl, ?_, ?_, bthen hb1.out hb2.out⟩
    · unfold markL langL
      rw [if_neg (fun h => h0.out (eL.out.1 h))]
      simp [hE.out]
    · simp only [ByteArray.size_append]; show 1 + _ + (11 + _ + 1) + 1 + _ + 2 + _ + 1 ≤ 4000; omega
/-- what a property has -/
def kindL (k : Int) : Xw.Bs := if k = 1 then [65, 108, 116] else if k = 2 then [83, 101, 113] else [66, 97, 103]
def liL : Xw.Bs := [114, 100, 102, 58, 108, 105]
def bodyL (p : Pr) : Xw.Bs :=
  if p.kd = 0 then (match p.it with | e :: _ => markL e ([112, 58] ++ p.nm.data.toList) | [] => [])
  else [60] ++ ([112, 58] ++ p.nm.data.toList) ++ [62, 60] ++ ([114, 100, 102, 58] ++ kindL p.kd) ++ [62] ++ p.it.flatMap (fun e => markL e liL) ++ [60, 47] ++ ([114, 100, 102, 58] ++ kindL p.kd) ++ [62, 60, 47] ++ ([112, 58] ++ p.nm.data.toList) ++ [62]
set_option maxHeartbeats 8000000 in
set_option maxRecDepth 100000 in
theorem xmp_body {w : World} (p : Pr) (A : Option Addr) (c : Nat) (h : EnsAt w A p.it) (hs : Xw.Small p) (hcp : p.it.length ≤ c) (hk : kindB p.kd p.it.length = true) (hT : Lib.Utf8Tabs 0 1 w) (h2 : 2 ≤ w.heap.size) :
    Calls Tryz.prog 27 #[prV p (.slice A p.it.length c)] w fun e w' => ∃ R : ByteArray, e = .returned (.string R) ∧ R.data.toList = bodyL p ∧ R.size ≤ 100000 ∧ Below w.heap.size w w' := by
  obtain ⟨i1, i2, i3, i4⟩ := hs
  obtain ⟨sp, nm, kd, it⟩ := p
  unfold prV
  simp only at h i1 i2 i3 i4 hk hcp ⊢
  obtain ⟨W1, hW1⟩ : ∃ W, W = w.alloc (.cells #[.string sp, .string nm, .int .i64 kd, .slice A it.length c] 38) := ⟨_, rfl⟩
  have hb1 : Below w.heap.size w W1 := by rw [hW1]; exact (Below.refl _ _).alloc (Nat.le_refl _) _
  have hR : Blk W1 w.heap.size 38 #[.string sp, .string nm, .int .i64 kd, .slice A it.length c] := by rw [hW1]; exact Blk.new w 38 _
  have cm := fun i (hi : i < it.length) (N : ByteArray) (hN : N.size ≤ 300) W (hW : Below w.heap.size w W) => xmp_mark (w := W) it[i].1 it[i].2 N (i4 _ (List.getElem_mem hi)).1 (i4 _ (List.getElem_mem hi)).2 hN (tabs_below hT h2 hW) (by have := hW.size; omega)
  obtain ⟨n, hn⟩ : ∃ n, n = it.length := ⟨_, rfl⟩
  rw [← hn] at hW1 hR hk i3 hcp ⊢
  obtain ⟨r0, r1, r2, r3⟩ := blk4 hR
  unfold kindB at hk
  simp only [Bool.and_eq_true, decide_eq_true_eq, Bool.or_eq_true, bne_iff_ne, beq_iff_eq] at hk
  obtain ⟨k1, k2, k3⟩ := hk
  replace h := Lib.hid h
  replace hb1 := Lib.hid hb1
  replace hR := Lib.hid hR
  replace cm := Lib.hid cm
  replace hn := Lib.hid hn
  clear hT h2 i4 i1
  by_cases h0 : kd = 0
  · subst h0
    have hn1 : n = 1 := k3.elim (fun h => absurd rfl h) id
    clear k1 k2 k3
    obtain ⟨e, rfl⟩ : ∃ e, it = [e] := by
      have := hn.out
      rw [hn1] at this
      match it, this with
      | [e], _ => exact ⟨e, rfl⟩
    subst hn1
    obtain ⟨g, o, rfl, hcs⟩ := h.out (by simp)
    obtain ⟨w0, w1⟩ := hcs 0 (by simp)
    have z0 := (hb1.out.cell (cell_lt w0)).trans w0
    have z1 := (hb1.out.cell (cell_lt w1)).trans w1
    obtain ⟨L, T⟩ := e
    have c60 := cm.out 0 (by simp) (⟨#[112, 58]⟩ ++ nm) (by rw [ByteArray.size_append]; show 2 + _ ≤ 300; omega) W1 hb1.out
    simp only [List.getElem_cons_zero] at c60 z0 z1
    rw [Nat.zero_mul, Nat.add_zero] at z0 z1
    clear hcs w0 w1
    go_enter Tryz.func27, Tryz.ntmps27
    go_upto_region 1 with (fail)
    rw [← hW1]
    replace hW1 := Lib.hid hW1
    go_wp2_with (go_at_call 60; (with_reducible refine c60.mono ?_); rintro e' w2 ⟨R, rfl, hr1, hr2, hb2⟩; replace hb2 := Lib.hid hb2; replace hr1 := Lib.hid hr1)
    go_ret
    exact ⟨R, rfl, by rw [hr1.out]; unfold bodyL; simp, by omega, bthen hb1.out hb2.out⟩
  · clear k3
    have hkc : kd = 1 ∨ kd = 2 ∨ kd = 3 := by omega
    clear k1 k2 h0
    rcases hkc with hq | hq | hq
    · subst hq
      have i5 := i2
      go_enter Tryz.func27, Tryz.ntmps27
      go_upto_region 1 with (fail)
      rw [← hW1]
      replace hW1 := Lib.hid hW1
      have hBB : Below W1.heap.size W1 (W1.alloc (.cells #[.string ⟨#[]⟩, .string ⟨#[65, 108, 116]⟩, .string ⟨#[83, 101, 113]⟩, .string ⟨#[66, 97, 103]⟩] 9)) := (Below.refl _ _).alloc (Nat.le_refl _) _
      have hbB : Below w.heap.size w (W1.alloc (.cells #[.string ⟨#[]⟩, .string ⟨#[65, 108, 116]⟩, .string ⟨#[83, 101, 113]⟩, .string ⟨#[66, 97, 103]⟩] 9)) := bthen hb1.out ((Below.refl _ _).alloc (Nat.le_refl _) _)
      obtain ⟨b0, b1, b2, b3⟩ := blk4 (hR.out.below hBB hR.out.lt)
      obtain ⟨t0, t1, t2, t3⟩ := blk4 (Blk.new W1 9 #[.string ⟨#[]⟩, .string ⟨#[65, 108, 116]⟩, .string ⟨#[83, 101, 113]⟩, .string ⟨#[66, 97, 103]⟩])
      replace hBB := Lib.hid hBB
      replace hbB := Lib.hid hbB
      go_upto_region 4 with (fail)
      go_upto_region 5 with (fail)
      go_upto_region 6 with (fail)
      obtain ⟨PRE, hPRE⟩ : ∃ s : ByteArray, s = ⟨#[60]⟩ ++ (⟨#[112, 58]⟩ ++ nm) ++ ⟨#[62, 60]⟩ ++ (⟨#[114, 100, 102, 58]⟩ ++ ⟨#[65, 108, 116]⟩) ++ ⟨#[62]⟩ := ⟨_, rfl⟩
      have hPs : PRE.size ≤ 300 := by rw [hPRE]; simp only [ByteArray.size_append]; show 1 + (2 + _) + 2 + (4 + 3) + 1 ≤ 300; omega
      have hPl : PRE.data.toList = [60] ++ ([112, 58] ++ nm.data.toList) ++ [62, 60] ++ ([114, 100, 102, 58] ++ kindL 1) ++ [62] := by rw [hPRE]; simp [kindL]
      clear t0 t1 t2 t3 r0 r1 r2 r3
      generalize (W1.alloc (.cells #[.string ⟨#[]⟩, .string ⟨#[65, 108, 116]⟩, .string ⟨#[83, 101, 113]⟩, .string ⟨#[66, 97, 103]⟩] 9)) = WB at *
      replace hPl := Lib.hid hPl
      rw [← hPRE]
      replace hPRE := Lib.hid hPRE
      go_wp2
      go_loopw [5, 7, 8, 36] (fun s5 _ _ s36 wr => ∃ (k : Nat) (o : ByteArray), k ≤ n ∧ s36 = .int .i64 k ∧ s5 = .string o ∧ o.data.toList = PRE.data.toList ++ (it.take k).flatMap (fun e => markL e liL) ∧ o.size ≤ 300 + k * 4000 ∧ Below w.heap.size w wr) (fun _ _ _ s36 _ => n - (RowKit.intOf s36).toNat)
      case atStart => exact ⟨0, PRE, Nat.zero_le _, rfl, by first | rw [hPRE.out] | rfl, by simp, by omega, hbB.out⟩
      case round =>
        obtain ⟨k, o, hk, rfl, rfl, ho, hos, hB⟩ := hrel
        by_cases hkn : k < n
        · have hkl : k < it.length := by rw [← hn.out]; exact hkn
          obtain ⟨g, og, rfl, hcs⟩ := h.out (by omega)
          obtain ⟨w0, w1⟩ := hcs k hkl
          have z0 := (hB.cell (cell_lt w0)).trans w0
          have z1 := (hB.cell (cell_lt w1)).trans w1
          have hT : (it.take (k + 1)).flatMap (fun e => markL e liL) = (it.take k).flatMap (fun e => markL e liL) ++ markL it[k] liL := by
            rw [List.take_succ_eq_append_getElem hkl, List.flatMap_append]; simp
          have c60 := fun W (hW : Below w.heap.size w W) => cm.out k hkl ⟨#[114, 100, 102, 58, 108, 105]⟩ (by decide) W hW
          generalize it[k] = en at z0 z1 c60 hT
          obtain ⟨L, T⟩ := en
          simp only at z0 z1 c60
          have c61 := c60 _ (bthen hB ((Below.refl wr.heap.size wr).alloc (Nat.le_refl _) (.cells #[.string L, .string T] 55)))
          replace hT := Lib.hid hT
          replace ho := Lib.hid ho
          replace hB := Lib.hid hB
          clear hcs w0 w1 c60
          go_wp2_with (go_at_call 60; (with_reducible refine c61.mono ?_); rintro e' w2 ⟨R, rfl, hr1, hr2, hb2⟩; replace hb2 := Lib.hid hb2; replace hr1 := Lib.hid hr1)
          go_roundw
          case rel => exact ⟨k + 1, o ++ R, by omega, by go_num, rfl, by rw [ba_app, ho.out, hr1.out, hT.out, List.append_assoc]; rfl, by rw [ByteArray.size_append]; omega, bthen hB.out (bthen ((Below.refl wr.heap.size wr).alloc (Nat.le_refl _) (.cells #[.string L, .string T] 55)) hb2.out)⟩
          case measure => simp [RowKit.intOf]; omega
        · obtain rfl : k = n := by omega
          have hT : it.take k = it := by rw [hn.out, List.take_length]
          rw [hT] at ho
          replace ho := Lib.hid ho
          replace hB := Lib.hid hB
          have hos2 : o.size ≤ 90000 := by omega
          clear hos
          go_wp2
          go_ret
          refine ⟨_, rfl, ?_, ?_, hB.out⟩
          · unfold bodyL
            simp only [ba_app, ho.out, hPl.out]
            simp [kindL, liL]
          · simp only [ByteArray.size_append]
            show _ ≤ 100000
            have : (ByteArray.mk #[60, 47]).size = 2 := rfl
            have : (ByteArray.mk #[114, 100, 102, 58]).size = 4 := rfl
            have : (ByteArray.mk #[65, 108, 116]).size = 3 := rfl
            have : (ByteArray.mk #[62, 60, 47]).size = 3 := rfl
            have : (ByteArray.mk #[112, 58]).size = 2 := rfl
            have : (ByteArray.mk #[62]).size = 1 := rfl
            omega
    · subst hq
      have i5 := i2
      go_enter Tryz.func27, Tryz.ntmps27
      go_upto_region 1 with (fail)
      rw [← hW1]
      replace hW1 := Lib.hid hW1
      have hBB : Below W1.heap.size W1 (W1.alloc (.cells #[.string ⟨#[]⟩, .string ⟨#[65, 108, 116]⟩, .string ⟨#[83, 101, 113]⟩, .string ⟨#[66, 97, 103]⟩] 9)) := (Below.refl _ _).alloc (Nat.le_refl _) _
      have hbB : Below w.heap.size w (W1.alloc (.cells #[.string ⟨#[]⟩, .string ⟨#[65, 108, 116]⟩, .string ⟨#[83, 101, 113]⟩, .string ⟨#[66, 97, 103]⟩] 9)) := bthen hb1.out ((Below.refl _ _).alloc (Nat.le_refl _) _)
      obtain ⟨b0, b1, b2, b3⟩ := blk4 (hR.out.below hBB hR.out.lt)
      obtain ⟨t0, t1, t2, t3⟩ := blk4 (Blk.new W1 9 #[.string ⟨#[]⟩, .string ⟨#[65, 108, 116]⟩, .string ⟨#[83, 101, 113]⟩, .string ⟨#[66, 97, 103]⟩])
      replace hBB := Lib.hid hBB
      replace hbB := Lib.hid hbB
      go_upto_region 4 with (fail)
      go_upto_region 5 with (fail)
      go_upto_region 6 with (fail)
      obtain ⟨PRE, hPRE⟩ : ∃ s : ByteArray, s = ⟨#[60]⟩ ++ (⟨#[112, 58]⟩ ++ nm) ++ ⟨#[62, 60]⟩ ++ (⟨#[114, 100, 102, 58]⟩ ++ ⟨#[83, 101, 113]⟩) ++ ⟨#[62]⟩ := ⟨_, rfl⟩
      have hPs : PRE.size ≤ 300 := by rw [hPRE]; simp only [ByteArray.size_append]; show 1 + (2 + _) + 2 + (4 + 3) + 1 ≤ 300; omega
      have hPl : PRE.data.toList = [60] ++ ([112, 58] ++ nm.data.toList) ++ [62, 60] ++ ([114, 100, 102, 58] ++ kindL 2) ++ [62] := by rw [hPRE]; simp [kindL]
      clear t0 t1 t2 t3 r0 r1 r2 r3
      generalize (W1.alloc (.cells #[.string ⟨#[]⟩, .string ⟨#[65, 108, 116]⟩, .string ⟨#[83, 101, 113]⟩, .string ⟨#[66, 97, 103]⟩] 9)) = WB at *
      replace hPl := Lib.hid hPl
      rw [← hPRE]
      replace hPRE := Lib.hid hPRE
      go_wp2
      go_loopw [5, 7, 8, 36] (fun s5 _ _ s36 wr => ∃ (k : Nat) (o : ByteArray), k ≤ n ∧ s36 = .int .i64 k ∧ s5 = .string o ∧ o.data.toList = PRE.data.toList ++ (it.take k).flatMap (fun e => markL e liL) ∧ o.size ≤ 300 + k * 4000 ∧ Below w.heap.size w wr) (fun _ _ _ s36 _ => n - (RowKit.intOf s36).toNat)
      case atStart => exact ⟨0, PRE, Nat.zero_le _, rfl, by first | rw [hPRE.out] | rfl, by simp, by omega, hbB.out⟩
      case round =>
        obtain ⟨k, o, hk, rfl, rfl, ho, hos, hB⟩ := hrel
        by_cases hkn : k < n
        · have hkl : k < it.length := by rw [← hn.out]; exact hkn
          obtain ⟨g, og, rfl, hcs⟩ := h.out (by omega)
          obtain ⟨w0, w1⟩ := hcs k hkl
          have z0 := (hB.cell (cell_lt w0)).trans w0
          have z1 := (hB.cell (cell_lt w1)).trans w1
          have hT : (it.take (k + 1)).flatMap (fun e => markL e liL) = (it.take k).flatMap (fun e => markL e liL) ++ markL it[k] liL := by
            rw [List.take_succ_eq_append_getElem hkl, List.flatMap_append]; simp
          have c60 := fun W (hW : Below w.heap.size w W) => cm.out k hkl ⟨#[114, 100, 102, 58, 108, 105]⟩ (by decide) W hW
          generalize it[k] = en at z0 z1 c60 hT
          obtain ⟨L, T⟩ := en
          simp only at z0 z1 c60
          have c61 := c60 _ (bthen hB ((Below.refl wr.heap.size wr).alloc (Nat.le_refl _) (.cells #[.string L, .string T] 55)))
          replace hT := Lib.hid hT
          replace ho := Lib.hid ho
          replace hB := Lib.hid hB
          clear hcs w0 w1 c60
          go_wp2_with (go_at_call 60; (with_reducible refine c61.mono ?_); rintro e' w2 ⟨R, rfl, hr1, hr2, hb2⟩; replace hb2 := Lib.hid hb2; replace hr1 := Lib.hid hr1)
          go_roundw
          case rel => exact ⟨k + 1, o ++ R, by omega, by go_num, rfl, by rw [ba_app, ho.out, hr1.out, hT.out, List.append_assoc]; rfl, by rw [ByteArray.size_append]; omega, bthen hB.out (bthen ((Below.refl wr.heap.size wr).alloc (Nat.le_refl _) (.cells #[.string L, .string T] 55)) hb2.out)⟩
          case measure => simp [RowKit.intOf]; omega
        · obtain rfl : k = n := by omega
          have hT : it.take k = it := by rw [hn.out, List.take_length]
          rw [hT] at ho
          replace ho := Lib.hid ho
          replace hB := Lib.hid hB
          have hos2 : o.size ≤ 90000 := by omega
          clear hos
          go_wp2
          go_ret
          refine ⟨_, rfl, ?_, ?_, hB.out⟩
          · unfold bodyL
            simp only [ba_app, ho.out, hPl.out]
            simp [kindL, liL]
          · simp only [ByteArray.size_append]
            show _ ≤ 100000
            have : (ByteArray.mk #[60, 47]).size = 2 := rfl
            have : (ByteArray.mk #[114, 100, 102, 58]).size = 4 := rfl
            have : (ByteArray.mk #[83, 101, 113]).size = 3 := rfl
            have : (ByteArray.mk #[62, 60, 47]).size = 3 := rfl
            have : (ByteArray.mk #[112, 58]).size = 2 := rfl
            have : (ByteArray.mk #[62]).size = 1 := rfl
            omega
    · subst hq
      have i5 := i2
      go_enter Tryz.func27, Tryz.ntmps27
      go_upto_region 1 with (fail)
      rw [← hW1]
      replace hW1 := Lib.hid hW1
      have hBB : Below W1.heap.size W1 (W1.alloc (.cells #[.string ⟨#[]⟩, .string ⟨#[65, 108, 116]⟩, .string ⟨#[83, 101, 113]⟩, .string ⟨#[66, 97, 103]⟩] 9)) := (Below.refl _ _).alloc (Nat.le_refl _) _
      have hbB : Below w.heap.size w (W1.alloc (.cells #[.string ⟨#[]⟩, .string ⟨#[65, 108, 116]⟩, .string ⟨#[83, 101, 113]⟩, .string ⟨#[66, 97, 103]⟩] 9)) := bthen hb1.out ((Below.refl _ _).alloc (Nat.le_refl _) _)
      obtain ⟨b0, b1, b2, b3⟩ := blk4 (hR.out.below hBB hR.out.lt)
      obtain ⟨t0, t1, t2, t3⟩ := blk4 (Blk.new W1 9 #[.string ⟨#[]⟩, .string ⟨#[65, 108, 116]⟩, .string ⟨#[83, 101, 113]⟩, .string ⟨#[66, 97, 103]⟩])
      replace hBB := Lib.hid hBB
      replace hbB := Lib.hid hbB
      go_upto_region 4 with (fail)
      go_upto_region 5 with (fail)
      go_upto_region 6 with (fail)
      obtain ⟨PRE, hPRE⟩ : ∃ s : ByteArray, s = ⟨#[60]⟩ ++ (⟨#[112, 58]⟩ ++ nm) ++ ⟨#[62, 60]⟩ ++ (⟨#[114, 100, 102, 58]⟩ ++ ⟨#[66, 97, 103]⟩) ++ ⟨#[62]⟩ := ⟨_, rfl⟩
      have hPs : PRE.size ≤ 300 := by rw [hPRE]; simp only [ByteArray.size_append]; show 1 + (2 + _) + 2 + (4 + 3) + 1 ≤ 300; omega
      have hPl : PRE.data.toList = [60] ++ ([112, 58] ++ nm.data.toList) ++ [62, 60] ++ ([114, 100, 102, 58] ++ kindL 3) ++ [62] := by rw [hPRE]; simp [kindL]
      clear t0 t1 t2 t3 r0 r1 r2 r3
      generalize (W1.alloc (.cells #[.string ⟨#[]⟩, .string ⟨#[65, 108, 116]⟩, .string ⟨#[83, 101, 113]⟩, .string ⟨#[66, 97, 103]⟩] 9)) = WB at *
      replace hPl := Lib.hid hPl
      rw [← hPRE]
      replace hPRE := Lib.hid hPRE
      go_wp2
      go_loopw [5, 7, 8, 36] (fun s5 _ _ s36 wr => ∃ (k : Nat) (o : ByteArray), k ≤ n ∧ s36 = .int .i64 k ∧ s5 = .string o ∧ o.data.toList = PRE.data.toList ++ (it.take k).flatMap (fun e => markL e liL) ∧ o.size ≤ 300 + k * 4000 ∧ Below w.heap.size w wr) (fun _ _ _ s36 _ => n - (RowKit.intOf s36).toNat)
      case atStart => exact ⟨0, PRE, Nat.zero_le _, rfl, by first | rw [hPRE.out] | rfl, by simp, by omega, hbB.out⟩
      case round =>
        obtain ⟨k, o, hk, rfl, rfl, ho, hos, hB⟩ := hrel
        by_cases hkn : k < n
        · have hkl : k < it.length := by rw [← hn.out]; exact hkn
          obtain ⟨g, og, rfl, hcs⟩ := h.out (by omega)
          obtain ⟨w0, w1⟩ := hcs k hkl
          have z0 := (hB.cell (cell_lt w0)).trans w0
          have z1 := (hB.cell (cell_lt w1)).trans w1
          have hT : (it.take (k + 1)).flatMap (fun e => markL e liL) = (it.take k).flatMap (fun e => markL e liL) ++ markL it[k] liL := by
            rw [List.take_succ_eq_append_getElem hkl, List.flatMap_append]; simp
          have c60 := fun W (hW : Below w.heap.size w W) => cm.out k hkl ⟨#[114, 100, 102, 58, 108, 105]⟩ (by decide) W hW
          generalize it[k] = en at z0 z1 c60 hT
          obtain ⟨L, T⟩ := en
          simp only at z0 z1 c60
          have c61 := c60 _ (bthen hB ((Below.refl wr.heap.size wr).alloc (Nat.le_refl _) (.cells #[.string L, .string T] 55)))
          replace hT := Lib.hid hT
          replace ho := Lib.hid ho
          replace hB := Lib.hid hB
          clear hcs w0 w1 c60
          go_wp2_with (go_at_call 60; (with_reducible refine c61.mono ?_); rintro e' w2 ⟨R, rfl, hr1, hr2, hb2⟩; replace hb2 := Lib.hid hb2; replace hr1 := Lib.hid hr1)
          go_roundw
          case rel => exact ⟨k + 1, o ++ R, by omega, by go_num, rfl, by rw [ba_app, ho.out, hr1.out, hT.out, List.append_assoc]; rfl, by rw [ByteArray.size_append]; omega, bthen hB.out (bthen ((Below.refl wr.heap.size wr).alloc (Nat.le_refl _) (.cells #[.string L, .string T] 55)) hb2.out)⟩
          case measure => simp [RowKit.intOf]; omega
        · obtain rfl : k = n := by omega
          have hT : it.take k = it := by rw [hn.out, List.take_length]
          rw [hT] at ho
          replace ho := Lib.hid ho
          replace hB := Lib.hid hB
          have hos2 : o.size ≤ 90000 := by omega
          clear hos
          go_wp2
          go_ret
          refine ⟨_, rfl, ?_, ?_, hB.out⟩
          · unfold bodyL
            simp only [ba_app, ho.out, hPl.out]
            simp [kindL, liL]
          · simp only [ByteArray.size_append]
            show _ ≤ 100000
            have : (ByteArray.mk #[60, 47]).size = 2 := rfl
            have : (ByteArray.mk #[114, 100, 102, 58]).size = 4 := rfl
            have : (ByteArray.mk #[66, 97, 103]).size = 3 := rfl
            have : (ByteArray.mk #[62, 60, 47]).size = 3 := rfl
            have : (ByteArray.mk #[112, 58]).size = 2 := rfl
            have : (ByteArray.mk #[62]).size = 1 := rfl
            omega
end Go.Proofs.YtkpikpaepgknnaaGreatDoor

/- Own bytes, and what is appended to them. No condition. -/
namespace Go.Proofs.YtkpikpaepgknnaaGreatDoor
open Go Go.RowKit Go.Wk Go.Xt Go.Xe Go.Xw
/-- own bytes: a row that nobody else names -/
structure Own (B : Nat) (w : World) (v : Value) (bs : List UInt8) : Prop where
  row : w.ownsRow B 5 1 v bs.length (valsB bs)
theorem Own.nil (B : Nat) (w : World) : Own B w (.slice none 0 0) [] := ⟨World.ownsRow_nil _ _ _ _⟩
theorem Own.out {B : Nat} {w : World} {v : Value} {bs : List UInt8} (h : Own B w v bs) (hm : bs.length ≤ maxLen) : ∃ A c, v = .slice A bs.length c ∧ Byt w A bs ∧ (A = none → c = 0) := by
  obtain ⟨A, c, rfl, hb⟩ := own_byt h.row
  refine ⟨A, c, rfl, hb hm, ?_⟩
  rintro rfl
  rcases h.row.2 with ⟨e, _⟩ | ⟨g, cap, cur, e, _⟩
  · injection e
  · injection e with e; cases e
theorem Own.base {B B' : Nat} {w : World} {v : Value} {bs : List UInt8} (h : Own B' w v bs) (hB : B ≤ B') : Own B w v bs := by
  refine ⟨h.row.1, ?_⟩
  rcases h.row.2 with h2 | ⟨g, cap, cur, e, hB', rest⟩
  · exact .inl h2
  · exact .inr ⟨g, cap, cur, e, Nat.le_trans hB hB', rest⟩
theorem Own.below {B : Nat} {w w' : World} {v : Value} {bs : List UInt8} (h : Own B w v bs) (hb : Below w.heap.size w w') : Own B w' v bs := by
  refine ⟨h.row.1, ?_⟩
  rcases h.row.2 with h2 | ⟨g, cap, cur, e, hB, hh, rest⟩
  · exact .inl h2
  · exact .inr ⟨g, cap, cur, e, hB, (hb.block g (Array.getElem?_eq_some_iff.1 hh).1).trans hh, rest⟩
/-- a result: bytes -/
def RB (w : World) (bs : List UInt8) (e : Ending) (w' : World) : Prop := ∃ A c, e = .returned (.slice A bs.length c) ∧ Byt w' A bs ∧ (A = none → c = 0) ∧ Below w.heap.size w w'
def RO (w : World) (bs : List UInt8) (e : Ending) (w' : World) : Prop := ∃ v, e = .returned v ∧ Own w.heap.size w' v bs ∧ Below w.heap.size w w'
theorem RO.rb {w w' : World} {bs : List UInt8} {e : Ending} (h : RO w bs e w') (hm : bs.length ≤ maxLen) : RB w bs e w' := by
  obtain ⟨v, rfl, h1, h2⟩ := h
  obtain ⟨A, c, rfl, h3, h4⟩ := h1.out hm
  exact ⟨A, c, rfl, h3, h4, h2⟩
/-- bytes behind own bytes -/
theorem app_b {w : World} {ops : Array Oper} {rest : List Oper} {o : Oper} {a : Act} {Q : Exit → Act → World → Prop} (hgd : o.guard = none) (s x : Operand)
    (ho : o.op = .call { callee := .builtin .append, args := #[s, x], argTypes := #[25, 25] }) (B : Nat) (v : Value) (out : List UInt8) (hs : a.eval s = v) (hown : Own B w v out)
    (A : Option Addr) (n c : Nat) (bs : List UInt8) (hx : a.eval x = .slice A n c) (hn : n = bs.length) (hb : Byt w A bs) (hA : A = none → c = 0) (hl : out.length + bs.length ≤ 70368744177664) (hB : B ≤ w.heap.size)
    (h : ∀ v' w', Own B w' v' (out ++ bs) → Below B w w' → wpList Tryz.prog ops Q rest (a.put o.dst v') w') : wpList Tryz.prog ops Q (o :: rest) a w := by
  obtain ⟨i0, hi, hz0, hz1, hz2⟩ := byte_info
  cases A with
  | none =>
    have hbs : bs = [] := by
      cases bs with
      | nil => rfl
      | cons y l => obtain ⟨b, o, e, _⟩ := hb.2 (by simp); cases e
    subst hbs
    have hc := hA rfl
    subst hc
    obtain rfl : n = 0 := hn
    refine wpList_append_own_none hgd s x 25 ho B 5 i0 1 Tryz.underlying25 hi v out.length (valsB out) hs hown.row hx ?_
    exact h v w (by rw [List.append_nil]; exact hown) (Below.refl _ _ |>.mono hB)
  | some ad =>
    refine wpList_append_own_at w hgd s x 25 ho B 5 i0 (.int .u8 0) 1 1 Tryz.underlying25 hi hz0 hz1 hz2 rfl (by decide) v out.length (valsB out) hs hown.row ad n c (valsB bs) hx (by rw [valsB_len, hn, Nat.mul_one]) hb.news (valsB_one bs) (by unfold maxLen; omega) (by omega) hB ?_
    intro v' w' h1 h2 _ h3
    refine h v' w' ⟨?_⟩ ((Below.refl _ _ |>.mono hB).grown h2 hB fun k hk => (hown.row.lt k hk).1)
    rw [List.length_append, valsB_app, ← hn]
    exact h1
/-- a text behind own bytes -/
theorem app_s {w : World} {ops : Array Oper} {rest : List Oper} {o : Oper} {a : Act} {Q : Exit → Act → World → Prop} (hgd : o.guard = none) (s x : Operand)
    (ho : o.op = .call { callee := .builtin .append, args := #[s, x], argTypes := #[25, 9] }) (B : Nat) (v : Value) (out : List UInt8) (hs : a.eval s = v) (hown : Own B w v out)
    (S : ByteArray) (bs : List UInt8) (hx : a.eval x = .string S) (hS : S.data.toList = bs) (hl : out.length + bs.length ≤ 70368744177664) (hB : B ≤ w.heap.size)
    (h : ∀ v' w', Own B w' v' (out ++ bs) → Below B w w' → wpList Tryz.prog ops Q rest (a.put o.dst v') w') : wpList Tryz.prog ops Q (o :: rest) a w := by
  obtain ⟨i0, hi, hz0, hz1, hz2⟩ := byte_info
  subst hS
  have hlen : S.data.toList.length = S.size := Array.length_toList
  refine Lib.wpList_append_own_string w hgd s x 25 9 ho B 5 i0 Tryz.underlying25 Tryz.underlying9 hi hz0 hz1 hz2 v out.length (valsB out) hs hown.row S hx (by unfold maxLen; omega) (by omega) hB ?_
  intro v' w' h1 h2 h3
  refine h v' w' ⟨?_⟩ ((Below.refl _ _ |>.mono hB).grown h2 hB fun k hk => (hown.row.lt k hk).1)
  have e : Lib.strCells S = valsB S.data.toList := rfl
  rw [List.length_append, valsB_app, hlen, ← e]
  exact h1
/-- bytes of one's own: a row, or a constant's row, which is full -/
def OwnX (B : Nat) (w : World) (v : Value) (bs : List UInt8) : Prop := Own B w v bs ∨ ∃ g, v = .slice (some ⟨g, 0, none⟩) bs.length bs.length ∧ g < w.heap.size ∧ Byt w (some ⟨g, 0, none⟩) bs
theorem OwnX.below {B : Nat} {w w' : World} {v : Value} {bs : List UInt8} (h : OwnX B w v bs) (hb : Below w.heap.size w w') : OwnX B w' v bs := by
  rcases h with h | ⟨g, h1, h2, h3⟩
  · exact .inl (h.below hb)
  · exact .inr ⟨g, h1, Nat.lt_of_lt_of_le h2 hb.size, h3.below hb⟩
theorem app_x {w : World} {ops : Array Oper} {rest : List Oper} {o : Oper} {a : Act} {Q : Exit → Act → World → Prop} (hgd : o.guard = none) (s x : Operand)
    (ho : o.op = .call { callee := .builtin .append, args := #[s, x], argTypes := #[25, 25] }) (B : Nat) (v : Value) (out : List UInt8) (hs : a.eval s = v) (hown : OwnX B w v out)
    (A : Option Addr) (n c : Nat) (bs : List UInt8) (hx : a.eval x = .slice A n c) (hn : n = bs.length) (hp : 0 < bs.length) (hb : Byt w A bs) (hA : A = none → c = 0) (hl : out.length + bs.length ≤ 70368744177664) (hB : B ≤ w.heap.size)
    (h : ∀ v' w', Own B w' v' (out ++ bs) → Below B w w' → wpList Tryz.prog ops Q rest (a.put o.dst v') w') : wpList Tryz.prog ops Q (o :: rest) a w := by
  rcases hown with hown | ⟨g, hv, hg, hby⟩
  · exact app_b hgd s x ho B v out hs hown A n c bs hx hn hb hA hl hB h
  obtain ⟨i0, hi, hz0, hz1, hz2⟩ := byte_info
  subst hv
  obtain ⟨b, off, rfl, _⟩ := hb.2 hp
  refine wpList_plain hgd fun K hK => ?_
  have hr := run_append_grow (P := Tryz.prog) w 25 o.type 5 i0 (.int .u8 0) Tryz.underlying25 hi hz0 ⟨g, 0, none⟩ out.length out.length (valsB out) (by rw [hz1, valsB_len, Nat.mul_one]) hby.news ⟨b, off, none⟩ n c (valsB bs) (by rw [valsB_len, hz1, hn, Nat.mul_one]) hb.news (by omega) (by omega) (growslice_fits (by omega) (by rw [hz2]; omega))
  unfold Oper.wp execOp
  simp only [ho, resolve, invoke, builtin, Sem.run_bind, Sem.run_pure, Result.andThen_ok, List.map_toArray, List.map_cons, List.map_nil, hs, hx, hr]
  have hge := grownCap_ge w (out.length + n) out.length 5
  refine hK _ _ (h _ _ ⟨?_, .inr ⟨w.heap.size, grownCap w (out.length + n) out.length 5, ((valsB out).toArray ++ (valsB bs).toArray ++ Builtin.zeroCells (Value.int IntKind.u8 0).cells (grownCap w (out.length + n) out.length 5 - (out.length + n))), ?_, hB, heap_alloc_new w.drew _, ?_, grownCap_le_maxLen w _ _ _ (by unfold maxLen; omega), ?_, ?_⟩⟩ ((Below.refl _ _ |>.mono hB).drew.alloc hB _))
  · rw [valsB_len, Nat.mul_one]
  · rw [List.length_append, ← hn]
  · rw [List.length_append, ← hn]; exact hge
  · have hz : (Value.int IntKind.u8 0).cells.size = 1 := rfl
    simp only [Array.size_append, List.size_toArray, size_zeroCells, hz, valsB_len]
    omega
  · simp only [Array.toList_append, List.append_assoc]
    rw [← List.append_assoc, valsB_app, List.take_left' (by simp [valsB_len])]
theorem app_xs {w : World} {ops : Array Oper} {rest : List Oper} {o : Oper} {a : Act} {Q : Exit → Act → World → Prop} (hgd : o.guard = none) (s x : Operand)
    (ho : o.op = .call { callee := .builtin .append, args := #[s, x], argTypes := #[25, 9] }) (B : Nat) (v : Value) (out : List UInt8) (hs : a.eval s = v) (hown : OwnX B w v out)
    (S : ByteArray) (bs : List UInt8) (hx : a.eval x = .string S) (hS : S.data.toList = bs) (hp : 0 < bs.length) (hl : out.length + bs.length ≤ 70368744177664) (hB : B ≤ w.heap.size)
    (h : ∀ v' w', Own B w' v' (out ++ bs) → Below B w w' → wpList Tryz.prog ops Q rest (a.put o.dst v') w') : wpList Tryz.prog ops Q (o :: rest) a w := by
  rcases hown with hown | ⟨g, hv, hg, hby⟩
  · exact app_s hgd s x ho B v out hs hown S bs hx hS hl hB h
  obtain ⟨i0, hi, hz0, hz1, hz2⟩ := byte_info
  subst hv hS
  have hlen : S.data.toList.length = S.size := Array.length_toList
  refine wpList_plain hgd fun K hK => ?_
  have hr := Lib.run_append_grow_string (P := Tryz.prog) w 25 9 o.type 5 i0 (.int .u8 0) Tryz.underlying25 Tryz.underlying9 hi hz0 ⟨g, 0, none⟩ out.length out.length (valsB out) (by rw [hz1, valsB_len, Nat.mul_one]) hby.news S (by omega) (by omega) (growslice_fits (by omega) (by rw [hz2]; omega))
  unfold Oper.wp execOp
  simp only [ho, resolve, invoke, builtin, Sem.run_bind, Sem.run_pure, Result.andThen_ok, List.map_toArray, List.map_cons, List.map_nil, hs, hx, hr]
  have hge := grownCap_ge w (out.length + S.size) out.length 5
  have e : Lib.strCells S = valsB S.data.toList := rfl
  rw [e]
  refine hK _ _ (h _ _ ⟨?_, .inr ⟨w.heap.size, grownCap w (out.length + S.size) out.length 5, ((valsB out).toArray ++ (valsB S.data.toList).toArray ++ Builtin.zeroCells (Value.int IntKind.u8 0).cells (grownCap w (out.length + S.size) out.length 5 - (out.length + S.size))), ?_, hB, heap_alloc_new w.drew _, ?_, grownCap_le_maxLen w _ _ _ (by unfold maxLen; omega), ?_, ?_⟩⟩ ((Below.refl _ _ |>.mono hB).drew.alloc hB _))
  · rw [valsB_len, Nat.mul_one]
  · rw [List.length_append, hlen]
  · rw [List.length_append, hlen]; exact hge
  · have hz : (Value.int IntKind.u8 0).cells.size = 1 := rfl
    simp only [Array.size_append, List.size_toArray, size_zeroCells, hz, valsB_len]
    omega
  · simp only [Array.toList_append, List.append_assoc]
    rw [← List.append_assoc, valsB_app, List.take_left' (by simp [valsB_len])]
theorem conv_const (w : World) (C : Array Value) (n c : Nat) : (convert 25 25 (.slice (some ⟨w.heap.size, 0, none⟩) n c)).run Tryz.prog (w.alloc (.cells C 5)) = .ok (.slice (some ⟨w.heap.size, 0, none⟩) n c) (w.alloc (.cells C 5 (C.size, C.size + 1))) :=
  Lib.run_convert_bytes_const w 25 5 C n c Tryz.underlying25 Tryz.underlying5
theorem byt_mark (w : World) (l : List UInt8) (C : Array Value) (m : Nat × Nat) (hC : C = (valsB l).toArray) (hl : l.length ≤ maxLen) : Byt (w.alloc (.cells C 5 m)) (some ⟨w.heap.size, 0, none⟩) l := by
  subst hC
  refine ⟨hl, fun _ => ⟨_, 0, rfl, fun i hi => ?_⟩⟩
  have : (w.alloc (.cells (valsB l).toArray 5 m)).cell? ⟨w.heap.size, 0 + i, none⟩ = (valsB l)[i]? := by
    rw [Nat.zero_add, Lib.cell_of_heap (heap_alloc_new w (.cells (valsB l).toArray 5 m))]; simp
  rw [this]
  simp [valsB, hi]
theorem below_mark (w : World) (C : Array Value) (m : Nat × Nat) : Below w.heap.size w (w.alloc (.cells C 5 m)) := (Below.refl _ _).alloc (Nat.le_refl _) _
end Go.Proofs.YtkpikpaepgknnaaGreatDoor

/- A constant's bytes, however many. No condition. -/
namespace Go.Proofs.YtkpikpaepgknnaaGreatDoor
open Go Go.RowKit Go.Wk Go.Xt Go.Xe Go.Xw
theorem run_bytes_row (n : Nat) (parts : Array (Nat × Value)) (C : Array Value) (w : World) (hn0 : 0 < n) (hn : n ≤ 16777216)
    (hf : Instr.fill (fun i => some (i, 1)) (Array.map (fun x => (Value.int .u8 0).cells[x % (Value.int .u8 0).cells.size]!) (Array.range n)) parts.toList = some C) :
    (Instr.buildSlice 25 n parts).run Tryz.prog w = .ok (.slice (some ⟨w.heap.size, 0, none⟩) n n) (w.alloc (.cells C 5)) := by
  have h1 : ¬ 16777216 < n := by omega
  have h2 : n ≠ 0 := by omega
  unfold Instr.buildSlice
  simp [Sem.run_bind, run_underlying Tryz.underlying25, Sem.run_pure]
  rw [if_neg h1, if_neg h2, hf]
  simp [newRow]
theorem wpList_bytes_row {w : World} {ops : Array Oper} {rest : List Oper} {o : Oper} {a : Act} {Q : Exit → Act → World → Prop} (hgd : o.guard = none) (n : Nat) (parts : Array (Nat × Operand)) (ho : o.op = .buildSlice 25 n parts)
    (C : Array Value) (hn0 : 0 < n) (hn : n ≤ 16777216)
    (hf : Instr.fill (fun i => some (i, 1)) (Array.map (fun x => (Value.int .u8 0).cells[x % (Value.int .u8 0).cells.size]!) (Array.range n)) (parts.map fun (i, x) => (i, a.eval x)).toList = some C)
    (h : wpList Tryz.prog ops Q rest (a.put o.dst (.slice (some ⟨w.heap.size, 0, none⟩) n n)) (w.alloc (.cells C 5))) : wpList Tryz.prog ops Q (o :: rest) a w := by
  refine wpList_plain hgd fun K hK => ?_
  have hr := run_bytes_row n _ C w hn0 hn hf
  unfold Oper.wp execOp
  simp only [ho, Sem.run_bind, Sem.run_pure, hr, Result.andThen_ok]
  exact hK _ _ h
end Go.Proofs.YtkpikpaepgknnaaGreatDoor

/- What is written: a packet. No condition. -/
namespace Go.Proofs.YtkpikpaepgknnaaGreatDoor
open Go Go.RowKit Go.Wk Go.Xt Go.Xe Go.Xw
/-- all of them put in order, or none if one may not be -/
def addAll : List Pr → List Pr → Option (List Pr)
  | acc, [] => some acc
  | acc, p :: ps => if mayB p = true then (match addP acc p with | none => none | some l => addAll l ps) else none
theorem addAll_cons (acc : List Pr) (p : Pr) (ps : List Pr) : addAll acc (p :: ps) = if mayB p = true then (match addP acc p with | none => none | some l => addAll l ps) else none := rfl
def hdrL : Xe.Bs := [60, 63, 120, 112, 97, 99, 107, 101, 116, 32, 98, 101, 103, 105, 110, 61, 34, 34, 32, 105, 100, 61, 34, 87, 53, 77, 48, 77, 112, 67, 101, 104, 105, 72, 122, 114, 101, 83, 122, 78, 84, 99, 122, 107, 99, 57, 100, 34, 63, 62, 10, 60, 120, 58, 120, 109, 112, 109, 101, 116, 97, 32, 120, 109, 108, 110, 115, 58, 120, 61, 34, 97, 100, 111, 98, 101, 58, 110, 115, 58, 109, 101, 116, 97, 47, 34, 62, 60, 114, 100, 102, 58, 82, 68, 70, 32, 120, 109, 108, 110, 115, 58, 114, 100, 102, 61, 34, 104, 116, 116, 112, 58, 47, 47, 119, 119, 119, 46, 119, 51, 46, 111, 114, 103, 47, 49, 57, 57, 57, 47, 48, 50, 47, 50, 50, 45, 114, 100, 102, 45, 115, 121, 110, 116, 97, 120, 45, 110, 115, 35, 34, 62, 10]
def D1 : ByteArray := ⟨#[60, 114, 100, 102, 58, 68, 101, 115, 99, 114, 105, 112, 116, 105, 111, 110, 32, 114, 100, 102, 58, 97, 98, 111, 117, 116, 61, 34, 34, 32, 120, 109, 108, 110, 115, 58, 112, 61, 34]⟩
def D2 : ByteArray := ⟨#[60, 47, 114, 100, 102, 58, 68, 101, 115, 99, 114, 105, 112, 116, 105, 111, 110, 62, 10]⟩
def TL : ByteArray := ⟨#[60, 47, 114, 100, 102, 58, 82, 68, 70, 62, 60, 47, 120, 58, 120, 109, 112, 109, 101, 116, 97, 62, 10, 60, 63, 120, 112, 97, 99, 107, 101, 116, 32, 101, 110, 100, 61, 34, 119, 34, 63, 62]⟩
def descL (p : Pr) : Xe.Bs := D1.data.toList ++ p.sp.data.toList ++ [34, 62] ++ bodyL p ++ D2.data.toList
def packetL (l : List Pr) : Xe.Bs := hdrL ++ l.flatMap descL ++ TL.data.toList
/-- what is known of a property in memory -/
def GoodP (w : World) (x : PA) : Prop := EnsAt w x.2.1 x.1.it ∧ x.1.it.length ≤ x.2.2 ∧ Xw.Small x.1
theorem GoodP.below {w w' : World} {x : PA} (h : GoodP w x) (hb : Below w.heap.size w w') : GoodP w' x := ⟨h.1.below hb, h.2⟩
theorem mem_ins {l : List PA} {x y : PA} {n : Nat} (h : y ∈ l.take n ++ x :: l.drop n) : y = x ∨ y ∈ l := by
  rcases List.mem_append.1 h with h | h
  · exact .inr (List.mem_of_mem_take h)
  · rcases List.mem_cons.1 h with h | h
    · exact .inl h
    · exact .inr (List.mem_of_mem_drop h)
theorem pl_ins (l : List PA) (x : PA) (n : Nat) : pl (l.take n ++ x :: l.drop n) = (pl l).take n ++ x.1 :: (pl l).drop n := by
  unfold pl; rw [List.map_append, List.map_cons, List.map_take, List.map_drop]
theorem may_kind {p : Pr} (h : mayB p = true) : kindB p.kd p.it.length = true := by
  unfold mayB at h
  simp only [Bool.and_eq_true] at h
  exact h.2.1
def GW (p : Pr) (b : Nat) (ax : Array Value) : Nat → Value → World → Prop := fun j v _ => match j with
  | 1 => v = .pointer (some ⟨b, 0, none⟩)
  | 2 => v = .string p.sp
  | 3 => v = .string (D1 ++ p.sp)
  | 4 => v = .string (D1 ++ p.sp ++ ⟨#[34, 62]⟩)
  | 5 => v = .agg ax
  | 6 => ∃ R, v = .string R ∧ R.data.toList = bodyL p ∧ R.size ≤ 100000
  | _ => ∃ R, v = .string (D1 ++ p.sp ++ ⟨#[34, 62]⟩ ++ R) ∧ R.data.toList = bodyL p ∧ R.size ≤ 100000
theorem GW_mono {p : Pr} {b : Nat} {ax : Array Value} (j : Nat) (v : Value) (w w' : World) (hG : GW p b ax j v w) (hk : Below w.heap.size w w') : GW p b ax j v w' := by
  unfold GW at hG ⊢; exact hG
def FW (p : Pr) (w : World) (v : Value) (w' : World) : Prop := ∃ S, v = .string S ∧ S.data.toList = descL p ∧ S.size ≤ 101000 ∧ Below w.heap.size w w'
def GUW (v : Value) : Nat → Value → Prop := fun _ u => u = v
def UW (i : Nat) : Bool := i == 0
/-- what is answered -/
def Wrote (r : Option (List Pr)) (e : Ending) (w : World) : Prop := match r with
  | none => e = .returned (.tuple #[.slice none 0 0, .int .i64 1])
  | some l => ∃ A c, e = .returned (.tuple #[.slice A (packetL l).length c, .int .i64 0]) ∧ Byt w A (packetL l)
set_option maxHeartbeats 16000000 in
set_option maxRecDepth 100000 in
theorem xmp_Write {w : World} (A : Option Addr) (g c : Nat) (ps : List PA) (hA : 0 < ps.length → A = some ⟨g, 0, none⟩) (hn : ps.length ≤ 20) (hcp : ps.length ≤ c) (hc : CellsP w g ps) (hg : ∀ x ∈ ps, GoodP w x) (hT : Lib.Utf8Tabs 0 1 w) (h2 : 2 ≤ w.heap.size) :
    Calls Tryz.prog 10 #[.slice A ps.length c] w fun e w' => Below w.heap.size w w' ∧ Wrote (addAll [] (pl ps)) e w' := by
  obtain ⟨W1, hW1⟩ : ∃ W, W = w.alloc (.cells #[.slice none 0 0] 59) := ⟨_, rfl⟩
  have hb1 : Below w.heap.size w W1 := by rw [hW1]; exact (Below.refl _ _).alloc (Nat.le_refl _) _
  have hL1 : ListAt W1 w.heap.size (w.heap.size + 1) [] := ⟨⟨_, by rw [hW1]; exact Blk.new w 59 _, World.ownsRow_nil _ _ _ _⟩, by omega, by rw [hW1, World.size_alloc]; omega, List.Pairwise.nil⟩
  obtain ⟨n, hnn⟩ : ∃ n, n = ps.length := ⟨_, rfl⟩
  obtain ⟨RES, hRES⟩ : ∃ r, r = addAll [] (pl ps) := ⟨_, rfl⟩
  rw [← hnn, ← hRES]
  rw [← hnn] at hn hcp hA
  have hc1 := hc
  have gd := fun x hx W (hW : Below w.heap.size w W) => (hg x hx).below hW
  have tabs := fun W (hW : Below w.heap.size w W) => tabs_below hT h2 hW
  have siz := fun W (hW : Below w.heap.size w W) => Nat.le_trans h2 hW.size
  replace gd := Lib.hid gd
  replace tabs := Lib.hid tabs
  replace siz := Lib.hid siz
  replace hb1 := Lib.hid hb1
  replace hL1 := Lib.hid hL1
  replace hc1 := Lib.hid hc1
  replace hnn := Lib.hid hnn
  replace hA := Lib.hid hA
  replace hRES := Lib.hid hRES
  clear hc hg hT h2
  go_enter Tryz.func10, Tryz.ntmps10
  go_upto_region 2 with (fail)
  rw [← hW1]
  replace hW1 := Lib.hid hW1
  go_wp2
  go_loopw [12] (fun s12 wr => ∃ (k : Nat) (l : List PA), k ≤ n ∧ s12 = .int .i64 k ∧ l.length = k ∧ ListAt wr w.heap.size (w.heap.size + 1) l ∧ (∀ x ∈ l, GoodP w x ∧ mayB x.1 = true) ∧ RES = addAll (pl l) (pl (ps.drop k)) ∧ Below w.heap.size w wr) (fun s12 _ => n - (RowKit.intOf s12).toNat)
  case atStart => exact ⟨0, [], Nat.zero_le _, rfl, rfl, hL1.out, fun x hx => by simp at hx, hRES.out, hb1.out⟩
  case round =>
    obtain ⟨k, l, hk, rfl, hlk, hL, hgl, hres, hB⟩ := hrel
    by_cases hkn : k < n
    · have hkl : k < ps.length := by rw [← hnn.out]; exact hkn
      have hAe := hA.out (by omega)
      subst hAe
      obtain ⟨x0, x1, x2, x3⟩ := hc1.out.below hB k hkl
      have hxm := List.getElem_mem hkl
      have hd : pl (ps.drop k) = ps[k].1 :: pl (ps.drop (k + 1)) := by rw [List.drop_eq_getElem_cons hkl]; rfl
      rw [hd] at hres
      clear hd
      generalize ps[k] = x at x0 x1 x2 x3 hxm hres
      obtain ⟨WX, hWX⟩ : ∃ W, W = wr.alloc (.cells #[.string x.1.sp, .string x.1.nm, .int .i64 x.1.kd, .slice x.2.1 x.1.it.length x.2.2] 38) := ⟨_, rfl⟩
      have hbX : Below wr.heap.size wr WX := by rw [hWX]; exact (Below.refl _ _).alloc (Nat.le_refl _) _
      have hBX := bthen hB hbX
      obtain ⟨g1, g2, g3⟩ := gd.out x hxm WX hBX
      have gx := gd.out x hxm w (Below.refl _ _)
      have c25 := xmp_may (w := WX) x.1 x.2.1 x.2.2 g1 g3 (tabs.out WX hBX) (siz.out WX hBX)
      have hRX : Blk WX wr.heap.size 38 #[.string x.1.sp, .string x.1.nm, .int .i64 x.1.kd, .slice x.2.1 x.1.it.length x.2.2] := by rw [hWX]; exact Blk.new wr 38 _
      have kp := fun W (hW : Below WX.heap.size WX W) => blk4 (hRX.below hW hRX.lt)
      obtain ⟨y0, y1, y2, y3⟩ := blk4 hRX
      have c26 := fun W (hW : Below WX.heap.size WX W) => xmp_add (w := W) w.heap.size (w.heap.size + 1) l (hL.below (bthen hbX hW)) (by omega) x
      unfold prV at c26
      obtain ⟨PN, hPN⟩ : ∃ P, P = posP x.1 (pl l) := ⟨_, rfl⟩
      have hins : ∀ l', addP (pl l) x.1 = some l' → l' = pl (l.take PN ++ x :: l.drop PN) := fun l' h => by
        rw [pl_ins, hPN]
        unfold addP at h
        split at h
        · cases h
        · injection h with h; rw [← h]; rfl
      rw [← hPN] at c26
      have hlen : (l.take PN ++ x :: l.drop PN).length = k + 1 := by
        have h1 : PN ≤ l.length := by rw [hPN, ← pl_len l]; exact pos_le _ _
        rw [List.length_append, List.length_cons, List.length_take, List.length_drop]; omega
      have hres2 : mayB x.1 = false → RES = none := fun h => by rw [hres, addAll_cons, h]; rfl
      have hres3 : mayB x.1 = true → addP (pl l) x.1 = none → RES = none := fun h h' => by rw [hres, addAll_cons, h, h']; rfl
      have hres4 : mayB x.1 = true → ∀ l', addP (pl l) x.1 = some l' → RES = addAll l' (pl (ps.drop (k + 1))) := fun h l' h' => by rw [hres, addAll_cons, h, h']; rfl
      replace hres2 := Lib.hid hres2
      replace hres3 := Lib.hid hres3
      replace hres4 := Lib.hid hres4
      replace hlen := Lib.hid hlen
      replace hins := Lib.hid hins
      replace hPN := Lib.hid hPN
      replace kp := Lib.hid kp
      replace c25 := Lib.hid c25
      replace c26 := Lib.hid c26
      replace hbX := Lib.hid hbX
      replace hBX := Lib.hid hBX
      replace hB := Lib.hid hB
      replace hgl := Lib.hid hgl
      replace gx := Lib.hid gx
      replace hlk := Lib.hid hlk
      clear hL hres hxm g1 g2 g3 hRX
      go_upto_region 5 with (fail)
      rw [← hWX]
      replace hWX := Lib.hid hWX
      cases hm : mayB x.1 with
      | false =>
        have hr := hres2.out hm
        rw [hm] at c25
        clear hm
        replace hr := Lib.hid hr
        go_wp2_with (go_at_call 25; (with_reducible refine c25.out.mono ?_); rintro e' w2 ⟨rfl, hb2⟩; replace hb2 := Lib.hid hb2)
        go_ret2
        refine ⟨hBX.out.trans (hb2.out.mono hBX.out.size), ?_⟩
        rw [hr.out]; rfl
      | true =>
        cases ha : addP (pl l) x.1 with
        | none =>
          have hr := hres3.out hm ha
          rw [hm] at c25
          rw [ha] at c26
          clear hm ha
          replace hr := Lib.hid hr
          go_wp2_with (first
            | (go_at_call 25; (with_reducible refine c25.out.mono ?_); rintro e' w2 ⟨rfl, hb2⟩; obtain ⟨z0, z1, z2, z3⟩ := kp.out w2 hb2; have c26' := c26.out w2 hb2; replace c26' := Lib.hid c26'; replace hb2 := Lib.hid hb2)
            | (go_at_call 26; (with_reducible refine c26'.out.mono ?_); rintro e' w3 ⟨rfl, hb3, -⟩; replace hb3 := Lib.hid hb3))
          go_ret2
          refine ⟨(bthen hBX.out hb2.out).trans (hb3.out.mono (by omega)), ?_⟩
          rw [hr.out]; rfl
        | some l' =>
          have hr := hres4.out hm l' ha
          rw [hins.out l' ha] at hr
          rw [hm] at c25
          rw [ha] at c26
          replace hr := Lib.hid hr
          replace hm := Lib.hid hm
          clear ha
          go_wp2_with (first
            | (go_at_call 25; (with_reducible refine c25.out.mono ?_); rintro e' w2 ⟨rfl, hb2⟩; obtain ⟨z0, z1, z2, z3⟩ := kp.out w2 hb2; have c26' := c26.out w2 hb2; replace c26' := Lib.hid c26'; replace hb2 := Lib.hid hb2)
            | (go_at_call 26; (with_reducible refine c26'.out.mono ?_); rintro e' w3 ⟨rfl, hb3, hl3⟩; replace hb3 := Lib.hid hb3; replace hl3 := Lib.hid hl3))
          go_roundw
          case rel => exact ⟨k + 1, _, by omega, by go_num, hlen.out, hl3.out rfl, fun y hy => (mem_ins hy).elim (fun h => by rw [h]; exact ⟨gx.out, hm.out⟩) (fun h => hgl.out y h), hr.out, (bthen hBX.out hb2.out).trans (hb3.out.mono (by omega))⟩
          case measure => simp [RowKit.intOf]; omega
    · obtain rfl : k = n := by omega
      have hd : ps.drop k = [] := List.drop_eq_nil_of_le (by have := hnn.out; omega)
      rw [hd] at hres
      have hR9 : RES = some (pl l) := hres
      clear hres hd
      obtain ⟨WX, hWX⟩ : ∃ W, W = wr.alloc (.cells (valsB hdrL).toArray 5 (153, 154)) := ⟨_, rfl⟩
      have cc := conv_const wr (valsB hdrL).toArray 153 153
      have hW2 : Below wr.heap.size wr WX := by rw [hWX]; exact below_mark _ _ _
      have hX0 : OwnX WX.heap.size WX (.slice (some ⟨wr.heap.size, 0, none⟩) 153 153) hdrL := .inr ⟨_, rfl, by rw [hWX, World.size_alloc]; omega, by rw [hWX]; exact byt_mark wr hdrL _ _ rfl (by decide)⟩
      obtain ⟨CB, hCB⟩ : ∃ C, C = (valsB hdrL).toArray := ⟨_, rfl⟩
      have hCs : CB.size = 153 := by rw [hCB]; rfl
      rw [← hCB, hCs] at cc
      rw [← hCB] at hWX
      rw [← hWX] at cc
      have hcB : (#[.int .u8 60, .int .u8 63, .int .u8 120, .int .u8 112, .int .u8 97, .int .u8 99, .int .u8 107, .int .u8 101, .int .u8 116, .int .u8 32, .int .u8 98, .int .u8 101, .int .u8 103, .int .u8 105, .int .u8 110, .int .u8 61, .int .u8 34, .int .u8 34, .int .u8 32, .int .u8 105, .int .u8 100, .int .u8 61, .int .u8 34, .int .u8 87, .int .u8 53, .int .u8 77, .int .u8 48, .int .u8 77, .int .u8 112, .int .u8 67, .int .u8 101, .int .u8 104, .int .u8 105, .int .u8 72, .int .u8 122, .int .u8 114, .int .u8 101, .int .u8 83, .int .u8 122, .int .u8 78, .int .u8 84, .int .u8 99, .int .u8 122, .int .u8 107, .int .u8 99, .int .u8 57, .int .u8 100, .int .u8 34, .int .u8 63, .int .u8 62, .int .u8 10, .int .u8 60, .int .u8 120, .int .u8 58, .int .u8 120, .int .u8 109, .int .u8 112, .int .u8 109, .int .u8 101, .int .u8 116, .int .u8 97, .int .u8 32, .int .u8 120, .int .u8 109, .int .u8 108, .int .u8 110, .int .u8 115, .int .u8 58, .int .u8 120, .int .u8 61, .int .u8 34, .int .u8 97, .int .u8 100, .int .u8 111, .int .u8 98, .int .u8 101, .int .u8 58, .int .u8 110, .int .u8 115, .int .u8 58, .int .u8 109, .int .u8 101, .int .u8 116, .int .u8 97, .int .u8 47, .int .u8 34, .int .u8 62, .int .u8 60, .int .u8 114, .int .u8 100, .int .u8 102, .int .u8 58, .int .u8 82, .int .u8 68, .int .u8 70, .int .u8 32, .int .u8 120, .int .u8 109, .int .u8 108, .int .u8 110, .int .u8 115, .int .u8 58, .int .u8 114, .int .u8 100, .int .u8 102, .int .u8 61, .int .u8 34, .int .u8 104, .int .u8 116, .int .u8 116, .int .u8 112, .int .u8 58, .int .u8 47, .int .u8 47, .int .u8 119, .int .u8 119, .int .u8 119, .int .u8 46, .int .u8 119, .int .u8 51, .int .u8 46, .int .u8 111, .int .u8 114, .int .u8 103, .int .u8 47, .int .u8 49, .int .u8 57, .int .u8 57, .int .u8 57, .int .u8 47, .int .u8 48, .int .u8 50, .int .u8 47, .int .u8 50, .int .u8 50, .int .u8 45, .int .u8 114, .int .u8 100, .int .u8 102, .int .u8 45, .int .u8 115, .int .u8 121, .int .u8 110, .int .u8 116, .int .u8 97, .int .u8 120, .int .u8 45, .int .u8 110, .int .u8 115, .int .u8 35, .int .u8 34, .int .u8 62, .int .u8 10] : Array Value) = CB := hCB.symm
      replace hCB := Lib.hid hCB
      replace hcB := Lib.hid hcB
      replace hCs := Lib.hid hCs
      replace hWX := Lib.hid hWX
      go_upto_region 8 with (fail)
      obtain ⟨⟨vv, hLb, hO⟩, hlb, hsz, hso⟩ := hL
      obtain ⟨A7, g7, cap7, rfl, hA7, hcp7, hcs7⟩ := row_out hO
      rw [hlk] at hLb hA7 hcp7
      have hL2 := hLb.below hW2 hLb.lt
      have z4 := hL2.cell 0
      go_upto_region 9 with (refine wpList_bytes_row rfl 153 _ rfl CB (by decide) (by decide) (by rw [hCB.out]; kernel_rfl) ?_)
      have hc7 := hcs7.below hW2
      have hBX := bthen hB hW2
      replace hc7 := Lib.hid hc7
      replace hX0 := Lib.hid hX0
      replace hgl := Lib.hid hgl
      replace hA7 := Lib.hid hA7
      replace hlk := Lib.hid hlk
      replace hBX := Lib.hid hBX
      replace hR9 := Lib.hid hR9
      clear hcs7 hO hL2 hLb hlb hsz hso cc hB hW2
      go_wp2
      clear z4
      go_loopw [7, 29] (fun s7 s29 wq => ∃ (j : Nat) (o : List UInt8), j ≤ k ∧ s29 = .int .i64 j ∧ o = hdrL ++ (l.take j).flatMap (fun x => descL x.1) ∧ (∃ a m c, s7 = .slice a m c) ∧ OwnX WX.heap.size wq s7 o ∧ o.length ≤ 200 + j * 101000 ∧ Below WX.heap.size WX wq) (fun _ s29 _ => k - (RowKit.intOf s29).toNat)
      case atStart => exact ⟨0, hdrL, Nat.zero_le _, rfl, by simp, ⟨_, _, _, rfl⟩, hX0.out, by decide, Below.refl _ _⟩
      case round =>
        obtain ⟨j, o, hj, rfl, ho, ⟨a7, m7, c7, rfl⟩, hX, hos, hB⟩ := hrel
        by_cases hjk : j < k
        · have hjl : j < l.length := by rw [hlk.out]; exact hjk
          have hAe := hA7.out (by omega)
          subst hAe
          have hxm := List.getElem_mem hjl
          obtain ⟨x0, x1, x2, x3⟩ := hc7.out.below hB j hjl
          obtain ⟨gx, hm⟩ := hgl.out _ hxm
          have hT : hdrL ++ (l.take (j + 1)).flatMap (fun x => descL x.1) = o ++ descL l[j].1 := by
            rw [ho, List.take_succ_eq_append_getElem hjl, List.flatMap_append]; simp
          generalize l[j] = x at x0 x1 x2 x3 gx hm hT
          obtain ⟨WY, hWY⟩ : ∃ W, W = wr.alloc (.cells #[.string x.1.sp, .string x.1.nm, .int .i64 x.1.kd, .slice x.2.1 x.1.it.length x.2.2] 38) := ⟨_, rfl⟩
          have hbY : Below wr.heap.size wr WY := by rw [hWY]; exact (Below.refl _ _).alloc (Nat.le_refl _) _
          have hBY := bthen hB hbY
          have hBZ := bthen hBX.out hBY
          have hRY : Blk WY wr.heap.size 38 #[.string x.1.sp, .string x.1.nm, .int .i64 x.1.kd, .slice x.2.1 x.1.it.length x.2.2] := by rw [hWY]; exact Blk.new wr 38 _
          have kp := fun W (hW : Below WY.heap.size WY W) => blk4 (hRY.below hW hRY.lt)
          have cb := fun W (hW : Below WY.heap.size WY W) => xmp_body (w := W) x.1 x.2.1 x.2.2 (gx.below (bthen hBZ hW)).1 gx.2.2 gx.2.1 (may_kind hm) (tabs.out W (bthen hBZ hW)) (siz.out W (bthen hBZ hW))
          unfold prV at cb
          have hsp := gx.2.2.sp
          have hXY := hX.below hbY
          replace hT := Lib.hid hT
          replace ho := Lib.hid ho
          replace kp := Lib.hid kp
          replace cb := Lib.hid cb
          replace hsp := Lib.hid hsp
          replace hBY := Lib.hid hBY
          replace hbY := Lib.hid hbY
          replace hXY := Lib.hid hXY
          replace hB := Lib.hid hB
          clear gx hm hRY hBZ hX hxm
          go_upto_region 12 with (fail)
          rw [← hWY]
          replace hWY := Lib.hid hWY
          refine wp_lin_two (by kernel_rfl) [none, none, none, none, none, none, none, none, none, none, none, none, none, none, none, none, none, none, none, none, none, none, none, none, none, none, none, none, none, none, none, none, none, some 0, some 1, some 2, some 3, some 4, some 5, some 6, some 7, some 8, none, none, none, none] (fun w' => Below WY.heap.size WY w') (fun w' w'' => Below w'.heap.size w' w'') (GW x.1 wr.heap.size (prs x).toArray) (FW x.1 WY) (GUW (.slice a7 m7 c7)) UW (by rfl) (by kernel_rfl) 8 9 _ _ rfl rfl (by decide) (by decide) (by kernel_rfl) (by kernel_rfl) [0, 2, 3, 4, 7, 6, 7, 8] (by kernel_rfl) [9, 2, 3, 4, 7, 6, 7, 8, 9] (by kernel_rfl) ?thR ?tmono (.cons 8 (.inl rfl) (.cons 7 (.inr (.inr ⟨rfl, Wk.step_of [4, 6] rfl (by kernel_rfl) ?t7⟩)) (.cons 6 (.inr (.inr ⟨rfl, Wk.step_of [5] rfl (by kernel_rfl) ?t6⟩)) (.cons 5 (.inr (.inr ⟨rfl, Wk.step_of [] rfl (by kernel_rfl) ?t5⟩)) (.cons 4 (.inr (.inr ⟨rfl, Wk.step_of [3] rfl (by kernel_rfl) ?t4⟩)) (.cons 3 (.inr (.inr ⟨rfl, Wk.step_of [2] rfl (by kernel_rfl) ?t3⟩)) (.cons 2 (.inr (.inr ⟨rfl, Wk.step_of [1] rfl (by kernel_rfl) ?t2⟩)) (.cons 1 (.inr (.inr ⟨rfl, Wk.step_of [] rfl (by kernel_rfl) ?t1⟩)) (.cons 0 (.inr (.inl ⟨rfl, stepU_of [] rfl (by kernel_rfl) ?t0⟩)) (.nil)))))))))) ?tsN ?tdone
          case thR => exact (Below.refl _ _).drew
          case tmono => exact GW_mono
          case t0 =>
            intro x' w' hd K' hK
            simp (config := {decide := true}) only [upd, GUW, fillL, if_true, if_false] at hK ⊢
            go_simp
            have hK2 := hK _ rfl
            exact hK2
          case t1 =>
            intro x' w' hRw hd K' hK
            simp (config := {decide := true}) only [All, GW, UW, if_true, if_false] at hd
            simp (config := {decide := true}) only [upd, GW, UW, fillL, if_true, if_false] at hK ⊢
            go_simp
            have hK2 := hK _ _ ⟨hRw, Below.refl _ _, rfl⟩
            exact hK2
          case t2 =>
            intro x' w' hRw hd K' hK
            simp (config := {decide := true}) only [All, GW, UW, if_true, if_false] at hd
            obtain ⟨e1, _⟩ := hd
            simp (config := {decide := true}) only [upd, GW, UW, fillL, if_true, if_false] at hK ⊢
            simp only [e1] at hK ⊢
            obtain ⟨y0, y1, y2, y3⟩ := kp.out w' hRw
            go_simp
            have hK2 := hK _ _ ⟨hRw, Below.refl _ _, rfl⟩
            exact hK2
          case t3 =>
            intro x' w' hRw hd K' hK
            simp (config := {decide := true}) only [All, GW, UW, if_true, if_false] at hd
            obtain ⟨e2, _⟩ := hd
            simp (config := {decide := true}) only [upd, GW, UW, fillL, if_true, if_false] at hK ⊢
            simp only [e2] at hK ⊢
            go_simp
            rw [if_neg (by
              have h1 := hsp.out
              have h2 : D1.size = 39 := rfl
              have h3 : D2.size = 19 := rfl
              have h4 : (ByteArray.mk #[34, 62]).size = 2 := rfl
              first | omega | (simp only [ByteArray.size_append]; omega))]
            have hK2 := hK _ _ ⟨hRw, Below.refl _ _, rfl⟩
            exact hK2
          case t4 =>
            intro x' w' hRw hd K' hK
            simp (config := {decide := true}) only [All, GW, UW, if_true, if_false] at hd
            obtain ⟨e3, _⟩ := hd
            simp (config := {decide := true}) only [upd, GW, UW, fillL, if_true, if_false] at hK ⊢
            simp only [e3] at hK ⊢
            go_simp
            rw [if_neg (by
              have h1 := hsp.out
              have h2 : D1.size = 39 := rfl
              have h3 : D2.size = 19 := rfl
              have h4 : (ByteArray.mk #[34, 62]).size = 2 := rfl
              first | omega | (simp only [ByteArray.size_append]; omega))]
            have hK2 := hK _ _ ⟨hRw, Below.refl _ _, rfl⟩
            exact hK2
          case t5 =>
            intro x' w' hRw hd K' hK
            simp (config := {decide := true}) only [All, GW, UW, if_true, if_false] at hd
            simp (config := {decide := true}) only [upd, GW, UW, fillL, if_true, if_false] at hK ⊢
            obtain ⟨y0, y1, y2, y3⟩ := kp.out w' hRw
            go_simp
            have hK2 := hK _ _ ⟨hRw, Below.refl _ _, rfl⟩
            exact hK2
          case t6 =>
            intro x' w' hRw hd K' hK
            simp (config := {decide := true}) only [All, GW, UW, if_true, if_false] at hd
            obtain ⟨e5, _⟩ := hd
            simp (config := {decide := true}) only [upd, GW, UW, fillL, if_true, if_false] at hK ⊢
            simp only [e5] at hK ⊢
            go_simp
            refine (cb.out w' hRw).mono ?_
            rintro e' w2 ⟨R, rfl, hr1, hr2, hB9⟩
            have hK2 := hK _ _ ⟨bthen hRw hB9, hB9, _, rfl, hr1, hr2⟩
            exact hK2
          case t7 =>
            intro x' w' hRw hd K' hK
            simp (config := {decide := true}) only [All, GW, UW, if_true, if_false] at hd
            obtain ⟨e4, ⟨R, e6, hr1, hr2⟩, _⟩ := hd
            simp (config := {decide := true}) only [upd, GW, UW, fillL, if_true, if_false] at hK ⊢
            simp only [e4, e6] at hK ⊢
            go_simp
            rw [if_neg (by
              have h1 := hsp.out
              have h2 : D1.size = 39 := rfl
              have h3 : D2.size = 19 := rfl
              have h4 : (ByteArray.mk #[34, 62]).size = 2 := rfl
              first | omega | (simp only [ByteArray.size_append]; omega))]
            have hK2 := hK _ _ ⟨hRw, Below.refl _ _, _, rfl, hr1, hr2⟩
            exact hK2
          case tsN =>
            intro x' w6 hR6 hG _ K' hK fr hfr
            have a7 := hG 7 (by omega) rfl
            simp only [GW] at a7
            clear hG
            obtain ⟨R, a7, hr1, hr2⟩ := a7
            have hS : (D1 ++ x.1.sp ++ ⟨#[34, 62]⟩ ++ R ++ D2).data.toList = descL x.1 := by unfold descL; simp only [ba_app, hr1]
            have hSz : (D1 ++ x.1.sp ++ ⟨#[34, 62]⟩ ++ R ++ D2).size ≤ 101000 := by
              have := hsp.out
              simp only [ByteArray.size_append]
              show 39 + _ + 2 + _ + 19 ≤ _
              omega
            replace hS := Lib.hid hS
            replace hSz := Lib.hid hSz
            simp only [fillL] at hfr
            rw [a7] at hfr
            subst hfr
            rw [if_pos (show Region.wanted _ _ = true from rfl)]
            go_simp
            rw [if_neg (by
              have h1 := hsp.out
              have h2 : D1.size = 39 := rfl
              have h3 : D2.size = 19 := rfl
              have h4 : (ByteArray.mk #[34, 62]).size = 2 := rfl
              first | omega | (simp only [ByteArray.size_append]; omega))]
            have hK2 := hK _ w6 ⟨_, rfl, hS.out, hSz.out, hR6⟩
            simp (config := {decide := true}) only [upd, fillL, if_true, if_false] at hK2
            rw [a7] at hK2
            exact hK2

          case tdone =>
            intro x' w7 hF hU fr hfr
            obtain ⟨S, e8, hS, hSz, hB7⟩ := hF
            have u0 := hU 0 (by omega) rfl
            simp only [GUW] at u0
            simp only [fillL] at hfr
            rw [u0, e8] at hfr
            clear hU
            have hX7 := hXY.out.below hB7
            have hB8 := bthen hBY.out hB7
            have z7 := hB8.size
            have hlen : (descL x.1).length ≤ 101000 := by rw [← hS]; exact (show S.data.toList.length = S.size from Array.length_toList) ▸ hSz
            have hpos : 0 < (descL x.1).length := by unfold descL; simp only [List.length_append]; show 0 < 39 + _ + _ + _ + _; omega
            replace hS := Lib.hid hS
            replace hX7 := Lib.hid hX7
            replace hB8 := Lib.hid hB8
            subst hfr
            clear hB7 u0 e8
            refine app_xs rfl _ _ rfl WX.heap.size _ o rfl hX7.out S (descL x.1) rfl hS.out hpos (by omega) z7 ?_
            intro v' w8 hO8 hB9
            have hv8 : ∃ a m c, v' = .slice a m c := by rcases hO8.row.2 with ⟨rfl, _⟩ | ⟨_, _, _, rfl, _⟩ <;> exact ⟨_, _, _, rfl⟩
            obtain ⟨a8, m8, c8, rfl⟩ := hv8
            replace hO8 := Lib.hid hO8
            replace hB9 := Lib.hid hB9
            go_wp2
            go_roundw
            case rel => exact ⟨j + 1, _, by omega, by go_num, hT.out.symm, ⟨_, _, _, rfl⟩, .inl hO8.out, by rw [List.length_append]; omega, hB8.out.trans hB9.out⟩
            case measure => simp [RowKit.intOf]; omega
        · obtain rfl : j = k := by omega
          have hT : l.take j = l := by rw [← hlk.out, List.take_length]
          rw [hT] at ho
          have hTs : TL.data.toList.length = 42 := rfl
          have hP : packetL (pl l) = o ++ TL.data.toList := by
            unfold packetL pl
            rw [ho, List.flatMap_map]
          have hr9 := hR9.out
          have zb := hB.size
          replace hP := Lib.hid hP
          replace ho := Lib.hid ho
          replace hX := Lib.hid hX
          replace hB := Lib.hid hB
          replace hr9 := Lib.hid hr9
          clear hT hR9
          go_wp2_with (refine app_xs rfl _ _ rfl WX.heap.size _ o rfl hX.out TL TL.data.toList rfl rfl (by decide) (by rw [hTs]; omega) zb ?_; intro v' w8 hO8 hB9; have hv8 : ∃ a m c, v' = .slice a m c := by { rcases hO8.row.2 with ⟨rfl, _⟩ | ⟨_, _, _, rfl, _⟩ <;> exact ⟨_, _, _, rfl⟩ }; obtain ⟨a8, m8, c8, rfl⟩ := hv8; replace hO8 := Lib.hid hO8; replace hB9 := Lib.hid hB9)
          go_ret2
          refine ⟨hBX.out.trans ((hB.out.trans hB9.out).mono hBX.out.size), ?_⟩
          obtain ⟨A9, c9, e9, hy9, _⟩ := hO8.out.out (by rw [List.length_append, hTs]; unfold maxLen; omega)
          rw [hr9.out]
          refine ⟨A9, c9, ?_, by rw [hP.out]; exact hy9⟩
          rw [hP.out, ← e9]; rfl
end Go.Proofs.YtkpikpaepgknnaaGreatDoor

/- Walks and laws, joined: part E. No condition. -/
import Derived.Test.YthacnnmlephkhaaGreatDoorPrJD
import Derived.Test.YthacnnmlephkhaaGreatDoorPrJA
import Derived.Deep.QuietTactic
import Derived.BigQuiet
import Derived.Test.YthacnnmlephkhaaGreatDoorPrJC
import Derived.Lib.SlBytesConst
set_option linter.unusedSimpArgs false
set_option linter.unusedVariables false
/- An entry put into entries, by the document: with. No condition. -/
namespace Go.Proofs.YthacnnmlephkhaaGreatDoor
open Go Go.RowKit Go.Wk
theorem flat_succ (vl : Nat → List Value) (i : Nat) : ((List.range (i + 1)).map vl).flatten = ((List.range i).map vl).flatten ++ vl i := by
 rw [List.range_succ, List.map_append, List.flatten_append]; simp
theorem drewN_below (w : World) (n : Nat) : Below w.heap.size w (w.drewN n) := ⟨rfl, rfl, rfl, Nat.le_refl _, fun _ _ => rfl⟩
theorem app_row2 {w : World} {ops : Array Oper} {rest : List Oper} {o : Oper} {a : Act} {Q : Exit → Act → World → Prop} (hgd : o.guard = none) (s x : Operand)
 (ho : o.op = .call { callee := .builtin .append, args := #[s, x], argTypes := #[24, 24] }) (B : Nat) (v : Value) (n : Nat) (xs : List Value) (hs : a.eval s = v) (hR : w.ownsRow B 53 6 v n xs)
 (B2 : Nat) (v2 : Value) (m : Nat) (news : List Value) (hx : a.eval x = v2) (hR2 : w.ownsRow B2 53 6 v2 m news) (h1 : ∀ u ∈ news, u.oneCell' = true) (hl : n + m ≤ 1000000000) (hB : B ≤ w.heap.size)
 (h : ∀ v' w', w'.ownsRow B 53 6 v' (n + m) (xs ++ news) → w.grownBy w' v.ownBlock → (v'.ownBlock = v.ownBlock ∨ v'.ownBlock = some w.heap.size) → wpList Tryz.prog ops Q rest (a.put o.dst v') w') : wpList Tryz.prog ops Q (o :: rest) a w := by
 obtain ⟨i0, hi0, hz0, hz1, hz2⟩ := en_info
 rcases hR2.2 with ⟨rfl, hn⟩ | ⟨g, cap, cur, rfl, hB2, hh, hnc, hcm, hcs, htk⟩
 ·have hnil : news = [] := by
   have := hR2.1
   rw [hn] at this
   exact List.length_eq_zero_iff.1 (by omega)
  subst hnil
  subst hn
  refine wpList_append_own_none hgd s x 24 ho B 53 i0 6 Tryz.underlying24 hi0 v n xs hs hR hx ?_
  exact h v w (by simpa using hR) (grown_refl _ _) (.inl rfl)
 ·refine wpList_append_own_at w hgd s x 24 ho B 53 i0 _ 6 104 Tryz.underlying24 hi0 hz0 hz1 hz2 rfl (by decide) v n xs hs hR ⟨g, 0, none⟩ m cap news hx hR2.1 ?_ h1 (by unfold maxLen; omega) (by omega) hB ?_
  ·exact hR2.cells rfl
  ·intro v' w' h1 h2 _ h3
   exact h v' w' h1 h2 h3
def WSt (B p : Nat) (vl : Nat → List Value) (K : List UInt8) (X : Ob) (i : Nat) (v : Value) (w : World) : Prop :=
 (i ≤ p → w.ownsRow B 53 6 v i ((List.range i).map vl).flatten) ∧
 (p < i → ∃ us lo hi, B ≤ lo ∧ ObI lo hi w X us ∧ (∀ q, v.ownBlock = some q → q < lo ∨ hi ≤ q) ∧ w.ownsRow B 53 6 v (i + 1) (((List.range p).map vl).flatten ++ (strV K :: us) ++ ((List.range (i - p)).map fun j => vl (p + j)).flatten))
def GW (Q : Nat) (v0 : Value) (KB : ByteArray) (ag : Array Value) (B : Nat) (X : Ob) : Nat → Value → World → Prop := fun j v w => match j with
 | 0 => v = v0
 | 1 => v = .pointer (some ⟨Q, 0, none⟩)
 | 2 => v = .string KB
 | 3 => v = .pointer (some ⟨Q, 1, none⟩)
 | 4 => v = .agg ag
 | 5 => ∃ a b c e f lo hi, v = .agg #[a, b, c, e, f] ∧ B ≤ lo ∧ ObI lo hi w X [a, b, c, e, f]
 | 6 => ∃ a b c e f lo hi, v = .agg #[.string KB, a, b, c, e, f] ∧ B ≤ lo ∧ ObI lo hi w X [a, b, c, e, f]
 | _ => ∃ a b c e f lo hi g, v = .slice (some ⟨g, 0, none⟩) 1 1 ∧ B ≤ lo ∧ ObI lo hi w X [a, b, c, e, f] ∧ w.ownsRow g 53 6 v 1 [.string KB, a, b, c, e, f]
theorem GW_mono {Q : Nat} {v0 : Value} {KB : ByteArray} {ag : Array Value} {B : Nat} {X : Ob} (j : Nat) (v : Value) (w w' : World) (hG : GW Q v0 KB ag B X j v w) (hk : Below w.heap.size w w') : GW Q v0 KB ag B X j v w' := by
 unfold GW at hG ⊢
 split at hG <;> first
  | exact hG
  | (obtain ⟨a, b, c, e, f, lo, hi, h0, h1, h2⟩ := hG; exact ⟨a, b, c, e, f, lo, hi, h0, h1, obI_below h2 hk⟩)
  | (obtain ⟨a, b, c, e, f, lo, hi, g, h0, h1, h2, h3⟩ := hG; exact ⟨a, b, c, e, f, lo, hi, g, h0, h1, obI_below h2 hk, own_far h3 (fun q _ hq => hk.block q hq)⟩)
set_option maxHeartbeats 8000000 in
set_option maxRecDepth 100000 in
theorem ref_with (w : World) (AD : Option Addr) (gD oD cD : Nat) (d : List (List UInt8 × Ob)) (vd : Nat → List Value) (KB : ByteArray) (X : Ob) (xs : List Value) (hn : d.length ≤ 1100000) (hc : d.length ≤ cD) (hAD : 0 < d.length → AD = some ⟨gD, oD, none⟩)
 (hdo : ∀ i (h : i < d.length), ObAt w d[i].2 (vd i)) (hdk : ∀ i, (h : i < d.length) → d[i].1.length ≤ maxLen ∧ w.cell? ⟨gD, oD + 6 * i, none⟩ = some (strV d[i].1)) (hdv : ∀ i, i < d.length → ∀ j, j < 5 → w.cell? ⟨gD, oD + (6 * i + 1 + j), none⟩ = (vd i)[j]?)
 (hX : ObAt w X xs) (hXb : X.bulk ≤ 1048576) (hX2 : X.kind = 2) (hno : ∀ e ∈ d, (e.1 == KB.data.toList) = false) :
 Calls Tryz.prog 57 #[.slice AD d.length cD, .agg (List.toArray (.string KB :: xs))] w fun e w' => ∃ v us lo hi, e = .returned v ∧ w.heap.size ≤ lo ∧ ObI lo hi w' X us ∧
  w'.ownsRow w.heap.size 53 6 v (d.length + 1) (((List.range (placeE KB.data.toList d)).map fun i => strV (keyAt d i) :: vd i).flatten ++ (.string KB :: us) ++ ((List.range (d.length - placeE KB.data.toList d)).map fun i => strV (keyAt d (placeE KB.data.toList d + i)) :: vd (placeE KB.data.toList d + i)).flatten) ∧ Below w.heap.size w w' := by
 obtain ⟨xn, F1, F2, F3, fn1, fc1, fn2, fc2, fn3, fc3, hxs⟩ := ob_five2 hX
 rw [hX2] at hxs
 subst hxs
 obtain ⟨p, hp⟩ : ∃ p, p = placeE KB.data.toList d := ⟨_, rfl⟩
 have hpl := place_le KB.data.toList d
 have hplt := place_lt KB.data.toList d
 have hpge := place_ge KB.data.toList d
 rw [← hp] at hpl hplt ⊢
 obtain ⟨vl, hvl⟩ : ∃ vl : Nat → List Value, vl = fun i => strV (keyAt d i) :: vd i := ⟨_, rfl⟩
 have hpge2 : ∀ (h : p < d.length), ltB d[p].1 KB.data.toList = false := by subst hp; exact hpge
 have hfl1 : ((List.range p).map fun i => strV (keyAt d i) :: vd i) = (List.range p).map vl := by rw [hvl]
 have hfl2 : ((List.range (d.length - p)).map fun i => strV (keyAt d (p + i)) :: vd (p + i)) = (List.range (d.length - p)).map fun i => vl (p + i) := by rw [hvl]
 rw [hfl1, hfl2]
 obtain ⟨m, hm⟩ : ∃ m, m = d.length := ⟨_, rfl⟩
 have hmd : m = d.length := hm
 rw [← hm] at hn hc hAD hpl ⊢
 obtain ⟨W1, hW1⟩ : ∃ W, W = w.alloc (.cells #[.string KB, .int .i64 2, .int .i64 xn, .slice F1 fn1 fc1, .slice F2 fn2 fc2, .slice F3 fn3 fc3] 53) := ⟨_, rfl⟩
 have hb1 : Below w.heap.size w W1 := by rw [hW1]; exact (Below.refl _ _).alloc (Nat.le_refl _) _
 have z1 : W1.heap.size = w.heap.size + 1 := by rw [hW1, World.size_alloc]
 have hx6 := six_cells hW1
 have ck := fun W (hW : Below W1.heap.size W1 W) => rcopy_all 1048576 (Nat.le_refl _) X _ W (hX.kept (bthen hb1 hW)) hXb
 have hat : ∀ i, i < m → ∃ (S : ByteArray) (c0 c1 c2 c3 c4 : Value), vl i = [.string S, c0, c1, c2, c3, c4] ∧ (S.toList == KB.toList) = false ∧ (S.toList != KB.toList) = true ∧ (i < p → (Op.bytesLess KB.toList S.toList || KB.toList == S.toList) = false) ∧ (i = p → (Op.bytesLess KB.toList S.toList || KB.toList == S.toList) = true) ∧ (∀ u ∈ vl i, u.oneCell' = true) ∧
  (∀ W, Below w.heap.size w W → W.cell? ⟨gD, oD + i * 6, none⟩ = some (.string S) ∧ W.cell? ⟨gD, oD + i * 6 + 1, none⟩ = some c0 ∧ W.cell? ⟨gD, oD + i * 6 + 2, none⟩ = some c1 ∧ W.cell? ⟨gD, oD + i * 6 + 3, none⟩ = some c2 ∧ W.cell? ⟨gD, oD + i * 6 + 4, none⟩ = some c3 ∧ W.cell? ⟨gD, oD + i * 6 + 5, none⟩ = some c4) := fun i hi => by
  have hid : i < d.length := by omega
  have h5 := (hdo i hid).five
  match hv : vd i, h5 with
  | [c0, c1, c2, c3, c4], _ =>
  have e1 : (bytes d[i].1).data.toList = d[i].1 := rfl
  have e0 : ((bytes d[i].1).toList == KB.toList) = false := by rw [ByteArray.toList_eq, ByteArray.toList_eq, e1]; exact hno _ (List.getElem_mem hid)
  refine ⟨bytes d[i].1, c0, c1, c2, c3, c4, by rw [hvl]; show strV (keyAt d i) :: vd i = _; rw [hv, keyAt_eq hid]; rfl, e0, by rw [bne, e0]; rfl, fun h => ?_, fun h => ?_, fun u hu => ?_, fun W hW => ?_⟩
  ·rw [le_keys, e1, hplt i hid h]; rfl
  ·rw [le_keys, e1]; subst h; rw [hpge2 hid]; rfl
  ·rw [hvl] at hu
   rcases List.mem_cons.1 hu with rfl | hu
   ·rfl
   ·exact one_five (hdo i hid) u hu
  ·have key := (hdk i hid).2
   have cel : ∀ j u, (vd i)[j]? = some u → W.cell? ⟨gD, oD + i * 6 + 1 + j, none⟩ = some u := fun j u hu => by
    have h9 := hdv i (by omega) j (by rw [hv] at hu; exact (List.getElem?_eq_some_iff.1 hu).1)
    rw [hu] at h9
    rw [← (hW.cell (cell_lt h9)).trans h9]
    congr 2
    omega
   rw [hv] at cel
   refine ⟨?_, cel 0 _ rfl, cel 1 _ rfl, cel 2 _ rfl, cel 3 _ rfl, cel 4 _ rfl⟩
   rw [Nat.mul_comm, hW.cell (cell_lt key), key]; rfl
 replace hat := hi_ hat
 replace ck := hi_ ck
 replace hx6 := hi_ hx6
 replace hb1 := hi_ hb1
 replace hAD := hi_ hAD
 replace hX2 := hi_ hX2
 clear hfl1 hfl2 hpge hpge2 hplt hno hdo hdk hdv hX hXb hvl hm hmd hp
 go_enter Tryz.func57, Tryz.ntmps57
 go_upto_region 1 with (fail)
 rw [← hW1]
 replace hW1 := hi_ hW1
 obtain ⟨f0, f1, f2, f3, f4, f5⟩ := hx6.out
 go_wp2
 go_loopw [5, 6, 7] (fun s5 s6 s7 wr => ∃ i : Nat, i ≤ m ∧ s7 = .int .i64 i ∧ s6 = .bool (decide (p < i)) ∧ WSt W1.heap.size p vl KB.data.toList X i s5 wr ∧ Below W1.heap.size W1 wr) (fun _ _ s7 _ => m - (RowKit.intOf s7).toNat)
 case atStart => exact ⟨0, by omega, rfl, rfl, ⟨fun _ => World.ownsRow_nil _ _ _ _, fun h => by omega⟩, Below.refl _ _⟩
 case round =>
  obtain ⟨i, hi, rfl, rfl, hS, hB⟩ := hrel
  have lB := hB.size
  obtain ⟨y0, y1, y2, y3, y4, y5⟩ := six_kept hx6.out hB
  by_cases him : i < m
  ·have hAe := hAD.out (by omega)
   subst hAe
   obtain ⟨S, c0, c1, c2, c3, c4, hv, e0, e0', e1, e2, hone, hcell⟩ := hat.out i him
   obtain ⟨k0, k1, k2, k3, k4, k5⟩ := hcell wr (bthen hb1.out hB)
   replace hone := hi_ hone
   replace hcell := hi_ hcell
   rw [hv] at hone
   have hfs := flat_succ vl
   obtain ⟨T6, hT6⟩ : ∃ T : List Value, T = [.string S, c0, c1, c2, c3, c4] := ⟨_, rfl⟩
   replace hv := hi_ hv
   replace hone := hi_ hone
   replace hfs := hi_ hfs
   rcases Nat.lt_trichotomy i p with h | h | h
   ·-- not yet
    have e1 := e1 h
    have hdp : decide (p < i) = false := by simp; omega
    have hOr := hS.1 (by omega)
    obtain ⟨FI, hFI⟩ : ∃ F, F = ((List.range i).map vl).flatten := ⟨_, rfl⟩
    rw [← hFI] at hOr
    replace hFI := hi_ hFI
    clear e2
    rw [hdp]
    replace hdp := hi_ hdp
    replace hS := hi_ hS
    replace hB := hi_ hB
    go_upto_region 6 with (fail)
    go_quiet (fail)
    obtain ⟨wq, hwq⟩ : ∃ W, W = wr.drewN nq := ⟨_, rfl⟩
    rw [← hwq]
    have hBq : Below wr.heap.size wr wq := by rw [hwq]; exact drewN_below _ _
    obtain ⟨t0, t1, t2, t3, t4, t5⟩ := hcell.out wq (bthen (bthen hb1.out hB.out) hBq)
    have s0 := (hBq.cell (cell_lt y0)).trans y0
    replace hwq := hi_ hwq
    have hOq := own_far hOr (fun q _ hq => hBq.block q hq)
    replace hOq := hi_ hOq
    replace hOr := hi_ hOr
    clear k0 k1 k2 k3 k4 k5 y0 y1 y2 y3 y4 y5
    replace hBq := hi_ hBq
    go_upto_region 9 with (fail)
    go_quiet (fail)
    obtain ⟨wz, hwz⟩ : ∃ W, W = wq.drewN nq := ⟨_, rfl⟩
    rw [← hwz]
    have hBz : Below wq.heap.size wq wz := by rw [hwz]; exact drewN_below _ _
    clear t0 t1 t2 t3 t4 t5
    obtain ⟨t0, t1, t2, t3, t4, t5⟩ := hcell.out wz (bthen (bthen (bthen hb1.out hB.out) hBq.out) hBz)
    have hbA := (Below.refl wz.heap.size wz).alloc (Nat.le_refl _) (.cells #[.string S, c0, c1, c2, c3, c4] 53)
    have hDz := bthen hBq.out hBz
    have hzA : (wz.alloc (.cells #[.string S, c0, c1, c2, c3, c4] 53)).heap.size = wz.heap.size + 1 := World.size_alloc _ _
    have hOA := own_far hOq.out (fun q _ hq => (bthen hBz hbA).block q hq)
    have hOX := one_row wz [.string S, c0, c1, c2, c3, c4] rfl
    have zz := hDz.size
    have hDA : Below wr.heap.size wr (wz.alloc (.cells #[.string S, c0, c1, c2, c3, c4] 53)) := bthen hDz hbA
    replace hwz := hi_ hwz
    replace hBz := hi_ hBz
    replace hDz := hi_ hDz
    replace hbA := hi_ hbA
    replace hDA := hi_ hDA
    replace hzA := hi_ hzA
    replace hOA := hi_ hOA
    replace hOX := hi_ hOX
    go_wp2_with (at_builtin; refine app_row2 rfl _ _ rfl W1.heap.size _ i FI rfl hOA.out wz.heap.size _ 1 [.string S, c0, c1, c2, c3, c4] rfl hOX.out hone.out (by omega) (by rw [hzA.out]; omega) ?_; intro v6 w6 hO6 hg6 hat6; have hlt6 := World.ownsRow.lt hOA.out; replace hO6 := hi_ hO6; replace hg6 := hi_ hg6; replace hat6 := hi_ hat6; replace hlt6 := hi_ hlt6)
    go_roundw
    case measure => simp [RowKit.intOf]; omega
    case rel =>
     have hB6 : Below w.heap.size w w6 := (bthen (bthen hb1.out hB.out) hDA.out).grown hg6.out (by rw [hzA.out]; omega) (fun q hq => by have := (hlt6.out q hq).1; omega)
     have hB6' : Below W1.heap.size W1 w6 := (bthen hB.out hDA.out).grown hg6.out (by rw [hzA.out]; omega) (fun q hq => (hlt6.out q hq).1)
     refine ⟨i + 1, by omega, by go_num, by rw [show decide (p < i + 1) = false by simp; omega], ⟨fun _ => ?_, fun h => by omega⟩, hB6'⟩
     rw [hfs.out, hv.out, ← hFI.out]; exact hO6.out
   ·-- here
    have e2 := e2 h
    subst h
    have hdp : decide (i < i) = false := by simp
    have hOr := hS.1 (Nat.le_refl _)
    obtain ⟨FI, hFI⟩ : ∃ F, F = ((List.range i).map vl).flatten := ⟨_, rfl⟩
    rw [← hFI] at hOr
    replace hFI := hi_ hFI
    clear e1
    rw [hdp]
    replace hdp := hi_ hdp
    replace hS := hi_ hS
    replace hB := hi_ hB
    go_upto_region 6 with (fail)
    go_quiet (fail)
    obtain ⟨wq, hwq⟩ : ∃ W, W = wr.drewN nq := ⟨_, rfl⟩
    rw [← hwq]
    have hBq : Below wr.heap.size wr wq := by rw [hwq]; exact drewN_below _ _
    obtain ⟨t0, t1, t2, t3, t4, t5⟩ := hcell.out wq (bthen (bthen hb1.out hB.out) hBq)
    have s0 := (hBq.cell (cell_lt y0)).trans y0
    replace hwq := hi_ hwq
    obtain ⟨x0, x1, x2, x3, x4, x5⟩ := six_kept hx6.out (bthen hB.out hBq)
    replace hOr := hi_ hOr
    replace hBq := hi_ hBq
    clear k0 k1 k2 k3 k4 k5 y0 y1 y2 y3 y4 y5 t0 t1 t2 t3 t4 t5 s0
    go_upto_region 7 with (fail)
    have hOw := own_far hOr.out (fun q _ hq => hBq.out.block q hq)
    replace hOw := hi_ hOw
    refine wp_lin_tail (by kernel_rfl) [none, none, none, none, none, none, none, none, none, none, none, none, none, none, none, none, none, none, none, none, none, none, none, none, none, none, none, none, none, none, some 0, some 1, some 2, some 3, some 4, some 5, some 6, some 7, none, none, none, none, none, none, none, none, none, none, none, none, none, none, none, none, none, none, none, none, none, none, none, none, none, none, none, none] (fun w' => Below wq.heap.size wq w') (fun w' w'' => Below w'.heap.size w' w'') (GW w.heap.size u5 KB #[.int .i64 2, .int .i64 xn, .slice F1 fn1 fc1, .slice F2 fn2 fc2, .slice F3 fn3 fc3] wq.heap.size X) (by rfl) (by kernel_rfl) 8 _ rfl (by decide) (by kernel_rfl) [8, 2, 6, 4, 5, 8, 7, 8, 0] (by kernel_rfl) ?hR ?mono (.cons 7 (step_of [6] rfl (by kernel_rfl) ?s7) (.cons 6 (step_of [2, 5] rfl (by kernel_rfl) ?s6) (.cons 5 (step_of [4] rfl (by kernel_rfl) ?s5) (.cons 4 (step_of [3] rfl (by kernel_rfl) ?s4) (.cons 3 (step_of [] rfl (by kernel_rfl) ?s3) (.cons 2 (step_of [1] rfl (by kernel_rfl) ?s2) (.cons 1 (step_of [] rfl (by kernel_rfl) ?s1) (.cons 0 (step_of [] rfl (by kernel_rfl) ?s0) (.nil))))))))) ?done
    case hR => exact (Below.refl _ _).drew
    case mono => exact GW_mono
    case s0 =>
     intro x w' hRw hd K' hK
     simp only [All, GW] at hd
     simp +decide only [upd, GW, fillL, if_true, if_false] at hK ⊢
     go_simp
     have hK2 := hK _ _ ⟨hRw, Below.refl _ _, rfl⟩
     exact hK2
    case s1 =>
     intro x w' hRw hd K' hK
     simp only [All, GW] at hd
     simp +decide only [upd, GW, fillL, if_true, if_false] at hK ⊢
     go_simp
     have hK2 := hK _ _ ⟨hRw, Below.refl _ _, rfl⟩
     exact hK2
    case s2 =>
     intro x w' hRw hd K' hK
     simp only [All, GW] at hd
     have tx0 := (hRw.cell (cell_lt x0)).trans x0
     simp +decide only [upd, GW, fillL, if_true, if_false] at hK ⊢
     try simp only [hd.1] at hK ⊢
     go_simp
     have hK2 := hK _ _ ⟨hRw, Below.refl _ _, rfl⟩
     exact hK2
    case s3 =>
     intro x w' hRw hd K' hK
     simp only [All, GW] at hd
     simp +decide only [upd, GW, fillL, if_true, if_false] at hK ⊢
     go_simp
     have hK2 := hK _ _ ⟨hRw, Below.refl _ _, rfl⟩
     exact hK2
    case s4 =>
     intro x w' hRw hd K' hK
     simp only [All, GW] at hd
     have tx1 := (hRw.cell (cell_lt x1)).trans x1
     have tx2 := (hRw.cell (cell_lt x2)).trans x2
     have tx3 := (hRw.cell (cell_lt x3)).trans x3
     have tx4 := (hRw.cell (cell_lt x4)).trans x4
     have tx5 := (hRw.cell (cell_lt x5)).trans x5
     simp +decide only [upd, GW, fillL, if_true, if_false] at hK ⊢
     try simp only [hd.1] at hK ⊢
     go_simp
     have hK2 := hK _ _ ⟨hRw, Below.refl _ _, rfl⟩
     exact hK2
    case s5 =>
     intro x w' hRw hd K' hK
     simp only [All, GW] at hd
     simp +decide only [upd, GW, fillL, if_true, if_false] at hK ⊢
     try simp only [hd.1] at hK ⊢
     go_simp
     refine (ck.out w' (bthen (bthen hB.out hBq.out) hRw)).mono ?_
     rintro e' w2 ⟨us, rfl, hI6, hB6⟩
     obtain ⟨xn', G1, G2, G3, gn1, gc1, gn2, gc2, gn3, gc3, hx6'⟩ := ob_five2 hI6.ob
     subst hx6'
     have hK2 := hK _ _ ⟨bthen hRw hB6, hB6, _, _, _, _, _, w'.heap.size, w2.heap.size, rfl, hRw.size, hI6⟩
     exact hK2
    case s6 =>
     intro x w' hRw hd K' hK
     simp only [All, GW] at hd
     simp +decide only [upd, GW, fillL, if_true, if_false] at hK ⊢
     obtain ⟨h2, ⟨a, b, c, e, f, lo, hi', h5, hlo, hI⟩, _⟩ := hd
     simp only [h2, h5] at hK ⊢
     go_simp
     have hK2 := hK _ _ ⟨hRw, Below.refl _ _, a, b, c, e, f, lo, hi', rfl, hlo, hI⟩
     exact hK2
    case s7 =>
     intro x w' hRw hd K' hK
     simp only [All, GW] at hd
     simp +decide only [upd, GW, fillL, if_true, if_false] at hK ⊢
     obtain ⟨⟨a, b, c, e, f, lo, hi', h6, hlo, hI⟩, _⟩ := hd
     simp only [h6] at hK ⊢
     go_simp
     have hbn := (Below.refl w'.heap.size w').alloc (Nat.le_refl _) (.cells #[.string KB, a, b, c, e, f] 53)
     have hK2 := hK _ _ ⟨bthen hRw hbn, hbn, a, b, c, e, f, lo, hi', w'.heap.size, rfl, hlo, obI_below hI hbn, one_row w' [.string KB, a, b, c, e, f] rfl⟩
     exact hK2
    case done =>
     intro x w4 hR2' hG fr hfr
     have a0 := hG 0 (by omega)
     have a7 := hG 7 (by omega)
     simp only [GW] at a0 a7
     clear hG
     obtain ⟨a, b, c, e, f, lo, hi', g7, a7, hlo, hI, hOX4⟩ := a7
     obtain ⟨xn', G1, G2, G3, gn1, gc1, gn2, gc2, gn3, gc3, hx6'⟩ := ob_five2 hI.ob
     rw [hX2.out] at hx6'
     simp only [List.cons.injEq, and_true] at hx6'
     obtain ⟨rfl, rfl, rfl, rfl, rfl⟩ := hx6'
     simp only [fillL] at hfr
     rw [a7] at hOX4
     rw [a0, a7] at hfr
     subst hfr
     clear a0 a7 x0 x1 x2 x3 x4 x5
     have hD4 : Below W1.heap.size W1 w4 := bthen (bthen hB.out hBq.out) hR2'
     have hO4 := own_far hOw.out (fun q _ hq => hR2'.block q hq)
     have hone4 : ∀ u ∈ [Value.string KB, .int .i64 2, .int .i64 xn', .slice G1 gn1 gc1, .slice G2 gn2 gc2, .slice G3 gn3 gc3], u.oneCell' = true := fun u hu => by
      simp only [List.mem_cons, List.not_mem_nil, or_false] at hu
      rcases hu with rfl | rfl | rfl | rfl | rfl | rfl <;> rfl
     have hltw := World.ownsRow.lt hOw.out
     have zR := hR2'.size
     have hI4 := hI
     have z1w : W1.heap.size ≤ wq.heap.size := (bthen hB.out hBq.out).size
     replace hltw := hi_ hltw
     replace hI := hi_ hI
     replace hI4 := hi_ hI4
     replace hD4 := hi_ hD4
     replace hR2' := hi_ hR2'
     replace hO4 := hi_ hO4
     replace hOX4 := hi_ hOX4
     replace hone4 := hi_ hone4
     replace hlo := hi_ hlo
     refine app_row2 rfl _ _ rfl W1.heap.size _ i FI rfl hO4.out g7 _ 1 [.string KB, .int .i64 2, .int .i64 xn', .slice G1 gn1 gc1, .slice G2 gn2 gc2, .slice G3 gn3 gc3] rfl hOX4.out hone4.out (by omega) (by omega) ?_
     intro v5 w5 hO5 hg5 hat5
     have hlt5 := World.ownsRow.lt hO4.out
     replace hO5 := hi_ hO5
     replace hg5 := hi_ hg5
     replace hat5 := hi_ hat5
     replace hlt5 := hi_ hlt5
     go_wp2
     have hB5 : Below W1.heap.size W1 w5 := hD4.out.grown hg5.out (by omega) (fun q hq => (hlt5.out q hq).1)
     have hIt := hI4.out.1
     have hIh := hI.out.1
     have hltu : ∀ q, u5.ownBlock = some q → W1.heap.size ≤ q ∧ q < wq.heap.size := hltw.out
     have hlo' := hlo.out
     have hI5 : ObI lo hi' w5 X [.int .i64 2, .int .i64 xn', .slice G1 gn1 gc1, .slice G2 gn2 gc2, .slice G3 gn3 gc3] := hI4.out.keep (fun q h1 h2 => hg5.out.block q (by omega) (fun e => by have := (hltu q e.symm).2; omega)) (by have := hg5.out.size; omega)
     have hap5 : ∀ q, v5.ownBlock = some q → q < lo ∨ hi' ≤ q := fun q hq => by
      rcases hat5.out with e | e
      ·have := (hltu q (e.symm.trans hq)).2
       left; omega
      ·rw [e] at hq
       injection hq with hq
       right; omega
     obtain ⟨t0, t1, t2, t3, t4, t5⟩ := hcell.out w5 (bthen hb1.out hB5)
     have s0 := (hB5.cell (cell_lt f0)).trans f0
     have hBq5 := Below.refl w5.heap.size w5
     obtain ⟨F5, hF5⟩ : ∃ F : List Value, F = FI ++ [.string KB, .int .i64 2, .int .i64 xn', .slice G1 gn1 gc1, .slice G2 gn2 gc2, .slice G3 gn3 gc3] := ⟨_, rfl⟩
     replace hO5 := hO5.out
     rw [← hF5] at hO5
     replace hO5 := hi_ hO5
     replace hF5 := hi_ hF5
     have zw5 := hB5.size
     replace hB5 := hi_ hB5
     replace hI5 := hi_ hI5
     replace hap5 := hi_ hap5
     replace hBq5 := hi_ hBq5
     go_upto_region 9 with (fail)
     go_quiet (fail)
     obtain ⟨wz, hwz⟩ : ∃ W, W = w5.drewN nq := ⟨_, rfl⟩
     rw [← hwz]
     have hBz : Below w5.heap.size w5 wz := by rw [hwz]; exact drewN_below _ _
     clear t0 t1 t2 t3 t4 t5
     obtain ⟨t0, t1, t2, t3, t4, t5⟩ := hcell.out wz (bthen (bthen (bthen hb1.out hB5.out) hBq5.out) hBz)
     have hbA := (Below.refl wz.heap.size wz).alloc (Nat.le_refl _) (.cells #[.string S, c0, c1, c2, c3, c4] 53)
     have hDz := bthen hBq5.out hBz
     have hzA : (wz.alloc (.cells #[.string S, c0, c1, c2, c3, c4] 53)).heap.size = wz.heap.size + 1 := World.size_alloc _ _
     have hOA := own_far hO5.out (fun q _ hq => (bthen hBz hbA).block q hq)
     have hOX := one_row wz [.string S, c0, c1, c2, c3, c4] rfl
     have zz := hDz.size
     have hDA : Below w5.heap.size w5 (wz.alloc (.cells #[.string S, c0, c1, c2, c3, c4] 53)) := bthen hDz hbA
     replace hwz := hi_ hwz
     replace hBz := hi_ hBz
     replace hDz := hi_ hDz
     replace hbA := hi_ hbA
     replace hDA := hi_ hDA
     replace hzA := hi_ hzA
     replace hOA := hi_ hOA
     replace hOX := hi_ hOX
     go_wp2_with (at_builtin; refine app_row2 rfl _ _ rfl W1.heap.size _ (i + 1) F5 rfl hOA.out wz.heap.size _ 1 [.string S, c0, c1, c2, c3, c4] rfl hOX.out hone.out (by omega) (by rw [hzA.out]; omega) ?_; intro v6 w6 hO6 hg6 hat6; have hlt6 := World.ownsRow.lt hOA.out; replace hO6 := hi_ hO6; replace hg6 := hi_ hg6; replace hat6 := hi_ hat6; replace hlt6 := hi_ hlt6)
     go_roundw
     case measure => simp [RowKit.intOf]; omega
     case rel =>
      have hB6 : Below w.heap.size w w6 := (bthen (bthen hb1.out hB5.out) hDA.out).grown hg6.out (by rw [hzA.out]; omega) (fun q hq => by have := (hlt6.out q hq).1; omega)
      have hB6' : Below W1.heap.size W1 w6 := (bthen hB5.out hDA.out).grown hg6.out (by rw [hzA.out]; omega) (fun q hq => (hlt6.out q hq).1)
      have hIz := hI5.out.1
      refine ⟨i + 1, by omega, by go_num, by rw [show decide (i < i + 1) = true by simp], ⟨fun h => by omega, fun _ => ⟨_, lo, hi', by omega, hI5.out.keep (fun q h1 h2 => (hg6.out.block q (by rw [hzA.out]; omega) (fun e => ?_)).trans (hDA.out.block q (by omega))) (by have := hg6.out.size; rw [hzA.out] at this; omega), fun q hq => ?_, ?_⟩⟩, hB6'⟩
      ·have := hap5.out q e.symm
       omega
      ·rcases hat6.out with e | e
       ·exact hap5.out q (show v5.ownBlock = some q from e.symm.trans hq)
       ·rw [e, hzA.out] at hq
        injection hq with hq
        right; omega
      ·have e2 : i + 1 - i = 1 := by omega
       rw [e2, ← hFI.out]
       have h9 := hO6.out
       rw [← hv.out, hF5.out] at h9
       simpa [show strV KB.data.toList = Value.string KB from rfl] using h9
   ·-- already
    have hdp : decide (p < i) = true := by simp; omega
    obtain ⟨us, lo, hi, hlo, hI, hap, hOr⟩ := hS.2 h
    obtain ⟨FI, hFI⟩ : ∃ F, F = ((List.range p).map vl).flatten ++ (strV KB.data.toList :: us) ++ ((List.range (i - p)).map fun j => vl (p + j)).flatten := ⟨_, rfl⟩
    rw [← hFI] at hOr
    replace hFI := hi_ hFI
    clear e2 e1
    rw [hdp]
    replace hdp := hi_ hdp
    replace hS := hi_ hS
    replace hB := hi_ hB
    replace hI := hi_ hI
    replace hap := hi_ hap
    replace hlo := hi_ hlo
    go_upto_region 6 with (fail)
    go_quiet (fail)
    obtain ⟨wq, hwq⟩ : ∃ W, W = wr.drewN nq := ⟨_, rfl⟩
    rw [← hwq]
    have hBq : Below wr.heap.size wr wq := by rw [hwq]; exact drewN_below _ _
    obtain ⟨t0, t1, t2, t3, t4, t5⟩ := hcell.out wq (bthen (bthen hb1.out hB.out) hBq)
    have s0 := (hBq.cell (cell_lt y0)).trans y0
    replace hwq := hi_ hwq
    have hOq := own_far hOr (fun q _ hq => hBq.block q hq)
    replace hOq := hi_ hOq
    replace hOr := hi_ hOr
    clear k0 k1 k2 k3 k4 k5 y0 y1 y2 y3 y4 y5
    replace hBq := hi_ hBq
    go_upto_region 9 with (fail)
    go_quiet (fail)
    obtain ⟨wz, hwz⟩ : ∃ W, W = wq.drewN nq := ⟨_, rfl⟩
    rw [← hwz]
    have hBz : Below wq.heap.size wq wz := by rw [hwz]; exact drewN_below _ _
    clear t0 t1 t2 t3 t4 t5
    obtain ⟨t0, t1, t2, t3, t4, t5⟩ := hcell.out wz (bthen (bthen (bthen hb1.out hB.out) hBq.out) hBz)
    have hbA := (Below.refl wz.heap.size wz).alloc (Nat.le_refl _) (.cells #[.string S, c0, c1, c2, c3, c4] 53)
    have hDz := bthen hBq.out hBz
    have hzA : (wz.alloc (.cells #[.string S, c0, c1, c2, c3, c4] 53)).heap.size = wz.heap.size + 1 := World.size_alloc _ _
    have hOA := own_far hOq.out (fun q _ hq => (bthen hBz hbA).block q hq)
    have hOX := one_row wz [.string S, c0, c1, c2, c3, c4] rfl
    have zz := hDz.size
    have hDA : Below wr.heap.size wr (wz.alloc (.cells #[.string S, c0, c1, c2, c3, c4] 53)) := bthen hDz hbA
    replace hwz := hi_ hwz
    replace hBz := hi_ hBz
    replace hDz := hi_ hDz
    replace hbA := hi_ hbA
    replace hDA := hi_ hDA
    replace hzA := hi_ hzA
    replace hOA := hi_ hOA
    replace hOX := hi_ hOX
    go_wp2_with (at_builtin; refine app_row2 rfl _ _ rfl W1.heap.size _ (i + 1) FI rfl hOA.out wz.heap.size _ 1 [.string S, c0, c1, c2, c3, c4] rfl hOX.out hone.out (by omega) (by rw [hzA.out]; omega) ?_; intro v6 w6 hO6 hg6 hat6; have hlt6 := World.ownsRow.lt hOA.out; replace hO6 := hi_ hO6; replace hg6 := hi_ hg6; replace hat6 := hi_ hat6; replace hlt6 := hi_ hlt6)
    go_roundw
    case measure => simp [RowKit.intOf]; omega
    case rel =>
     have hB6 : Below w.heap.size w w6 := (bthen (bthen hb1.out hB.out) hDA.out).grown hg6.out (by rw [hzA.out]; omega) (fun q hq => by have := (hlt6.out q hq).1; omega)
     have hB6' : Below W1.heap.size W1 w6 := (bthen hB.out hDA.out).grown hg6.out (by rw [hzA.out]; omega) (fun q hq => (hlt6.out q hq).1)
     have hIz := hI.out.1
     refine ⟨i + 1, by omega, by go_num, by rw [show decide (p < i + 1) = true by simp; omega], ⟨fun h => by omega, fun _ => ⟨us, lo, hi, hlo.out, hI.out.keep (fun q h1 h2 => (hg6.out.block q (by rw [hzA.out]; omega) (fun e => ?_)).trans (hDA.out.block q (by omega))) (by have := hg6.out.size; rw [hzA.out] at this; omega), fun q hq => ?_, ?_⟩⟩, hB6'⟩
     ·have := hap.out q e.symm
      omega
     ·rcases hat6.out with e | e
      ·exact hap.out q (show u5.ownBlock = some q from e.symm.trans hq)
      ·rw [e, hzA.out] at hq
       injection hq with hq
       right; omega
     ·have e2 := flat_succ (fun j => vl (p + j)) (i - p)
      rw [show i - p + 1 = i + 1 - p by omega, show p + (i - p) = i by omega, hv.out] at e2
      rw [e2, ← List.append_assoc, ← hFI.out]
      exact hO6.out
  ·obtain rfl : i = m := by omega
   rcases Nat.lt_or_ge p i with h | h
   ·have hdp : decide (p < i) = true := by simp; omega
    obtain ⟨us, lo, hi, hlo, hI, hap, hOr⟩ := hS.2 h
    rw [hdp]
    replace hdp := hi_ hdp
    have hBf := bthen hb1.out hB
    have hOf := own_base hOr (B' := w.heap.size) (by omega)
    replace hI := hi_ hI
    replace hBf := hi_ hBf
    replace hOf := hi_ hOf
    replace hap := hi_ hap
    clear hS hOr hB
    go_wp2
    go_ret
    exact ⟨u5, us, lo, hi, rfl, by omega, hI.out, hOf.out, hBf.out⟩
   ·obtain rfl : p = i := by omega
    have hdp : decide (p < p) = false := by simp
    have hOr := hS.1 (Nat.le_refl _)
    obtain ⟨FI, hFI⟩ : ∃ F, F = ((List.range p).map vl).flatten := ⟨_, rfl⟩
    rw [← hFI] at hOr
    replace hFI := hi_ hFI
    rw [hdp]
    replace hdp := hi_ hdp
    replace hOr := hi_ hOr
    replace hS := hi_ hS
    obtain ⟨x0, x1, x2, x3, x4, x5⟩ := six_kept hx6.out hB
    replace hB := hi_ hB
    clear y0 y1 y2 y3 y4 y5
    go_upto_region 12 with (fail)
    have hOw := hOr
    have hBr := Below.refl wr.heap.size wr
    replace hBr := hi_ hBr
    refine wp_lin_tail (by kernel_rfl) [none, none, none, none, none, none, none, none, none, none, none, none, none, none, none, none, none, none, none, none, none, none, none, none, none, none, none, none, none, none, none, none, none, none, none, none, none, none, none, none, none, none, none, none, none, none, none, none, none, none, none, none, none, none, none, none, some 0, some 1, some 2, some 3, some 4, some 5, some 6, some 7, none, none] (fun w' => Below wr.heap.size wr w') (fun w' w'' => Below w'.heap.size w' w'') (GW w.heap.size u5 KB #[.int .i64 2, .int .i64 xn, .slice F1 fn1 fc1, .slice F2 fn2 fc2, .slice F3 fn3 fc3] wr.heap.size X) (by rfl) (by kernel_rfl) 8 _ rfl (by decide) (by kernel_rfl) [8, 2, 6, 4, 5, 8, 7, 8, 0] (by kernel_rfl) ?hR ?mono (.cons 7 (step_of [6] rfl (by kernel_rfl) ?s7) (.cons 6 (step_of [2, 5] rfl (by kernel_rfl) ?s6) (.cons 5 (step_of [4] rfl (by kernel_rfl) ?s5) (.cons 4 (step_of [3] rfl (by kernel_rfl) ?s4) (.cons 3 (step_of [] rfl (by kernel_rfl) ?s3) (.cons 2 (step_of [1] rfl (by kernel_rfl) ?s2) (.cons 1 (step_of [] rfl (by kernel_rfl) ?s1) (.cons 0 (step_of [] rfl (by kernel_rfl) ?s0) (.nil))))))))) ?done
    case hR => exact (Below.refl _ _).drew
    case mono => exact GW_mono
    case s0 =>
     intro x w' hRw hd K' hK
     simp only [All, GW] at hd
     simp +decide only [upd, GW, fillL, if_true, if_false] at hK ⊢
     go_simp
     have hK2 := hK _ _ ⟨hRw, Below.refl _ _, rfl⟩
     exact hK2
    case s1 =>
     intro x w' hRw hd K' hK
     simp only [All, GW] at hd
     simp +decide only [upd, GW, fillL, if_true, if_false] at hK ⊢
     go_simp
     have hK2 := hK _ _ ⟨hRw, Below.refl _ _, rfl⟩
     exact hK2
    case s2 =>
     intro x w' hRw hd K' hK
     simp only [All, GW] at hd
     have tx0 := (hRw.cell (cell_lt x0)).trans x0
     simp +decide only [upd, GW, fillL, if_true, if_false] at hK ⊢
     try simp only [hd.1] at hK ⊢
     go_simp
     have hK2 := hK _ _ ⟨hRw, Below.refl _ _, rfl⟩
     exact hK2
    case s3 =>
     intro x w' hRw hd K' hK
     simp only [All, GW] at hd
     simp +decide only [upd, GW, fillL, if_true, if_false] at hK ⊢
     go_simp
     have hK2 := hK _ _ ⟨hRw, Below.refl _ _, rfl⟩
     exact hK2
    case s4 =>
     intro x w' hRw hd K' hK
     simp only [All, GW] at hd
     have tx1 := (hRw.cell (cell_lt x1)).trans x1
     have tx2 := (hRw.cell (cell_lt x2)).trans x2
     have tx3 := (hRw.cell (cell_lt x3)).trans x3
     have tx4 := (hRw.cell (cell_lt x4)).trans x4
     have tx5 := (hRw.cell (cell_lt x5)).trans x5
     simp +decide only [upd, GW, fillL, if_true, if_false] at hK ⊢
     try simp only [hd.1] at hK ⊢
     go_simp
     have hK2 := hK _ _ ⟨hRw, Below.refl _ _, rfl⟩
     exact hK2
    case s5 =>
     intro x w' hRw hd K' hK
     simp only [All, GW] at hd
     simp +decide only [upd, GW, fillL, if_true, if_false] at hK ⊢
     try simp only [hd.1] at hK ⊢
     go_simp
     refine (ck.out w' (bthen (bthen hB.out hBr.out) hRw)).mono ?_
     rintro e' w2 ⟨us, rfl, hI6, hB6⟩
     obtain ⟨xn', G1, G2, G3, gn1, gc1, gn2, gc2, gn3, gc3, hx6'⟩ := ob_five2 hI6.ob
     subst hx6'
     have hK2 := hK _ _ ⟨bthen hRw hB6, hB6, _, _, _, _, _, w'.heap.size, w2.heap.size, rfl, hRw.size, hI6⟩
     exact hK2
    case s6 =>
     intro x w' hRw hd K' hK
     simp only [All, GW] at hd
     simp +decide only [upd, GW, fillL, if_true, if_false] at hK ⊢
     obtain ⟨h2, ⟨a, b, c, e, f, lo, hi', h5, hlo, hI⟩, _⟩ := hd
     simp only [h2, h5] at hK ⊢
     go_simp
     have hK2 := hK _ _ ⟨hRw, Below.refl _ _, a, b, c, e, f, lo, hi', rfl, hlo, hI⟩
     exact hK2
    case s7 =>
     intro x w' hRw hd K' hK
     simp only [All, GW] at hd
     simp +decide only [upd, GW, fillL, if_true, if_false] at hK ⊢
     obtain ⟨⟨a, b, c, e, f, lo, hi', h6, hlo, hI⟩, _⟩ := hd
     simp only [h6] at hK ⊢
     go_simp
     have hbn := (Below.refl w'.heap.size w').alloc (Nat.le_refl _) (.cells #[.string KB, a, b, c, e, f] 53)
     have hK2 := hK _ _ ⟨bthen hRw hbn, hbn, a, b, c, e, f, lo, hi', w'.heap.size, rfl, hlo, obI_below hI hbn, one_row w' [.string KB, a, b, c, e, f] rfl⟩
     exact hK2
    case done =>
     intro x w4 hR2' hG fr hfr
     have a0 := hG 0 (by omega)
     have a7 := hG 7 (by omega)
     simp only [GW] at a0 a7
     clear hG
     obtain ⟨a, b, c, e, f, lo, hi', g7, a7, hlo, hI, hOX4⟩ := a7
     obtain ⟨xn', G1, G2, G3, gn1, gc1, gn2, gc2, gn3, gc3, hx6'⟩ := ob_five2 hI.ob
     rw [hX2.out] at hx6'
     simp only [List.cons.injEq, and_true] at hx6'
     obtain ⟨rfl, rfl, rfl, rfl, rfl⟩ := hx6'
     simp only [fillL] at hfr
     rw [a7] at hOX4
     rw [a0, a7] at hfr
     subst hfr
     clear a0 a7 x0 x1 x2 x3 x4 x5
     have hD4 : Below W1.heap.size W1 w4 := bthen (bthen hB.out hBr.out) hR2'
     have hO4 := own_far hOw.out (fun q _ hq => hR2'.block q hq)
     have hone4 : ∀ u ∈ [Value.string KB, .int .i64 2, .int .i64 xn', .slice G1 gn1 gc1, .slice G2 gn2 gc2, .slice G3 gn3 gc3], u.oneCell' = true := fun u hu => by
      simp only [List.mem_cons, List.not_mem_nil, or_false] at hu
      rcases hu with rfl | rfl | rfl | rfl | rfl | rfl <;> rfl
     have hltw := World.ownsRow.lt hOw.out
     have zR := hR2'.size
     have hI4 := hI
     have z1w : W1.heap.size ≤ wr.heap.size := (bthen hB.out hBr.out).size
     replace hltw := hi_ hltw
     replace hI := hi_ hI
     replace hI4 := hi_ hI4
     replace hD4 := hi_ hD4
     replace hR2' := hi_ hR2'
     replace hO4 := hi_ hO4
     replace hOX4 := hi_ hOX4
     replace hone4 := hi_ hone4
     replace hlo := hi_ hlo
     refine app_row2 rfl _ _ rfl W1.heap.size _ p FI rfl hO4.out g7 _ 1 [.string KB, .int .i64 2, .int .i64 xn', .slice G1 gn1 gc1, .slice G2 gn2 gc2, .slice G3 gn3 gc3] rfl hOX4.out hone4.out (by omega) (by omega) ?_
     intro v5 w5 hO5 hg5 hat5
     have hlt5 := World.ownsRow.lt hO4.out
     replace hO5 := hi_ hO5
     replace hg5 := hi_ hg5
     replace hat5 := hi_ hat5
     replace hlt5 := hi_ hlt5
     go_wp2
     have hB5 : Below W1.heap.size W1 w5 := hD4.out.grown hg5.out (by omega) (fun q hq => (hlt5.out q hq).1)
     have hIt := hI4.out.1
     have hIh := hI.out.1
     have hltu : ∀ q, u5.ownBlock = some q → W1.heap.size ≤ q ∧ q < wr.heap.size := hltw.out
     have hlo' := hlo.out
     have hI5 : ObI lo hi' w5 X [.int .i64 2, .int .i64 xn', .slice G1 gn1 gc1, .slice G2 gn2 gc2, .slice G3 gn3 gc3] := hI4.out.keep (fun q h1 h2 => hg5.out.block q (by omega) (fun e => by have := (hltu q e.symm).2; omega)) (by have := hg5.out.size; omega)
     have hap5 : ∀ q, v5.ownBlock = some q → q < lo ∨ hi' ≤ q := fun q hq => by
      rcases hat5.out with e | e
      ·have := (hltu q (e.symm.trans hq)).2
       left; omega
      ·rw [e] at hq
       injection hq with hq
       right; omega
     have hBf := bthen hb1.out hB5
     replace hI5 := hi_ hI5
     replace hBf := hi_ hBf
     clear hB5 hap5
     go_ret
     refine ⟨v5, _, lo, hi', rfl, by omega, hI5.out, ?_, hBf.out⟩
     rw [Nat.sub_self, ← hFI.out]
     simpa using own_base hO5.out (B' := w.heap.size) (by omega)

/- An entry put into an object, by the document: Set. No condition. -/
def GT (P gl : Nat) (AD : Option Addr) (m cD : Nat) (ag : Array Value) : Nat → Value → World → Prop := fun j v w => match j with
 | 0 => v = .pointer (some ⟨P, 4, none⟩)
 | 1 => v = .slice AD m cD
 | 2 => v = .slice (some ⟨gl, 0, none⟩) 1 1
 | 3 => v = .int .i64 0
 | 4 => v = .pointer (some ⟨gl, 0, none⟩)
 | _ => v = .agg ag
theorem GT_mono {P gl : Nat} {AD : Option Addr} {m cD : Nat} {ag : Array Value} (j : Nat) (v : Value) (w w' : World) (hG : GT P gl AD m cD ag j v w) (hk : Below w.heap.size w w') : GT P gl AD m cD ag j v w' := by
 unfold GT at hG ⊢
 exact hG
set_option maxHeartbeats 8000000 in
set_option maxRecDepth 100000 in
theorem ref_Set (k n : Int) (b : List UInt8) (l : List Ob) (d : List (List UInt8 × Ob)) (vs : List Value) (w : World) (h : ObAt w (.mk k n b l d) vs) (hbk : (Ob.mk k n b l d).bulk ≤ 1048576) (hh : hasI k = true)
 (X : Ob) (xs : List Value) (gl : Nat) (KB : ByteArray) (hX : ObAt w X xs) (hXb : X.bulk ≤ 1048576) (hX2 : X.kind = 2) (hcl : ∀ j u, (Value.string KB :: xs)[j]? = some u → w.cell? ⟨gl, j, none⟩ = some u) (hno : ∀ e ∈ d, (e.1 == KB.data.toList) = false) (hKl : KB.data.toList.length ≤ maxLen) :
 Calls Tryz.prog 48 #[.agg vs.toArray, .slice (some ⟨gl, 0, none⟩) 1 1] w fun e w' => ∃ us, e = .returned (.agg (List.toArray us)) ∧ ObI w.heap.size w'.heap.size w' (.mk k n b l (insE KB.data.toList X d)) us ∧ Below w.heap.size w w' := by
 obtain ⟨en, E1, E2, E3, en1, ec1, en2, ec2, en3, ec3, hys⟩ := ob_five2 h
 have hkd : (Ob.mk k n b l d).kind = k := rfl
 rw [hkd] at hys
 subst hys
 obtain ⟨xn, F1, F2, F3, fn1, fc1, fn2, fc2, fn3, fc3, hxs⟩ := ob_five2 hX
 rw [hX2] at hxs
 subst hxs
 have zk : b.length + bulkL l + bulkD d + 1 ≤ 1048576 := hbk
 have zd := bulkD_len d
 obtain ⟨o, ho⟩ : ∃ o, o = Ob.mk k n b l d := ⟨_, rfl⟩
 obtain ⟨W1, hW1⟩ : ∃ W, W = w.alloc (.cells #[.int .i64 k, .int .i64 en, .slice E1 en1 ec1, .slice E2 en2 ec2, .slice E3 en3 ec3] 26) := ⟨_, rfl⟩
 obtain ⟨W2, hW2⟩ : ∃ W, W = W1.alloc (.cells #[.int .i64 0, .int .i64 0, .slice none 0 0, .slice none 0 0, .slice none 0 0] 26) := ⟨_, rfl⟩
 have hb1 : Below w.heap.size w W1 := by rw [hW1]; exact (Below.refl _ _).alloc (Nat.le_refl _) _
 have z1 : W1.heap.size = w.heap.size + 1 := by rw [hW1, World.size_alloc]
 have hb12 : Below W1.heap.size W1 W2 := by rw [hW2]; exact (Below.refl _ _).alloc (Nat.le_refl _) _
 have hb2 : Below w.heap.size w W2 := bthen hb1 hb12
 have z2 : W2.heap.size = w.heap.size + 2 := by rw [hW2, World.size_alloc, z1]
 have f := five_kept (five_cells hW1) hb12
 have hR2 : Blk W2 (w.heap.size + 1) 26 #[.int .i64 0, .int .i64 0, .slice none 0 0, .slice none 0 0, .slice none 0 0] := by rw [hW2, ← z1]; exact Blk.new W1 26 _
 have c66 := rcopy_all 1048576 (Nat.le_refl _) (Ob.mk k n b l d) _ W2 (h.kept hb2) hbk
 have c65 := fun W => ref_Has k (.int .i64 en) (.slice E1 en1 ec1) (.slice E2 en2 ec2) (.slice E3 en3 ec3) W
 rw [hh] at c65
 rw [← ho] at c66
 have hx6 : w.cell? ⟨gl, 0, none⟩ = some (.string KB) ∧ w.cell? ⟨gl, 1, none⟩ = some (.int .i64 2) ∧ w.cell? ⟨gl, 2, none⟩ = some (.int .i64 xn) ∧ w.cell? ⟨gl, 3, none⟩ = some (.slice F1 fn1 fc1) ∧ w.cell? ⟨gl, 4, none⟩ = some (.slice F2 fn2 fc2) ∧ w.cell? ⟨gl, 5, none⟩ = some (.slice F3 fn3 fc3) := ⟨hcl 0 _ rfl, hcl 1 _ rfl, hcl 2 _ rfl, hcl 3 _ rfl, hcl 4 _ rfl, hcl 5 _ rfl⟩
 have ck := fun W (hW : Below W2.heap.size W2 W) => hX.kept (bthen hb2 hW)
 obtain ⟨f0, f1, f2, f3, f4⟩ := id f
 obtain ⟨k0, k1, k2, k3, k4, k5⟩ := six_kept hx6 hb2
 replace f := hi_ f
 replace hx6 := hi_ hx6
 replace ho := hi_ ho
 replace hb1 := hi_ hb1
 replace hb12 := hi_ hb12
 replace hb2 := hi_ hb2
 replace hR2 := hi_ hR2
 replace ck := hi_ ck
 replace hno := hi_ hno
 replace hKl := hi_ hKl
 replace c65 := hi_ c65
 replace hX2 := hi_ hX2
 replace hXb := hi_ hXb
 clear h hX hcl hbk hh hkd
 go_enter Tryz.func48, Tryz.ntmps48
 go_upto_region 1 with (fail)
 rw [← hW1, ← hW2]
 replace hW1 := hi_ hW1
 replace hW2 := hi_ hW2
 go_upto_region 2 with (first
  | (go_at_call 51; (with_reducible refine c66.mono ?_); rintro e' w3 ⟨us, rfl, hI, hB3⟩; rw [ho.out] at hI; obtain ⟨A', AL', AD, c', cL', cD, gD, oD, vd, hus, q1, q2, q3, q4, q5⟩ := ObI.ents hI; subst hus; obtain ⟨lb, hlb⟩ : ∃ x, x = b.length := ⟨_, rfl⟩; obtain ⟨ll, hll⟩ : ∃ x, x = l.length := ⟨_, rfl⟩; obtain ⟨m, hm⟩ : ∃ m, m = d.length := ⟨_, rfl⟩; rw [← hlb, ← hll, ← hm] at hI; rw [← hlb, ← hll, ← hm]; replace hlb := hi_ hlb; replace hll := hi_ hll; replace hm := hi_ hm; replace hB3 := hi_ hB3; replace hI := hi_ hI; replace q1 := hi_ q1; replace q2 := hi_ q2; replace q3 := hi_ q3; replace q4 := hi_ q4; replace q5 := hi_ q5; clear c66))
 obtain ⟨W4, hW4⟩ : ∃ W, W = w3.alloc (.cells #[.int .i64 k, .int .i64 n, .slice A' lb c', .slice AL' ll cL', .slice AD m cD] 26) := ⟨_, rfl⟩
 rw [← hW4]
 have hb4 : Below w3.heap.size w3 W4 := by rw [hW4]; exact (Below.refl _ _).alloc (Nat.le_refl _) _
 have hD4 : Below W2.heap.size W2 W4 := bthen hB3.out hb4
 have zp := five_cells hW4
 have hP4 : Blk W4 w3.heap.size 26 #[.int .i64 k, .int .i64 n, .slice A' lb c', .slice AL' ll cL', .slice AD m cD] := by rw [hW4]; exact Blk.new w3 26 _
 replace hP4 := hi_ hP4
 have z3 := hB3.out.size
 have z4 : W4.heap.size = w3.heap.size + 1 := by rw [hW4, World.size_alloc]
 obtain ⟨g0, g1, g2, g3, g4⟩ := five_kept f.out hD4
 have d65 := c65.out W4
 replace hb4 := hi_ hb4
 replace hD4 := hi_ hD4
 replace zp := hi_ zp
 replace hW4 := hi_ hW4
 clear f0 f1 f2 f3 f4 k0 k1 k2 k3 k4 k5
 go_upto_region 3 with (first
  | (go_at_call 50; (with_reducible refine d65.mono ?_); rintro e' w5 ⟨rfl, hB5⟩; have hD5 := bthen hD4.out hB5; have zp5 := five_kept zp.out hB5; obtain ⟨k0, k1, k2, k3, k4, k5⟩ := six_kept hx6.out (bthen hb2.out hD5); have z5 := hB5.size; replace hB5 := hi_ hB5; replace hD5 := hi_ hD5; replace zp5 := hi_ zp5; clear d65))
 clear g0 g1 g2 g3 g4
 go_wp2
 refine wp_loop_rounds 2 ?_; rw [rounds_succ]
 go_upto_region 6 with (fail)
 obtain ⟨p0, p1, p2, p3, p4⟩ := id zp5.out
 refine wp_lin_tail (by kernel_rfl) [none, none, none, none, none, none, none, none, none, none, none, none, none, none, none, none, none, some 0, some 1, some 2, some 3, some 4, some 5, none, none, none] (fun w' => Below w5.heap.size w5 w') (fun w' w'' => Below w'.heap.size w' w'') (GT w3.heap.size gl AD m cD #[.string KB, .int .i64 2, .int .i64 xn, .slice F1 fn1 fc1, .slice F2 fn2 fc2, .slice F3 fn3 fc3]) (by rfl) (by kernel_rfl) 6 _ rfl (by decide) (by kernel_rfl) [1, 6, 4, 4, 5, 6, 0] (by kernel_rfl) ?hR ?mono (.cons 5 (step_of [4] rfl (by kernel_rfl) ?s5) (.cons 4 (step_of [2, 3] rfl (by kernel_rfl) ?s4) (.cons 3 (step_of [] rfl (by kernel_rfl) ?s3) (.cons 2 (step_of [] rfl (by kernel_rfl) ?s2) (.cons 1 (step_of [0] rfl (by kernel_rfl) ?s1) (.cons 0 (step_of [] rfl (by kernel_rfl) ?s0) (.nil))))))) ?done
 case hR => exact (Below.refl _ _).drew
 case mono => exact GT_mono
 case s0 =>
  intro x w' hRw hd K' hK
  simp only [All, GT] at hd
  simp +decide only [upd, GT, fillL, if_true, if_false] at hK ⊢
  go_simp
  have hK2 := hK _ _ ⟨hRw, Below.refl _ _, rfl⟩
  exact hK2
 case s1 =>
  intro x w' hRw hd K' hK
  simp only [All, GT] at hd
  have tp4 := (hRw.cell (cell_lt p4)).trans p4
  simp +decide only [upd, GT, fillL, if_true, if_false] at hK ⊢
  try simp only [hd.1] at hK ⊢
  go_simp
  have hK2 := hK _ _ ⟨hRw, Below.refl _ _, rfl⟩
  exact hK2
 case s2 =>
  intro x w' hRw hd K' hK
  simp only [All, GT] at hd
  simp +decide only [upd, GT, fillL, if_true, if_false] at hK ⊢
  go_simp
  have hK2 := hK _ _ ⟨hRw, Below.refl _ _, rfl⟩
  exact hK2
 case s3 =>
  intro x w' hRw hd K' hK
  simp only [All, GT] at hd
  simp +decide only [upd, GT, fillL, if_true, if_false] at hK ⊢
  go_simp
  have hK2 := hK _ _ ⟨hRw, Below.refl _ _, rfl⟩
  exact hK2
 case s4 =>
  intro x w' hRw hd K' hK
  simp only [All, GT] at hd
  simp +decide only [upd, GT, fillL, if_true, if_false] at hK ⊢
  try simp only [hd.1, hd.2.1] at hK ⊢
  go_simp
  have hK2 := hK _ _ ⟨hRw, Below.refl _ _, rfl⟩
  exact hK2
 case s5 =>
  intro x w' hRw hd K' hK
  simp only [All, GT] at hd
  have tk0 := (hRw.cell (cell_lt k0)).trans k0
  have tk1 := (hRw.cell (cell_lt k1)).trans k1
  have tk2 := (hRw.cell (cell_lt k2)).trans k2
  have tk3 := (hRw.cell (cell_lt k3)).trans k3
  have tk4 := (hRw.cell (cell_lt k4)).trans k4
  have tk5 := (hRw.cell (cell_lt k5)).trans k5
  simp +decide only [upd, GT, fillL, if_true, if_false] at hK ⊢
  try simp only [hd.1] at hK ⊢
  go_simp
  have hK2 := hK _ _ ⟨hRw, Below.refl _ _, rfl⟩
  exact hK2
 case done =>
  intro x w7 hR2' hG fr hfr
  have a1 := hG 1 (by omega)
  have a5 := hG 5 (by omega)
  simp only [GT] at a1 a5
  clear hG
  simp only [fillL] at hfr
  rw [a1, a5] at hfr
  subst hfr
  clear a1 a5
  have hD7 : Below W2.heap.size W2 w7 := bthen hD5.out hR2'
  have hD37 : Below w3.heap.size w3 w7 := bthen hb4.out (bthen hB5.out hR2')
  have c57 := ref_with w7 AD gD oD cD d vd KB X _ (by omega) q1.out q2.out (fun i hi => (obI_below (q3.out i hi) hD37).ob) (fun i hi => ⟨(q4.out i hi).1, (hD37.cell (cell_lt (q4.out i hi).2)).trans (q4.out i hi).2⟩)
   (fun i hi j hj => by
    have h9 := q5.out i hi j hj
    obtain ⟨u, hu⟩ : ∃ u, (vd i)[j]? = some u := ⟨_, List.getElem?_eq_getElem (by rw [((q3.out i hi).ob).five]; exact hj)⟩
    rw [hu] at h9 ⊢
    exact (hD37.cell (cell_lt h9)).trans h9) (ck.out w7 hD7) hXb.out hX2.out hno.out
  rw [← hm.out] at c57
  have hPb : Blk w7 w3.heap.size 26 #[.int .i64 k, .int .i64 n, .slice A' lb c', .slice AL' ll cL', .slice AD m cD] := hP4.out.below (bthen hB5.out hR2') (by omega)
  have z37 := hD37.size
  have z67 := hR2'.size
  replace hPb := hi_ hPb
  replace hD7 := hi_ hD7
  replace hD37 := hi_ hD37
  replace hR2' := hi_ hR2'
  clear p0 p1 p2 p3 p4 k0 k1 k2 k3 k4 k5
  go_wp2_with (first
   | (go_at_call 57; (with_reducible refine c57.mono ?_); rintro e' w8 ⟨v8, us6, lo6, hi6, rfl, hlo6, hI6, hO8, hB8⟩; replace hI6 := hi_ hI6; obtain ⟨A8, cc8, hv8⟩ := own_slice hO8; subst hv8; have hPb8 := hPb.out.below hB8 (by omega); have p0 := hPb8.cell 0; have p1 := hPb8.cell 1; have p2 := hPb8.cell 2; have p3 := hPb8.cell 3; have p4 := hPb8.cell 4; have v4 := hPb8.frozen 4; have z8 := hB8.size; replace hPb8 := hi_ hPb8; replace hB8 := hi_ hB8; replace hO8 := hi_ hO8; clear c57))
  obtain ⟨W9, hW9⟩ : ∃ W, W = w8.setCell ⟨w3.heap.size, 4, none⟩ (.slice A8 (m + 1) cc8) := ⟨_, rfl⟩
  rw [← hW9]
  have hPb9 : Blk W9 w3.heap.size 26 #[.int .i64 k, .int .i64 n, .slice A' lb c', .slice AL' ll cL', .slice A8 (m + 1) cc8] := by rw [hW9]; exact hPb8.out.set_ 4 _
  have hRb9 : Blk W9 (w.heap.size + 1) 26 #[.int .i64 0, .int .i64 0, .slice none 0 0, .slice none 0 0, .slice none 0 0] := by rw [hW9]; exact (hR2.out.below (bthen hD7.out hB8.out) (by omega)).far (by show _ ≠ w3.heap.size; omega) _
  clear p0 p1 p2 p3 p4 v4
  have p0 := hPb9.cell 0
  have p1 := hPb9.cell 1
  have p2 := hPb9.cell 2
  have p3 := hPb9.cell 3
  have p4 := hPb9.cell 4
  have r0 := hRb9.cell 0
  have r1 := hRb9.cell 1
  have r2 := hRb9.cell 2
  have r3 := hRb9.cell 3
  have r4 := hRb9.cell 4
  have v0 := hRb9.frozen 0
  have v1 := hRb9.frozen 1
  have v2 := hRb9.frozen 2
  have v3 := hRb9.frozen 3
  have v4 := hRb9.frozen 4
  replace hRb9 := hi_ hRb9
  replace hPb9 := hi_ hPb9
  replace hW9 := hi_ hW9
  rw [rounds_succ]
  go_wp2
  obtain ⟨Wf, hWf⟩ : ∃ W, W = ((((W9.setCell ⟨w.heap.size + 1, 0, none⟩ (.int .i64 k)).setCell ⟨w.heap.size + 1, 1, none⟩ (.int .i64 n)).setCell ⟨w.heap.size + 1, 2, none⟩ (.slice A' lb c')).setCell ⟨w.heap.size + 1, 3, none⟩ (.slice AL' ll cL')).setCell ⟨w.heap.size + 1, 4, none⟩ (.slice A8 (m + 1) cc8) := ⟨_, rfl⟩
  rw [← hWf]
  obtain ⟨hbf, hgf, hzf⟩ := set_five hRb9.out hWf
  have u0 := hbf.cell 0
  have u1 := hbf.cell 1
  have u2 := hbf.cell 2
  have u3 := hbf.cell 3
  have u4 := hbf.cell 4
  have hz9 : W9.heap.size = w8.heap.size := by rw [hW9.out]; simp [World.setCell]
  have keepf : ∀ q, W2.heap.size ≤ q → q < w8.heap.size → q ≠ w3.heap.size → Wf.heap[q]? = w8.heap[q]? := fun q h1 h2 h3 => by
   rw [hgf.block q (by omega) (fun e => by injection e with e; omega), hW9.out]
   exact Below.heap_setCell _ _ _ _ h3
  have hBf : Below w.heap.size w Wf := by
   have hB9 : Below w.heap.size w W9 := by rw [hW9.out]; exact (bthen hb2.out (bthen hD7.out hB8.out)).grown (set_grown _ _ _ _) (by omega) (fun q hq => by injection hq with hq; omega)
   exact hB9.grown hgf (by omega) (fun q hq => by injection hq with hq; omega)
  have hobf : ObI w.heap.size Wf.heap.size Wf (.mk k n b l (insE KB.data.toList X d)) [.int .i64 k, .int .i64 n, .slice A' lb c', .slice AL' ll cL', .slice A8 (m + 1) cc8] := by
   have hD38 := bthen hD37.out hB8.out
   refine ⟨Nat.le_refl _, fun Wg hk hs => ?_⟩
   have kg : ∀ q, W2.heap.size ≤ q → q < w8.heap.size → q ≠ w3.heap.size → Wg.heap[q]? = w8.heap[q]? := fun q h1 h2 h3 => (hk q (by omega) (by omega)).trans (keepf q h1 h2 h3)
   refine ob_put (B := w7.heap.size) (hI.out.keep (fun q h1 h2 => (kg q h1 (by omega) (by omega)).trans (hD38.block q (by omega))) (by omega)).ob (fun i hi => ((q3.out i hi).keep (fun q h1 h2 => (kg q h1 (by omega) (by omega)).trans (hD38.block q (by omega))) (by omega)).ob) (fun i hi => (q4.out i hi).1) hKl.out (hI6.out.keep (fun q h1 h2 => kg q (by omega) (by have := hI6.out.1; omega) (by omega)) (by have := hI6.out.1; omega)).ob ?_
   have h9 := own_far hO8.out (w' := Wg) (fun q h1 h2 => kg q (by omega) h2 (by omega))
   rw [hm.out] at h9 ⊢
   exact h9
  clear hbf hgf keepf
  replace hWf := hi_ hWf
  exact bodyPost_ret (by simp [results, Tryz.results48, go_sem, u0, u1, u2, u3, u4]; try rfl) rfl ⟨[.int .i64 k, .int .i64 n, .slice A' lb c', .slice AL' ll cL', .slice A8 (m + 1) cc8], rfl, hobf, hBf⟩

/- Bytes of arrays, by the document's own answer. No condition. -/
def RShowC (N : Nat) : Prop := ∀ (o : Ob) (vs : List Value) (w : World), ObAt w o vs → o.bulk ≤ N → Calls Tryz.prog 32 #[.agg vs.toArray] w (RB w o.show)
set_option maxHeartbeats 8000000 in
set_option maxRecDepth 100000 in
theorem ref_arr (N : Nat) (hN : N ≤ 1048576) (hs : RShowC N) (n : Int) (b : List UInt8) (l : List Ob) (d : List (List UInt8 × Ob)) (vs : List Value) (w : World) (h : ObAt w (.mk 6 n b l d) vs) (hbk : bulkL l ≤ N) :
 Calls Tryz.prog 32 #[.agg vs.toArray] w (RB w (91 :: (showL true l ++ [93]))) := by
 have zl := bulkL_len l
 cases h with
 | mk k n b l d A AL AD c cL cD gL oL gD oD vl vd h1 h2 h3 h4 h5 h6 h7 h8 h9 h10 h11 hA hl hlv h15 h16 h17 h18 =>
 have hfit : ∀ o ∈ l, Fits o := fun o ho => by obtain ⟨i, hi, rfl⟩ := List.getElem_of_mem ho; exact (hl i hi).fits
 have hsl := showL_len l hfit true
 obtain ⟨m, hm⟩ : ∃ m, m = l.length := ⟨_, rfl⟩
 rw [← hm] at zl ⊢
 have zm : m ≤ 1048576 := by omega
 have hsl2 : (showL true l).length ≤ 41943040 := by omega
 obtain ⟨W1, hW1⟩ : ∃ W, W = w.alloc (.cells #[.int .i64 6, .int .i64 n, .slice A b.length c, .slice AL m cL, .slice AD d.length cD] 26) := ⟨_, rfl⟩
 have hb1 : Below w.heap.size w W1 := by rw [hW1]; exact (Below.refl _ _).alloc (Nat.le_refl _) _
 have f := five_cells hW1
 obtain ⟨f0, f1, f2, f3, f4⟩ := id f
 have e41 : 41943050 ≤ maxLen := by unfold maxLen; omega
 clear h1 h2 h3 h4 h5 h6 h7 h8 h9 h10 h11 h15 h16 h17 h18
 replace hm := hi_ hm
 replace hA := hi_ hA
 replace hl := hi_ hl
 replace hlv := hi_ hlv
 replace hs := hi_ hs
 replace hfit := hi_ hfit
 replace hsl2 := hi_ hsl2
 replace hb1 := hi_ hb1
 replace f := hi_ f
 clear hsl
 go_enter Tryz.func32, Tryz.ntmps32
 go_upto_region 1 with (fail)
 rw [← hW1]
 replace hW1 := hi_ hW1
 go_wp2
 go_loopw [3, 4] (fun s3 s4 wr => ∃ k : Nat, k ≤ m ∧ s4 = .int .i64 k ∧ Own W1.heap.size wr s3 (91 :: showL true (l.take k)) ∧ Below W1.heap.size W1 wr) (fun _ s4 _ => m - (RowKit.intOf s4).toNat)
 case atStart => exact ⟨0, by omega, rfl, own_new1 W1 91, (Below.refl _ _).alloc (Nat.le_refl _) _⟩
 case round =>
  obtain ⟨k, hk, rfl, hO, hB⟩ := hrel
  have lB := hB.size
  obtain ⟨g0, g1, g2, g3, g4⟩ := five_kept f.out hB
  have hlen : (91 :: showL true (l.take k)).length ≤ 41943041 := by
   have h1 := showL_len (l.take k) (fun o ho => hfit.out o (List.mem_of_mem_take ho)) true
   have h2 := bulkL_take l k
   simp only [List.length_cons]; omega
  by_cases hkm : k < m
  ·have hkl : k < l.length := by rw [← hm.out]; exact hkm
   have hAe := hA.out (by omega)
   subst hAe
   obtain ⟨o, ho⟩ : ∃ o, o = l[k] := ⟨_, rfl⟩
   have hob0 := (hl.out k hkl).kept hb1.out
   have hob := hob0.kept hB
   have hcv := hlv.out k hkl
   rw [← ho] at hob hob0
   have hzo : o.bulk ≤ N := by have := bulkL_at l k hkl; rw [← ho] at this; omega
   have hfo := hob.fits
   have hsh := show_len o hfo
   obtain ⟨us, hus⟩ : ∃ us, us = vl k := ⟨_, rfl⟩
   rw [← hus] at hob hob0 hcv
   obtain ⟨en, E1, E2, E3, en1, ec1, en2, ec2, en3, ec3, hys⟩ := ob_five2 hob
   subst hys
   obtain ⟨kk, hkk⟩ : ∃ k, k = o.kind := ⟨_, rfl⟩
   rw [← hkk] at hob hob0 hcv
   have five : ∀ j u, [Value.int .i64 kk, .int .i64 en, .slice E1 en1 ec1, .slice E2 en2 ec2, .slice E3 en3 ec3][j]? = some u → ∀ W, Below W1.heap.size W1 W → W.cell? ⟨gL, oL + k * 5 + j, none⟩ = some u := fun j u hj W hW => by
    have h0 := hcv j (by have := (List.getElem?_eq_some_iff.1 hj).1; simpa using this)
    rw [hj] at h0
    have h1 := (hb1.out.cell (cell_lt h0)).trans h0
    have h2 := (hW.cell (cell_lt h1)).trans h1
    rw [show oL + (5 * k + j) = oL + k * 5 + j by omega] at h2
    exact h2
   have xs : ∀ W, Below W1.heap.size W1 W → W.cell? ⟨gL, oL + k * 5, none⟩ = some (.int .i64 kk) ∧ W.cell? ⟨gL, oL + k * 5 + 1, none⟩ = some (.int .i64 en) ∧ W.cell? ⟨gL, oL + k * 5 + 2, none⟩ = some (.slice E1 en1 ec1) ∧ W.cell? ⟨gL, oL + k * 5 + 3, none⟩ = some (.slice E2 en2 ec2) ∧ W.cell? ⟨gL, oL + k * 5 + 4, none⟩ = some (.slice E3 en3 ec3) := fun W hW =>
    ⟨five 0 _ rfl W hW, five 1 _ rfl W hW, five 2 _ rfl W hW, five 3 _ rfl W hW, five 4 _ rfl W hW⟩
   have hT : 91 :: showL true (l.take (k + 1)) = (91 :: showL true (l.take k)) ++ ((if k = 0 then [] else [32]) ++ o.show) := by
    rw [List.take_succ_eq_append_getElem hkl, showL_snoc, ← ho, List.cons_append]
    by_cases h0 : k = 0
    ·subst h0; simp
    ·have hne : l.take k ≠ [] := fun h => by
      have := congrArg List.length h
      rw [List.length_take, List.length_nil] at this
      omega
     rw [if_neg (fun h => hne h.2), if_neg h0]
   have c32 : ∀ W, Below W1.heap.size W1 W → Calls Tryz.prog 32 #[.agg #[.int .i64 kk, .int .i64 en, .slice E1 en1 ec1, .slice E2 en2 ec2, .slice E3 en3 ec3]] W (RB W o.show) := fun W hW => hs.out o _ W (hob0.kept hW) hzo
   clear five hcv hob hob0 hus hfo
   replace ho := hi_ ho
   replace hkk := hi_ hkk
   replace hT := hi_ hT
   replace hO := hi_ hO
   replace c32 := hi_ c32
   replace hlen := hi_ hlen
   replace hsh := hi_ hsh
   by_cases h0 : k = 0
   ·have hT2 : 91 :: showL true (l.take (k + 1)) = (91 :: showL true (l.take k)) ++ o.show := by rw [hT.out, if_pos h0, List.nil_append]
    obtain ⟨x0, x1, x2, x3, x4⟩ := xs wr hB
    have c := c32.out wr hB
    clear xs
    rw [h0] at x0 x1 x2 x3 x4
    simp only [Nat.zero_mul, Nat.add_zero] at x0 x1 x2 x3 x4
    replace hT2 := hi_ hT2
    replace hB := hi_ hB
    subst h0
    go_wp2_with (first
     | (go_at_call 32; (with_reducible refine c.mono ?_); rintro e w4 ⟨A4, c4, rfl, hb4, hA4, hB4⟩; have hz4 := hB4.size; have hO4 := hO.out.below hB4; replace hO4 := hi_ hO4; replace hB4 := hi_ hB4; replace hb4 := hi_ hb4)
     | (at_builtin; refine app_b rfl _ _ rfl W1.heap.size _ _ rfl hO4.out A4 _ c4 _ rfl rfl hb4.out hA4 (by have q1 := hlen.out; have q2 := hsh.out; omega) (by omega) ?_; intro v' w5 hO5 hB5; replace hO5 := hi_ hO5; replace hB5 := hi_ hB5))
    go_roundw
    case rel => exact ⟨0 + 1, by omega, by go_num, by rw [hT2.out]; exact hO5.out, (hB.out.trans (hB4.out.mono lB)).trans hB5.out⟩
    case measure => simp [RowKit.intOf]; omega
   ·have hT2 : 91 :: showL true (l.take (k + 1)) = ((91 :: showL true (l.take k)) ++ [32]) ++ o.show := by rw [hT.out, if_neg h0, List.append_assoc]
    have hkp : decide ((0 : Int) < (k : Int)) = true := by simp; omega
    have hO32 := hO.out.below ((Below.refl _ _).alloc (Nat.le_refl _) (.cells #[.int .u8 ((32 : UInt8).toNat : Int)] 5))
    have hWa : Below W1.heap.size W1 (wr.alloc (.cells #[.int .u8 ((32 : UInt8).toNat : Int)] 5)) := hB.trans (((Below.refl _ _).alloc (Nat.le_refl _) _).mono lB)
    replace hWa := hi_ hWa
    replace hT2 := hi_ hT2
    replace hO32 := hi_ hO32
    replace hB := hi_ hB
    replace xs := hi_ xs
    go_wp2_with (first
     | (at_builtin; refine app_b rfl _ _ rfl W1.heap.size _ _ rfl hO32.out (some ⟨wr.heap.size, 0, none⟩) 1 1 [32] rfl rfl (byt_new1 wr 32 5) (fun e => (by cases e)) (by have q1 := hlen.out; simp only [List.length_cons, List.length_nil] at q1 ⊢; omega) (by rw [World.size_alloc]; omega) ?_; intro v' w5 hO5 hB5; have hw5 : Below W1.heap.size W1 w5 := hWa.out.trans hB5; have c := c32.out w5 hw5; obtain ⟨e0, e1, e2, e3, e4⟩ := five_kept f.out hw5; obtain ⟨x0, x1, x2, x3, x4⟩ := xs.out w5 hw5; have hz5 := hw5.size; replace hO5 := hi_ hO5; replace hB5 := hi_ hB5; replace hw5 := hi_ hw5)
     | (go_at_call 32; (with_reducible refine c.mono ?_); rintro e w4 ⟨A4, c4, rfl, hb4, hA4, hB4⟩; have hw4 := bthen hw5.out hB4; have hz4 := hw4.size; have hO4 := hO5.out.below hB4; replace hw4 := hi_ hw4; replace hb4 := hi_ hb4; replace hO4 := hi_ hO4; clear hB4)
     | (at_builtin; refine app_b rfl _ _ rfl W1.heap.size _ _ rfl hO4.out A4 _ c4 _ rfl rfl hb4.out hA4 (by have q1 := hlen.out; have q2 := hsh.out; rw [List.length_append]; simp only [List.length_cons, List.length_nil] at q1 ⊢; omega) (by omega) ?_; intro v'' w6 hO6 hB6; replace hO6 := hi_ hO6; replace hB6 := hi_ hB6))
    go_roundw
    case rel => exact ⟨k + 1, by omega, by go_num, by rw [hT2.out]; exact hO6.out, hw4.out.trans hB6.out⟩
    case measure => simp [RowKit.intOf]; omega
  ·obtain rfl : k = m := by omega
   have hT : l.take k = l := by rw [hm.out, List.take_length]
   rw [hT] at hO
   have hO2 := hi_ hO
   have hB2 := hi_ hB
   replace hT := hi_ hT
   clear hO hB hlen
   go_wp2_with (at_builtin; refine app_b rfl _ _ rfl W1.heap.size _ _ rfl (hO2.out.below ((Below.refl _ _).alloc (Nat.le_refl _) _)) (some ⟨wr.heap.size, 0, none⟩) 1 1 [93] rfl rfl (byt_new1 wr 93 5) (fun e => (by cases e)) (by have q := hsl2.out; simp only [List.length_cons, List.length_nil]; omega) (by rw [World.size_alloc]; omega) ?_; intro v' w2 hO3 hB3; replace hO3 := hi_ hO3; replace hB3 := hi_ hB3)
   go_ret
   obtain ⟨A', c', rfl, p1, p2⟩ := hO3.out.out (by have q := hsl2.out; simp only [List.length_cons, List.length_append, List.length_nil]; omega)
   exact ⟨A', c', by simp, by simpa using p1, p2, bthen hb1.out ((hB2.out.alloc lB _).trans hB3.out)⟩

/- Bytes appended to a constant's bytes. No condition. -/
def OwnX (B : Nat) (w : World) (v : Value) (bs : List UInt8) : Prop := Own B w v bs ∨ ∃ g, v = .slice (some ⟨g, 0, none⟩) bs.length bs.length ∧ g < w.heap.size ∧ Byt w (some ⟨g, 0, none⟩) bs
theorem OwnX.below {B : Nat} {w w' : World} {v : Value} {bs : List UInt8} (h : OwnX B w v bs) (hb : Below w.heap.size w w') : OwnX B w' v bs := by
 rcases h with h | ⟨g, h1, h2, h3⟩
 ·exact .inl (h.below hb)
 ·exact .inr ⟨g, h1, Nat.lt_of_lt_of_le h2 hb.size, h3.below hb⟩
theorem app_x {w : World} {ops : Array Oper} {rest : List Oper} {o : Oper} {a : Act} {Q : Exit → Act → World → Prop} (hgd : o.guard = none) (s x : Operand)
 (ho : o.op = .call { callee := .builtin .append, args := #[s, x], argTypes := #[22, 22] }) (B : Nat) (v : Value) (out : List UInt8) (hs : a.eval s = v) (hown : OwnX B w v out)
 (A : Option Addr) (n c : Nat) (bs : List UInt8) (hx : a.eval x = .slice A n c) (hn : n = bs.length) (hp : 0 < bs.length) (hb : Byt w A bs) (hA : A = none → c = 0) (hl : out.length + bs.length ≤ 70368744177664) (hB : B ≤ w.heap.size)
 (h : ∀ v' w', Own B w' v' (out ++ bs) → Below B w w' → wpList Tryz.prog ops Q rest (a.put o.dst v') w') : wpList Tryz.prog ops Q (o :: rest) a w := by
 rcases hown with hown | ⟨g, hv, hg, hby⟩
 ·exact app_b hgd s x ho B v out hs hown A n c bs hx hn hb hA hl hB h
 obtain ⟨i0, hi, hz0, hz1, hz2⟩ := byte_info
 subst hv
 obtain ⟨b, off, rfl, _⟩ := hb.2 hp
 refine wpList_plain hgd fun K hK => ?_
 have hr := run_append_grow (P := Tryz.prog) w 22 o.type 5 i0 (.int .u8 0) Tryz.underlying22 hi hz0 ⟨g, 0, none⟩ out.length out.length (valsB out) (by rw [hz1, valsB_len, Nat.mul_one]) hby.news ⟨b, off, none⟩ n c (valsB bs) (by rw [valsB_len, hz1, hn, Nat.mul_one]) hb.news (by omega) (by omega) (growslice_fits (by omega) (by rw [hz2]; omega))
 unfold Oper.wp execOp
 simp only [ho, resolve, invoke, builtin, Sem.run_bind, Sem.run_pure, Result.andThen_ok, List.map_toArray, List.map_cons, List.map_nil, hs, hx, hr]
 have hge := grownCap_ge w (out.length + n) out.length 5
 refine hK _ _ (h _ _ ⟨?_, .inr ⟨w.heap.size, grownCap w (out.length + n) out.length 5, ((valsB out).toArray ++ (valsB bs).toArray ++ Builtin.zeroCells (Value.int IntKind.u8 0).cells (grownCap w (out.length + n) out.length 5 - (out.length + n))), ?_, hB, heap_alloc_new w.drew _, ?_, grownCap_le_maxLen w _ _ _ (by unfold maxLen; omega), ?_, ?_⟩⟩ ((Below.refl _ _ |>.mono hB).drew.alloc hB _))
 ·rw [valsB_len, Nat.mul_one]
 ·rw [List.length_append, ← hn]
 ·rw [List.length_append, ← hn]; exact hge
 ·have hz : (Value.int IntKind.u8 0).cells.size = 1 := rfl
  simp only [Array.size_append, List.size_toArray, size_zeroCells, hz, valsB_len]
  omega
 ·simp only [Array.toList_append, List.append_assoc]
  rw [← List.append_assoc, valsB_app, List.take_left' (by simp [valsB_len])]
theorem app_xs {w : World} {ops : Array Oper} {rest : List Oper} {o : Oper} {a : Act} {Q : Exit → Act → World → Prop} (hgd : o.guard = none) (s x : Operand)
 (ho : o.op = .call { callee := .builtin .append, args := #[s, x], argTypes := #[22, 9] }) (B : Nat) (v : Value) (out : List UInt8) (hs : a.eval s = v) (hown : OwnX B w v out)
 (S : ByteArray) (bs : List UInt8) (hx : a.eval x = .string S) (hS : S.data.toList = bs) (hp : 0 < bs.length) (hl : out.length + bs.length ≤ 70368744177664) (hB : B ≤ w.heap.size)
 (h : ∀ v' w', Own B w' v' (out ++ bs) → Below B w w' → wpList Tryz.prog ops Q rest (a.put o.dst v') w') : wpList Tryz.prog ops Q (o :: rest) a w := by
 rcases hown with hown | ⟨g, hv, hg, hby⟩
 ·exact app_s hgd s x ho B v out hs hown S bs hx hS hl hB h
 obtain ⟨i0, hi, hz0, hz1, hz2⟩ := byte_info
 subst hv hS
 have hlen : S.data.toList.length = S.size := Array.length_toList
 refine wpList_plain hgd fun K hK => ?_
 have hr := Lib.run_append_grow_string (P := Tryz.prog) w 22 9 o.type 5 i0 (.int .u8 0) Tryz.underlying22 Tryz.underlying9 hi hz0 ⟨g, 0, none⟩ out.length out.length (valsB out) (by rw [hz1, valsB_len, Nat.mul_one]) hby.news S (by omega) (by omega) (growslice_fits (by omega) (by rw [hz2]; omega))
 unfold Oper.wp execOp
 simp only [ho, resolve, invoke, builtin, Sem.run_bind, Sem.run_pure, Result.andThen_ok, List.map_toArray, List.map_cons, List.map_nil, hs, hx, hr]
 have hge := grownCap_ge w (out.length + S.size) out.length 5
 have e : Lib.strCells S = valsB S.data.toList := rfl
 rw [e]
 refine hK _ _ (h _ _ ⟨?_, .inr ⟨w.heap.size, grownCap w (out.length + S.size) out.length 5, ((valsB out).toArray ++ (valsB S.data.toList).toArray ++ Builtin.zeroCells (Value.int IntKind.u8 0).cells (grownCap w (out.length + S.size) out.length 5 - (out.length + S.size))), ?_, hB, heap_alloc_new w.drew _, ?_, grownCap_le_maxLen w _ _ _ (by unfold maxLen; omega), ?_, ?_⟩⟩ ((Below.refl _ _ |>.mono hB).drew.alloc hB _))
 ·rw [valsB_len, Nat.mul_one]
 ·rw [List.length_append, hlen]
 ·rw [List.length_append, hlen]; exact hge
 ·have hz : (Value.int IntKind.u8 0).cells.size = 1 := rfl
  simp only [Array.size_append, List.size_toArray, size_zeroCells, hz, valsB_len]
  omega
 ·simp only [Array.toList_append, List.append_assoc]
  rw [← List.append_assoc, valsB_app, List.take_left' (by simp [valsB_len])]
theorem conv_const (w : World) (C : Array Value) (n c : Nat) : (convert 22 22 (.slice (some ⟨w.heap.size, 0, none⟩) n c)).run Tryz.prog (w.alloc (.cells C 5)) = .ok (.slice (some ⟨w.heap.size, 0, none⟩) n c) (w.alloc (.cells C 5 (C.size, C.size + 1))) :=
 Lib.run_convert_bytes_const w 22 5 C n c Tryz.underlying22 Tryz.underlying5
theorem byt_mark (w : World) (l : List UInt8) (C : Array Value) (m : Nat × Nat) (hC : C = (valsB l).toArray) (hl : l.length ≤ maxLen) : Byt (w.alloc (.cells C 5 m)) (some ⟨w.heap.size, 0, none⟩) l := by
 subst hC
 refine ⟨hl, fun _ => ⟨_, 0, rfl, fun i hi => ?_⟩⟩
 have : (w.alloc (.cells (valsB l).toArray 5 m)).cell? ⟨w.heap.size, 0 + i, none⟩ = (valsB l)[i]? := by
  rw [Nat.zero_add, Lib.cell_of_heap (heap_alloc_new w (.cells (valsB l).toArray 5 m))]; simp
 rw [this]
 simp [valsB, hi]
theorem below_mark (w : World) (C : Array Value) (m : Nat × Nat) : Below w.heap.size w (w.alloc (.cells C 5 m)) := (Below.refl _ _).alloc (Nat.le_refl _) _

/- Bytes of entries, by the document's own answer. No condition. -/
theorem OwnX.rb {B : Nat} {w : World} {v : Value} {bs : List UInt8} (h : Own B w v bs) : OwnX B w v bs := .inl h
set_option maxHeartbeats 8000000 in
set_option maxRecDepth 100000 in
theorem ref_dict (N : Nat) (hN : N ≤ 1048576) (hs : RShowC N) (k : Int) (hk78 : k = 7 ∨ k = 8) (n : Int) (b : List UInt8) (l : List Ob) (d : List (List UInt8 × Ob)) (vs : List Value) (w : World) (h : ObAt w (.mk k n b l d) vs) (hbk : bulkD d ≤ N) :
 Calls Tryz.prog 32 #[.agg vs.toArray] w (RB w (60 :: 60 :: (showD d ++ [62, 62]))) := by
 have zl := bulkD_len d
 cases h with
 | mk k n b l d A AL AD c cL cD gL oL gD oD vl vd h1 h2 h3 h4 h5 h6 h7 h8 h9 h10 h11 h12 h13 h14 hA hl hkey hlv =>
 have hfit : ∀ e ∈ d, Fits e.2 := fun e he => by obtain ⟨i, hi, rfl⟩ := List.getElem_of_mem he; exact (hl i hi).fits
 have hsl := showD_len d hfit
 obtain ⟨m, hm⟩ : ∃ m, m = d.length := ⟨_, rfl⟩
 rw [← hm] at zl ⊢
 have zm : m ≤ 1048576 := by omega
 have hsl2 : (showD d).length ≤ 41943040 := by omega
 obtain ⟨W1, hW1⟩ : ∃ W, W = w.alloc (.cells #[.int .i64 k, .int .i64 n, .slice A b.length c, .slice AL l.length cL, .slice AD m cD] 26) := ⟨_, rfl⟩
 have hb1 : Below w.heap.size w W1 := by rw [hW1]; exact (Below.refl _ _).alloc (Nat.le_refl _) _
 have f := five_cells hW1
 obtain ⟨f0, f1, f2, f3, f4⟩ := id f
 have e41 : 41943050 ≤ maxLen := by unfold maxLen; omega
 obtain ⟨W2, hW2⟩ : ∃ W, W = W1.alloc (.cells #[.int .u8 60, .int .u8 60] 5 (2, 3)) := ⟨_, rfl⟩
 have cc : (convert 22 22 (.slice (some ⟨W1.heap.size, 0, none⟩) 2 2)).run Tryz.prog (W1.alloc (.cells #[.int .u8 60, .int .u8 60] 5)) = .ok (.slice (some ⟨W1.heap.size, 0, none⟩) 2 2) W2 := by
  rw [hW2]; exact conv_const W1 #[.int .u8 60, .int .u8 60] 2 2
 have hb2 : Below W1.heap.size W1 W2 := by rw [hW2]; exact below_mark _ _ _
 have hX0 : OwnX W2.heap.size W2 (.slice (some ⟨W1.heap.size, 0, none⟩) 2 2) [60, 60] := .inr ⟨_, rfl, by rw [hW2, World.size_alloc]; omega, by rw [hW2]; exact byt_mark W1 [60, 60] _ _ rfl (by decide)⟩
 have q0 := five_kept f hb2
 obtain ⟨r0, r1, r2, r3, r4⟩ := id q0
 clear h1 h2 h3 h4 h5 h6 h7 h8 h9 h10 h11 h12 h13 h14
 replace hm := hi_ hm
 replace hA := hi_ hA
 replace hl := hi_ hl
 replace hkey := hi_ hkey
 replace hlv := hi_ hlv
 replace hs := hi_ hs
 replace hfit := hi_ hfit
 replace hsl2 := hi_ hsl2
 replace hb1 := hi_ hb1
 replace hb2 := hi_ hb2
 replace hW2 := hi_ hW2
 replace hX0 := hi_ hX0
 replace f := hi_ f
 replace q0 := hi_ q0
 clear hsl
 go_enter Tryz.func32, Tryz.ntmps32
 go_upto_region 1 with (fail)
 rw [← hW1]
 replace hW1 := hi_ hW1
 rcases hk78 with rfl | rfl
 all_goals
  go_wp2
  go_loopw [5, 6] (fun s5 s6 wr => ∃ k : Nat, k ≤ m ∧ s6 = .int .i64 k ∧ OwnX W2.heap.size wr s5 (60 :: 60 :: showD (d.take k)) ∧ Below W2.heap.size W2 wr) (fun _ s6 _ => m - (RowKit.intOf s6).toNat)
  case atStart => exact ⟨0, by omega, rfl, hX0.out, Below.refl _ _⟩
  case round =>
   obtain ⟨k, hk0, rfl, hX, hB⟩ := hrel
   have lB := hB.size
   obtain ⟨g0, g1, g2, g3, g4⟩ := five_kept q0.out hB
   have hlen : (60 :: 60 :: showD (d.take k)).length ≤ 41943042 := by
    have h1 := showD_len (d.take k) (fun x hx => hfit.out x (List.mem_of_mem_take hx))
    have h2 := bulkD_take d k
    simp only [List.length_cons]; omega
   by_cases hkm : k < m
   ·have hkl : k < d.length := by rw [← hm.out]; exact hkm
    have hAe := hA.out (by omega)
    subst hAe
    obtain ⟨e, he⟩ : ∃ e, e = d[k] := ⟨_, rfl⟩
    have hb12 := bthen hb1.out hb2.out
    have hob0 := (hl.out k hkl).kept hb12
    have hkk0 := (hkey.out k hkl).2
    have hcv := hlv.out k hkl
    rw [← he] at hob0 hkk0
    have hz0 := bulkD_at d k hkl
    rw [← he] at hz0
    have hsh := show_len e.2 hob0.fits
    obtain ⟨us, hus⟩ : ∃ us, us = vd k := ⟨_, rfl⟩
    rw [← hus] at hob0 hcv
    obtain ⟨en, E1, E2, E3, en1, ec1, en2, ec2, en3, ec3, hys⟩ := ob_five2 hob0
    subst hys
    obtain ⟨kk, hkk⟩ : ∃ k, k = e.2.kind := ⟨_, rfl⟩
    rw [← hkk] at hob0 hcv
    obtain ⟨K, hK⟩ : ∃ K, K = bytes e.1 := ⟨_, rfl⟩
    have zK : K.size ≤ 1048576 := by rw [hK, bytes_size]; omega
    have zN := nameT_len e.1
    have kp : ∀ W, Below W2.heap.size W2 W → W.cell? ⟨gD, oD + k * 6, none⟩ = some (.string K) := fun W hW => by
     have h1 := (hb12.cell (cell_lt hkk0)).trans hkk0
     have h2 := (hW.cell (cell_lt h1)).trans h1
     rw [Nat.mul_comm] at h2
     rw [h2, hK]; rfl
    have five : ∀ j u, [Value.int .i64 kk, .int .i64 en, .slice E1 en1 ec1, .slice E2 en2 ec2, .slice E3 en3 ec3][j]? = some u → ∀ W, Below W2.heap.size W2 W → W.cell? ⟨gD, oD + k * 6 + 1 + j, none⟩ = some u := fun j u hj W hW => by
     have h0 := hcv j (by have := (List.getElem?_eq_some_iff.1 hj).1; simpa using this)
     rw [hj] at h0
     have h1 := (hb12.cell (cell_lt h0)).trans h0
     have h2 := (hW.cell (cell_lt h1)).trans h1
     rw [show oD + (6 * k + 1 + j) = oD + k * 6 + 1 + j by omega] at h2
     exact h2
    have xs : ∀ W, Below W2.heap.size W2 W → W.cell? ⟨gD, oD + k * 6 + 1, none⟩ = some (.int .i64 kk) ∧ W.cell? ⟨gD, oD + k * 6 + 2, none⟩ = some (.int .i64 en) ∧ W.cell? ⟨gD, oD + k * 6 + 3, none⟩ = some (.slice E1 en1 ec1) ∧ W.cell? ⟨gD, oD + k * 6 + 4, none⟩ = some (.slice E2 en2 ec2) ∧ W.cell? ⟨gD, oD + k * 6 + 5, none⟩ = some (.slice E3 en3 ec3) := fun W hW =>
     ⟨five 0 _ rfl W hW, five 1 _ rfl W hW, five 2 _ rfl W hW, five 3 _ rfl W hW, five 4 _ rfl W hW⟩
    have hT : 60 :: 60 :: showD (d.take (k + 1)) = (((60 :: 60 :: showD (d.take k)) ++ nameT e.1) ++ [32]) ++ e.2.show := by
     rw [List.take_succ_eq_append_getElem hkl, showD_snoc, ← he]; simp
    have c13 : Calls Tryz.prog 13 #[.string K] wr (RB wr (nameT e.1)) := by
     have h0 := ref_PrintName K wr (by omega)
     rw [hK, bytes_list] at h0
     rw [hK]
     exact h0.mono fun e' w' hr => hr.rb (by unfold maxLen; omega)
    have c32 : ∀ W, Below W2.heap.size W2 W → Calls Tryz.prog 32 #[.agg #[.int .i64 kk, .int .i64 en, .slice E1 en1 ec1, .slice E2 en2 ec2, .slice E3 en3 ec3]] W (RB W e.2.show) := fun W hW => hs.out e.2 _ W (hob0.kept hW) (by omega)
    have y0 := kp wr hB
    have hzS : (60 :: 60 :: showD (d.take k)).length + (nameT e.1).length + 1 + e.2.show.length ≤ 1000000000 := by omega
    have hNp : 0 < (nameT e.1).length := by simp [nameT]
    obtain ⟨S, hS⟩ : ∃ S, S = 60 :: 60 :: showD (d.take k) := ⟨_, rfl⟩
    obtain ⟨NT, hNT⟩ : ∃ S, S = nameT e.1 := ⟨_, rfl⟩
    obtain ⟨SH, hSH⟩ : ∃ S, S = e.2.show := ⟨_, rfl⟩
    rw [← hS, ← hNT, ← hSH] at hzS hT
    rw [← hNT] at c13 hNp
    rw [← hSH] at c32
    rw [← hS] at hX
    clear five hcv hob0 hus kp hlen hkk0 hb12
    replace hS := hi_ hS
    replace hNT := hi_ hNT
    replace hSH := hi_ hSH
    replace hNp := hi_ hNp
    replace hzS := hi_ hzS
    replace he := hi_ he
    replace hkk := hi_ hkk
    replace hK := hi_ hK
    replace hT := hi_ hT
    replace hX := hi_ hX
    replace hB := hi_ hB
    replace c32 := hi_ c32
    replace hsh := hi_ hsh
    replace xs := hi_ xs
    go_wp2_with (first
     | (go_at_call 13; (with_reducible refine c13.mono ?_); rintro e' w2 ⟨A2, c2, rfl, hb2', hA2, hB2⟩; have hz2 := hB2.size; have hX2 := hX.out.below hB2; replace hX2 := hi_ hX2; replace hB2 := hi_ hB2; replace hb2' := hi_ hb2'; replace hA2 := hi_ hA2)
     | (at_builtin; refine app_x rfl _ _ rfl W2.heap.size _ _ rfl hX2.out A2 _ c2 _ rfl rfl hNp.out hb2'.out hA2.out (by have := hzS.out; omega) (by omega) ?_; intro v3 w3 hO3 hB3; have hz3 := hB3.size; have hB3' : Below W2.heap.size W2 w3 := (hB.out.trans (hB2.out.mono lB)).trans hB3; have hO3' := hO3.below ((Below.refl _ _).alloc (Nat.le_refl _) (.cells #[.int .u8 ((32 : UInt8).toNat : Int)] 5)); replace hO3' := hi_ hO3'; replace hB3' := hi_ hB3'; clear hO3 hX2)
     | (at_builtin; refine app_b rfl _ _ rfl W2.heap.size _ _ rfl hO3'.out (some ⟨w3.heap.size, 0, none⟩) 1 1 [32] rfl rfl (byt_new1 w3 32 5) (fun e => (by cases e)) (by have := hzS.out; simp only [List.length_append, List.length_cons, List.length_nil]; omega) (by rw [World.size_alloc]; omega) ?_; intro v4 w4 hO4 hB4; have hB4' : Below W2.heap.size W2 w4 := (hB3'.out.trans (((Below.refl _ _).alloc (Nat.le_refl _) _).mono hB3'.out.size)).trans hB4; have c := c32.out w4 hB4'; obtain ⟨e0, e1, e2, e3, e4⟩ := five_kept q0.out hB4'; obtain ⟨x1, x2, x3, x4, x5⟩ := xs.out w4 hB4'; have hz4 := hB4'.size; replace hO4 := hi_ hO4; replace hB4' := hi_ hB4'; clear hO3')
     | (go_at_call 32; (with_reducible refine c.mono ?_); rintro e' w5 ⟨A5, c5, rfl, hb5, hA5, hB5⟩; have hz5 := hB5.size; have hO5 := hO4.out.below hB5; have hB5' := bthen hB4'.out hB5; replace hB5' := hi_ hB5'; replace hb5 := hi_ hb5; replace hO5 := hi_ hO5; clear hB5)
     | (at_builtin; refine app_b rfl _ _ rfl W2.heap.size _ _ rfl hO5.out A5 _ c5 _ rfl rfl hb5.out hA5 (by have := hzS.out; simp only [List.length_append, List.length_cons, List.length_nil]; omega) (by omega) ?_; intro v6 w6 hO6 hB6; replace hO6 := hi_ hO6; replace hB6 := hi_ hB6))
    go_roundw
    case rel => exact ⟨k + 1, by omega, by go_num, by rw [hT.out]; exact .inl hO6.out, hB5'.out.trans hB6.out⟩
    case measure => simp [RowKit.intOf]; omega
   ·obtain rfl : k = m := by omega
    have hT : d.take k = d := by rw [hm.out, List.take_length]
    rw [hT] at hX
    have hX2 := hi_ hX
    have hB2 := hi_ hB
    replace hT := hi_ hT
    clear hX hB hlen
    go_wp2_with (at_builtin; refine app_xs rfl _ _ rfl W2.heap.size _ _ rfl hX2.out ⟨#[62, 62]⟩ [62, 62] rfl rfl (by decide) (by have q := hsl2.out; simp only [List.length_cons, List.length_nil]; omega) (by omega) ?_; intro v' w2 hO3 hB3; replace hO3 := hi_ hO3; replace hB3 := hi_ hB3)
    go_ret
    obtain ⟨A', c', rfl, p1, p2⟩ := hO3.out.out (by have q := hsl2.out; simp only [List.length_cons, List.length_append, List.length_nil]; omega)
    exact ⟨A', c', by simp, by simpa using p1, p2, bthen hb1.out (bthen hb2.out (hB2.out.trans hB3.out))⟩

/- Bytes of an object, by the document's own answer. No condition. -/
set_option maxHeartbeats 8000000 in
set_option maxRecDepth 100000 in
theorem ref_show (N : Nat) (hN : N + 1 ≤ 1048576) (hs : RShowC N) : RShowC (N + 1) := by
 intro o vs w hob hbk
 have hsh := show_len o hob.fits
 have cA : ∀ n b l d, o = .mk 6 n b l d → Calls Tryz.prog 32 #[.agg vs.toArray] w (RB w o.show) := fun n b l d e => by
  subst e
  have h := ref_arr N (by omega) hs n b l d vs w hob (by simp only [Ob.bulk] at hbk; omega)
  simpa [Ob.show] using h
 have cD : ∀ k n b l d, o = .mk k n b l d → (k = 7 ∨ k = 8) → Calls Tryz.prog 32 #[.agg vs.toArray] w (RB w o.show) := fun k n b l d e hk => by
  subst e
  have h := ref_dict N (by omega) hs k hk n b l d vs w hob (by simp only [Ob.bulk] at hbk; omega)
  rcases hk with rfl | rfl <;> simpa [Ob.show] using h
 cases hob with
 | mk k n b l d A AL AD c cL cD' gL oL gD oD vl vd h1 h2 h3 h4 h5 h6 h7 h8 h9 h10 h11 h12 h13 h14 h15 h16 h17 h18 =>
 by_cases k6 : k = 6
 ·subst k6; exact cA n b l d rfl
 by_cases k78 : k = 7 ∨ k = 8
 ·exact cD k n b l d rfl k78
 have k7 : k ≠ 7 := fun e => k78 (.inl e)
 have k8 : k ≠ 8 := fun e => k78 (.inr e)
 clear cA cD k78
 obtain ⟨W1, hW1⟩ : ∃ W, W = w.alloc (.cells #[.int .i64 k, .int .i64 n, .slice A b.length c, .slice AL l.length cL, .slice AD d.length cD'] 26) := ⟨_, rfl⟩
 have hb1 : Below w.heap.size w W1 := by rw [hW1]; exact (Below.refl _ _).alloc (Nat.le_refl _) _
 have hup : ∀ bs e w', RB W1 bs e w' → RB w bs e w' := fun bs e w' h => h.up hb1
 have hlen : ∀ S : List UInt8, S = (Ob.mk k n b l d).show → S.length ≤ 41943040 := fun S hS => by subst hS; omega
 have hlen2 : b.length + bulkL l + bulkD d ≤ N := by simp only [Ob.bulk] at hbk; omega
 have hb5 := h5.below hb1
 have cT := ref_PrintText A c b W1 hb5 h7 (by omega)
 have cN := ref_PrintName (bytes b) W1 (by rw [bytes_size]; omega)
 rw [bytes_list] at cN
 have cv := conv_any W1 A c b hb5
 have cI := ref_Text n ⟨h3, h4⟩ true W1
 have cF := ref_Text n ⟨h3, h4⟩ false W1
 have e41 : 41943040 ≤ maxLen := by unfold maxLen; omega
 have f := five_cells hW1
 obtain ⟨x0, x1, x2, x3, x4⟩ := id f
 have cc : ∀ (l : List UInt8), l.length ≤ maxLen → RB W1 l (.returned (.slice (some ⟨W1.heap.size, 0, none⟩) l.length l.length)) (W1.alloc (.cells (valsB l).toArray 5 (l.length, l.length + 1))) := fun l hl => ⟨_, _, rfl, byt_mark W1 l _ _ rfl hl, fun e => (by cases e), below_mark _ _ _⟩
 replace hup := hi_ hup
 replace hlen := hi_ hlen
 replace hb1 := hi_ hb1
 replace cc := hi_ cc
 clear hsh h1 h2 h3 h4 h5 h6 h7 h8 h9 h10 h11 h12 h13 h14 h15 h16 h17 h18 hb5 hbk hlen2 hs f
 go_enter Tryz.func32, Tryz.ntmps32
 go_upto_region 1 with (fail)
 rw [← hW1]
 replace hW1 := hi_ hW1
 by_cases k1 : k = 1
 ·subst k1
  clear cT cN cv cI cF
  by_cases n1 : n = 1
  ·subst n1
   have hS : (Ob.mk 1 1 b l d).show = [116, 114, 117, 101] := by simp [Ob.show]
   replace hS := hi_ hS
   have cr := conv_const W1 #[.int .u8 116, .int .u8 114, .int .u8 117, .int .u8 101] 4 4
   go_wp2
   go_ret
   exact hup.out _ _ _ (by rw [hS.out]; exact cc.out [116, 114, 117, 101] (by decide))
  ·have hS : (Ob.mk 1 n b l d).show = [102, 97, 108, 115, 101] := by simp [Ob.show, n1]
   replace hS := hi_ hS
   have en : (n == 1) = false := by simpa using n1
   clear n1
   have cr := conv_const W1 #[.int .u8 102, .int .u8 97, .int .u8 108, .int .u8 115, .int .u8 101] 5 5
   go_wp2
   go_ret
   exact hup.out _ _ _ (by rw [hS.out]; exact cc.out [102, 97, 108, 115, 101] (by decide))
 by_cases k2 : k = 2
 ·subst k2
  have hS : (Ob.mk 2 n b l d).show = textL n true := (by simp [Ob.show] : _ = numT n true).trans rfl
  have hz := hlen.out _ hS.symm
  obtain ⟨T, hT⟩ : ∃ T : ByteArray, T = ⟨(textL n true).toArray⟩ := ⟨_, rfl⟩
  have c4 : Calls Tryz.prog 47 #[.int .i64 n, .bool true] W1 fun e w' => e = .returned (.string T) ∧ Below W1.heap.size W1 w' := by rw [hT]; exact cI
  have tS : T.data.toList = textL n true := by rw [hT]
  have zT : T.size ≤ 1000000000 := by rw [← tS, Array.length_toList] at hz; exact Nat.le_trans hz (by omega)
  rw [← tS] at hS
  replace hS := hi_ hS
  replace hT := hi_ hT
  replace tS := hi_ tS
  clear cT cN cv cF cI
  go_wp2_with (go_at_call 47; (with_reducible refine c4.mono ?_); rintro e w1 ⟨rfl, hB1⟩; obtain ⟨cq, Wq, hq1, hq2, hq3, hq4, hq5⟩ := conv_bytes w1 T zT; replace hB1 := hi_ hB1; replace hq2 := hi_ hq2; replace hq3 := hi_ hq3)
  go_ret
  exact hup.out _ _ _ (by rw [hS.out]; exact ⟨_, cq, by simp, hq2.out, fun e => (by cases e), bthen hB1.out hq3.out⟩)
 by_cases k3 : k = 3
 ·subst k3
  have hS : (Ob.mk 3 n b l d).show = textL n false := (by simp [Ob.show] : _ = numT n false).trans rfl
  have hz := hlen.out _ hS.symm
  obtain ⟨T, hT⟩ : ∃ T : ByteArray, T = ⟨(textL n false).toArray⟩ := ⟨_, rfl⟩
  have c4 : Calls Tryz.prog 47 #[.int .i64 n, .bool false] W1 fun e w' => e = .returned (.string T) ∧ Below W1.heap.size W1 w' := by rw [hT]; exact cF
  have tS : T.data.toList = textL n false := by rw [hT]
  have zT : T.size ≤ 1000000000 := by rw [← tS, Array.length_toList] at hz; exact Nat.le_trans hz (by omega)
  rw [← tS] at hS
  replace hS := hi_ hS
  replace hT := hi_ hT
  replace tS := hi_ tS
  clear cT cN cv cF cI
  go_wp2_with (go_at_call 47; (with_reducible refine c4.mono ?_); rintro e w1 ⟨rfl, hB1⟩; obtain ⟨cq, Wq, hq1, hq2, hq3, hq4, hq5⟩ := conv_bytes w1 T zT; replace hB1 := hi_ hB1; replace hq2 := hi_ hq2; replace hq3 := hi_ hq3)
  go_ret
  exact hup.out _ _ _ (by rw [hS.out]; exact ⟨_, cq, by simp, hq2.out, fun e => (by cases e), bthen hB1.out hq3.out⟩)
 by_cases k4 : k = 4
 ·subst k4
  have hS : (Ob.mk 4 n b l d).show = textT b := by simp [Ob.show]
  replace hS := hi_ hS
  clear cN cv cI cF
  go_wp2_with (go_at_call 15; (with_reducible refine cT.mono ?_); rintro e w1 ⟨A2, c2, rfl, hb2, hA2, hB2⟩; replace hb2 := hi_ hb2; replace hB2 := hi_ hB2; replace hA2 := hi_ hA2)
  go_ret
  exact hup.out _ _ _ (by rw [hS.out]; exact ⟨A2, c2, rfl, hb2.out, hA2.out, hB2.out⟩)
 by_cases k5 : k = 5
 ·subst k5
  have hS : (Ob.mk 5 n b l d).show = nameT b := by simp [Ob.show]
  obtain ⟨S, hSe⟩ : ∃ S, S = nameT b := ⟨_, rfl⟩
  rw [← hSe] at hS cN
  have hz := hlen.out _ hS.symm
  replace hSe := hi_ hSe
  replace hS := hi_ hS
  clear cT cI cF
  go_wp2_with (go_at_call 13; (with_reducible refine cN.mono ?_); intro e w1 hr; replace hr := hr.rb (by omega); obtain ⟨A2, c2, rfl, hb2, hA2, hB2⟩ := hr; replace hb2 := hi_ hb2; replace hB2 := hi_ hB2; replace hA2 := hi_ hA2)
  go_ret
  exact hup.out _ _ _ (by rw [hS.out]; exact ⟨A2, c2, rfl, hb2.out, hA2.out, hB2.out⟩)
 by_cases k9 : k = 9
 ·subst k9
  have hS : (Ob.mk 9 n b l d).show = textL n true ++ [32, 48, 32, 82] := (by simp [Ob.show] : _ = numT n true ++ [32, 48, 32, 82]).trans rfl
  have hz := hlen.out _ hS.symm
  obtain ⟨T, hT⟩ : ∃ T : ByteArray, T = ⟨(textL n true).toArray⟩ := ⟨_, rfl⟩
  have c4 : Calls Tryz.prog 47 #[.int .i64 n, .bool true] W1 fun e w' => e = .returned (.string T) ∧ Below W1.heap.size W1 w' := by rw [hT]; exact cI
  obtain ⟨T2, hT2⟩ : ∃ T2 : ByteArray, T2 = T ++ ⟨#[32, 48, 32, 82]⟩ := ⟨_, rfl⟩
  have tS : T2.data.toList = textL n true ++ [32, 48, 32, 82] := by rw [hT2, hT, bytes_app]
  have zT : T2.size ≤ 1000000000 := by rw [← tS, Array.length_toList] at hz; exact Nat.le_trans hz (by omega)
  rw [← tS] at hS
  have hT3 : T ++ ⟨#[32, 48, 32, 82]⟩ = T2 := hT2.symm
  have zT1 : T2.size = T.size + 4 := by rw [hT2, ByteArray.size_append]; rfl
  have zT0 : T.size ≤ 1000000000 := by omega
  replace hS := hi_ hS
  replace hT := hi_ hT
  replace tS := hi_ tS
  clear cT cN cv cF cI hT2
  go_wp2_with (go_at_call 47; (with_reducible refine c4.mono ?_); rintro e w1 ⟨rfl, hB1⟩; obtain ⟨cq, Wq, hq1, hq2, hq3, hq4, hq5⟩ := conv_bytes w1 T2 zT; replace hB1 := hi_ hB1; replace hq2 := hi_ hq2; replace hq3 := hi_ hq3)
  go_ret
  exact hup.out _ _ _ (by rw [hS.out]; exact ⟨_, cq, by rw [Array.length_toList]; first | rfl | (congr 2; simp; omega), hq2.out, fun e => (by cases e), bthen hB1.out hq3.out⟩)
 have hS : (Ob.mk k n b l d).show = [110, 117, 108, 108] := by simp [Ob.show, k1, k2, k3, k4, k5, k6, k7, k8, k9]
 replace hS := hi_ hS
 have f1 : (k == 1) = false := by simpa using k1
 have f2 : (k == 2) = false := by simpa using k2
 have f3 : (k == 3) = false := by simpa using k3
 have f4 : (k == 4) = false := by simpa using k4
 have f5 : (k == 5) = false := by simpa using k5
 have f6 : (k == 6) = false := by simpa using k6
 have f7 : (k == 7) = false := by simpa using k7
 have f8 : (k == 8) = false := by simpa using k8
 have f9 : (k == 9) = false := by simpa using k9
 clear k1 k2 k3 k4 k5 k6 k7 k8 k9 cT cN cv cI cF
 have cr := conv_const W1 #[.int .u8 110, .int .u8 117, .int .u8 108, .int .u8 108] 4 4
 go_wp2
 go_ret
 exact hup.out _ _ _ (by rw [hS.out]; exact cc.out [110, 117, 108, 108] (by decide))
theorem rshow_all : ∀ N, N ≤ 1048576 → RShowC N
 | 0, _ => fun o vs w _ h => by have := bulk_pos o; omega
 | N + 1, h => ref_show N h (rshow_all N (by omega))
end Go.Proofs.YthacnnmlephkhaaGreatDoor

/- Walks and laws, joined: part I. No condition. -/
import Derived.Test.YtkpikpaepgknnaaGreatDoorXkJH
import Derived.Test.YtkpikpaepgknnaaGreatDoorXkJA
import Derived.Test.YtkpikpaepgknnaaGreatDoorXkJG
set_option linter.unusedSimpArgs false
set_option linter.unusedVariables false
/- An item: a node's text with its language. No condition. -/
namespace Go.Proofs.YtkpikpaepgknnaaGreatDoor
open Go Go.RowKit Go.Wk Go.Xt Go.Xe Go.Xw
theorem nx_name {w : World} {sp nm : List UInt8} {l : List (List UInt8 × List UInt8 × List UInt8)} {kk : List Nx} {us : List Value} {b : List Nat} (h : NxAt w (.el sp nm l kk) us b) (hnm : nm ≠ []) {S N T : ByteArray} {x1 : Option Addr} {y1 z1 : Nat} {x2 : Option Addr} {y2 z2 : Nat} (hu : us = [.string S, .string N, .string T, .slice x1 y1 z1, .slice x2 y2 z2]) : (N.toList == []) = false := by
  cases h with
  | el _ _ _ _ va vk ba bk h1 h2 =>
    have e2 : Value.string N = str nm := by injection hu with _ hv; injection hv with h _; exact h.symm
    have := toList_str _ _ e2.symm
    rw [this]
    cases nm with
    | nil => exact absurd rfl hnm
    | cons x t => rfl
theorem inner_tx {w : World} (N0 N1 N2 : ByteArray) (a1 : Option Addr) (n1 c1 : Nat) (a2 : Option Addr) (n2 c2 : Nat) (T : List UInt8) (b : List Nat) (hK : KxAt w (txN T) (.slice a2 n2 c2) b) (hT : T.length ≤ 100000) :
    Calls Tryz.prog 135 #[.agg #[.string N0, .string N1, .string N2, .slice a1 n1 c1, .slice a2 n2 c2]] w fun e w' => e = .returned (.tuple #[str T, .bool true]) ∧ Below w.heap.size w w' := by
  obtain ⟨rfl, hO⟩ := hK.open
  unfold txN at hO hK ⊢
  by_cases h0 : T = []
  · subst h0
    exact xml_Inner_nil N0 N1 N2 a1 n1 c1 a2 c2
  · rw [if_neg h0] at hO ⊢
    obtain ⟨g, vs, b', rfl, _, hOw, hR⟩ := hO (by simp)
    obtain ⟨us, bi, hN, _, hus⟩ := hR.at (i := 0) (by simp)
    have hN : NxAt w (.tx T) us bi := hN
    cases hN
    have hc := kids_cells (S := ⟨#[]⟩) (N := ⟨#[]⟩) (T := ⟨T.toArray⟩) (a1 := none) (n1 := 0) (c1 := 0) (a2 := none) (n2 := 0) (c2 := 0) hOw (i := 0) (by simp) hus
    obtain ⟨q0, q1, q2, q3, q4⟩ := hc
    have hcap : 1 ≤ c2 := by
      rcases hOw.2 with ⟨e, _⟩ | ⟨g', cap', cur, e, _, hh, hnc, _⟩
      · cases e
      · cases e; exact hnc
    exact xml_Inner_one N0 N1 N2 a1 n1 c1 g c2 T hT hcap (by simpa using q0) (by simpa using q1) (by unfold str; simpa using q2) (by simpa using q3) (by simpa using q4)
theorem two_end {w w2 : World} {v0 v1 : Value} (hZ : Blk w2 (w.heap.size + 1) 55 #[.string ⟨#[]⟩, .string ⟨#[]⟩]) (hB : Below w.heap.size w w2) : Blk ((w2.setCell ⟨w.heap.size + 1, 0, none⟩ v0).setCell ⟨w.heap.size + 1, 1, none⟩ v1) (w.heap.size + 1) 55 #[v0, v1] ∧ Below w.heap.size w ((w2.setCell ⟨w.heap.size + 1, 0, none⟩ v0).setCell ⟨w.heap.size + 1, 1, none⟩ v1) :=
  ⟨(hZ.set_ 0 v0).set_ 1 v1, (hB.setCell (Nat.le_succ _) _).setCell (Nat.le_succ _) _⟩
set_option maxHeartbeats 4000000 in
set_option maxRecDepth 100000 in
theorem xmp_item {w : World} (S N Z : ByteArray) (a1 : Option Addr) (n1 c1 : Nat) (a2 : Option Addr) (n2 c2 : Nat) (L T : List UInt8) (ba bk : List Nat) (hA : AtX w (langN L) (.slice a1 n1 c1) ba) (hK : KxAt w (txN T) (.slice a2 n2 c2) bk) (hT : T.length ≤ 100000) :
    Calls Tryz.prog 104 #[.agg #[.string S, .string N, .string Z, .slice a1 n1 c1, .slice a2 n2 c2]] w fun e w' => e = .returned (.tuple #[.agg #[str L, str T], .bool true]) ∧ Below w.heap.size w w' := by
  obtain ⟨W1, hW1⟩ : ∃ W, W = (w.alloc (.cells #[.string S, .string N, .string Z, .slice a1 n1 c1, .slice a2 n2 c2] 70)).alloc (.cells #[.string ⟨#[]⟩, .string ⟨#[]⟩] 55) := ⟨_, rfl⟩
  have hs0 : (w.alloc (.cells #[.string S, .string N, .string Z, .slice a1 n1 c1, .slice a2 n2 c2] 70)).heap.size = w.heap.size + 1 := World.size_alloc _ _
  have hb1 : Below w.heap.size w W1 := by rw [hW1]; exact ((Below.refl _ _).alloc (Nat.le_refl _) _).alloc (by rw [hs0]; omega) _
  have hR0 : Blk W1 w.heap.size 70 #[.string S, .string N, .string Z, .slice a1 n1 c1, .slice a2 n2 c2] := by
    rw [hW1]; exact (Blk.new w 70 _).below ((Below.refl _ _).alloc (Nat.le_refl _) _) (by rw [hs0]; omega)
  have hR1 : Blk W1 (w.heap.size + 1) 55 #[.string ⟨#[]⟩, .string ⟨#[]⟩] := by
    rw [hW1]
    have := Blk.new (w.alloc (.cells #[.string S, .string N, .string Z, .slice a1 n1 c1, .slice a2 n2 c2] 70)) 55 #[.string ⟨#[]⟩, .string ⟨#[]⟩]
    rw [hs0] at this
    exact this
  have hs1 : W1.heap.size = w.heap.size + 2 := by rw [hW1, World.size_alloc, hs0]
  have hlt := hK.lt
  have ci := inner_tx (w := W1) S N Z a1 n1 c1 a2 n2 c2 T bk (hK.keep fun k hk => hb1.block k (hlt k hk)) hT
  obtain ⟨TS, hTS⟩ : ∃ TS : ByteArray, str T = .string TS := ⟨_, rfl⟩
  obtain ⟨LS, hLS⟩ : ∃ LS : ByteArray, str L = .string LS := ⟨_, rfl⟩
  rw [hTS] at ci ⊢
  rw [hLS]
  have r0 : W1.cell? ⟨w.heap.size, 0, none⟩ = some (.string S) := hR0.cell 0
  have r1 : W1.cell? ⟨w.heap.size, 1, none⟩ = some (.string N) := hR0.cell 1
  have r2 : W1.cell? ⟨w.heap.size, 2, none⟩ = some (.string Z) := hR0.cell 2
  have r3 : W1.cell? ⟨w.heap.size, 3, none⟩ = some (.slice a1 n1 c1) := hR0.cell 3
  have r4 : W1.cell? ⟨w.heap.size, 4, none⟩ = some (.slice a2 n2 c2) := hR0.cell 4
  have kr : ∀ w2, Below W1.heap.size W1 w2 → w2.cell? ⟨w.heap.size, 3, none⟩ = some (.slice a1 n1 c1) ∧ Blk w2 (w.heap.size + 1) 55 #[.string ⟨#[]⟩, .string ⟨#[]⟩] ∧ Below w.heap.size w w2 := fun w2 h => ⟨(h.cell (cell_lt r3)).trans r3, hR1.below h hR1.lt, bthen hb1 h⟩
  replace hb1 := Lib.hid hb1
  replace kr := Lib.hid kr
  replace hs0 := Lib.hid hs0
  replace hs1 := Lib.hid hs1
  replace hlt := Lib.hid hlt
  replace hTS := Lib.hid hTS
  have fin : ∀ (w5 w2 : World) (V : World) (q : Nat), Below W1.heap.size W1 w2 → True := fun _ _ _ _ _ => trivial
  clear fin
  unfold langN langA attsX at hA
  rcases hA with ⟨h1, h2, _⟩ | ⟨a, g, cap, h1, h2, c0, c1', c2', _⟩
  · have hL0 : L = [] := by
      by_cases h : L = []
      · exact h
      · rw [if_neg h] at h1; cases h1
    injection h2 with e1 e2 e3
    subst e1 e2 e3 hL0
    have hLe : LS = ⟨#[]⟩ := by unfold str at hLS; injection hLS with h; exact h.symm
    subst hLe
    clear hLS h1 hR0 hR1
    go_enter Tryz.func104, Tryz.ntmps104
    go_upto_region 1 with (fail)
    rw [← hW1]
    replace hW1 := Lib.hid hW1
    go_wp2_with (go_at_call 135; (with_reducible refine ci.mono ?_); rintro e w2 ⟨rfl, hb2⟩; obtain ⟨z3, hZ, hB2⟩ := kr.out w2 hb2; have hZl := hZ.lt; have hZ3 := cell_lt z3; have a0 := hZ.cell 0; have a1' := hZ.cell 1; have y0 := hZ.frozen 0; have y1 := hZ.frozen 1; replace hb2 := Lib.hid hb2; replace hZ := Lib.hid hZ; replace hB2 := Lib.hid hB2)
    refine wp_loop_rounds 1 ?_; rw [rounds_succ]
    go_wp2
    obtain ⟨hV, hBV⟩ := two_end (v0 := .string ⟨#[]⟩) (v1 := .string TS) hZ.out hB2.out
    have hBA := hBV.alloc (o := .cells #[.string ⟨#[]⟩, .string TS] 55) (Nat.le_trans hB2.out.size (by simp))
    have hVA := hV.below ((Below.refl _ _).alloc (Nat.le_refl _) (.cells #[.string ⟨#[]⟩, .string TS] 55)) hV.lt
    have q0 := hVA.cell 0
    have q1 := hVA.cell 1
    exact bodyPost_ret (v := .tuple #[.agg #[.string ⟨#[]⟩, .string TS], .bool true]) (by simp [results, Tryz.results104, go_sem, q0, q1]) rfl ⟨rfl, hBA⟩
  · have hL0 : L ≠ [] := by
      intro h; rw [if_pos h] at h1; cases h1
    rw [if_neg hL0] at h1
    have ha : a = (xmlNs, [108, 97, 110, 103], L) := by simpa using h1.symm
    subst ha
    injection h2 with e1 e2 e3
    subst e1 e2 e3
    obtain ⟨XN, hXN⟩ : ∃ XN : ByteArray, str xmlNs = .string XN := ⟨_, rfl⟩
    obtain ⟨LN, hLN⟩ : ∃ LN : ByteArray, str [108, 97, 110, 103] = .string LN := ⟨_, rfl⟩
    simp only [hXN, hLN, hLS] at c0 c1' c2'
    have t1 : (XN.toList == [104, 116, 116, 112, 58, 47, 47, 119, 119, 119, 46, 119, 51, 46, 111, 114, 103, 47, 88, 77, 76, 47, 49, 57, 57, 56, 47, 110, 97, 109, 101, 115, 112, 97, 99, 101]) = true := by rw [toList_str _ _ hXN]; rfl
    have t2 : (LN.toList == [108, 97, 110, 103]) = true := by rw [toList_str _ _ hLN]; rfl
    have hgw := cell_lt c0
    have kc : ∀ w2, Below W1.heap.size W1 w2 → (w2.cell? ⟨g, 0, none⟩ = some (.string XN) ∧ w2.cell? ⟨g, 1, none⟩ = some (.string LN)) ∧ w2.cell? ⟨g, 2, none⟩ = some (.string LS) := fun w2 h => ⟨⟨((bthen hb1.out h).cell (cell_lt c0)).trans c0, ((bthen hb1.out h).cell (cell_lt c1')).trans c1'⟩, ((bthen hb1.out h).cell (cell_lt c2')).trans c2'⟩
    replace kc := Lib.hid kc
    replace hXN := Lib.hid hXN
    replace hLN := Lib.hid hLN
    replace hLS := Lib.hid hLS
    clear h1 hR0 hR1 c0 c1' c2'
    go_enter Tryz.func104, Tryz.ntmps104
    go_upto_region 1 with (fail)
    rw [← hW1]
    replace hW1 := Lib.hid hW1
    go_wp2_with (go_at_call 135; (with_reducible refine ci.mono ?_); rintro e w2 ⟨rfl, hb2⟩; obtain ⟨z3, hZ, hB2⟩ := kr.out w2 hb2; obtain ⟨⟨d0, d1⟩, d2⟩ := kc.out w2 hb2; have hZl := hZ.lt; have hZ3 := cell_lt z3; have hg2 := cell_lt d0; have a0 := hZ.cell 0; have a1' := hZ.cell 1; have y0 := hZ.frozen 0; have y1 := hZ.frozen 1; replace hb2 := Lib.hid hb2; replace hZ := Lib.hid hZ; replace hB2 := Lib.hid hB2)
    refine wp_loop_rounds 2 ?_; rw [rounds_succ]
    go_wp2
    rw [rounds_succ]
    go_wp2
    obtain ⟨hV, hBV⟩ := two_end (v0 := .string LS) (v1 := .string TS) hZ.out hB2.out
    have hBA := (hBV.alloc (o := .cells #[.string LS, .string TS] 55) (Nat.le_trans hB2.out.size (by simp))).alloc (o := .cells #[.string XN, .string LN, .string LS] 112) (Nat.le_trans hB2.out.size (by simp))
    have hVA := hV.below (((Below.refl _ _).alloc (Nat.le_refl _) (.cells #[.string LS, .string TS] 55)).alloc (by rw [World.size_alloc]; omega) (.cells #[.string XN, .string LN, .string LS] 112)) hV.lt
    have q0 := hVA.cell 0
    have q1 := hVA.cell 1
    exact bodyPost_ret (v := .tuple #[.agg #[.string LS, .string TS], .bool true]) (by simp [results, Tryz.results104, go_sem, q0, q1]) rfl ⟨rfl, hBA⟩
set_option maxHeartbeats 4000000 in
set_option maxRecDepth 100000 in
/-- where there is an element, and no attribute -/
theorem xmp_item_no {w : World} (S N Z : ByteArray) (c1 : Nat) (a2 : Option Addr) (n2 c2 : Nat) (ks : List Nx) (bk : List Nat) (hK : KxAt w ks (.slice a2 n2 c2) bk) (sp nm : List UInt8) (l : List (List UInt8 × List UInt8 × List UInt8)) (kk rest : List Nx) (hks : ks = .el sp nm l kk :: rest) (hnm : nm ≠ []) :
    Calls Tryz.prog 104 #[.agg #[.string S, .string N, .string Z, .slice none 0 c1, .slice a2 n2 c2]] w fun e w' => e = .returned (.tuple #[.agg #[.string ⟨#[]⟩, .string ⟨#[]⟩], .bool false]) ∧ Below w.heap.size w w' := by
  obtain ⟨W1, hW1⟩ : ∃ W, W = (w.alloc (.cells #[.string S, .string N, .string Z, .slice none 0 c1, .slice a2 n2 c2] 70)).alloc (.cells #[.string ⟨#[]⟩, .string ⟨#[]⟩] 55) := ⟨_, rfl⟩
  have hs0 : (w.alloc (.cells #[.string S, .string N, .string Z, .slice none 0 c1, .slice a2 n2 c2] 70)).heap.size = w.heap.size + 1 := World.size_alloc _ _
  have hb1 : Below w.heap.size w W1 := by rw [hW1]; exact ((Below.refl _ _).alloc (Nat.le_refl _) _).alloc (by rw [hs0]; omega) _
  have hR0 : Blk W1 w.heap.size 70 #[.string S, .string N, .string Z, .slice none 0 c1, .slice a2 n2 c2] := by
    rw [hW1]; exact (Blk.new w 70 _).below ((Below.refl _ _).alloc (Nat.le_refl _) _) (by rw [hs0]; omega)
  have hR1 : Blk W1 (w.heap.size + 1) 55 #[.string ⟨#[]⟩, .string ⟨#[]⟩] := by
    rw [hW1]
    have := Blk.new (w.alloc (.cells #[.string S, .string N, .string Z, .slice none 0 c1, .slice a2 n2 c2] 70)) 55 #[.string ⟨#[]⟩, .string ⟨#[]⟩]
    rw [hs0] at this
    exact this
  have hs1 : W1.heap.size = w.heap.size + 2 := by rw [hW1, World.size_alloc, hs0]
  have hlt := hK.lt
  have ci : Calls Tryz.prog 135 #[.agg #[.string S, .string N, .string Z, .slice none 0 c1, .slice a2 n2 c2]] W1 fun e w' => e = .returned (.tuple #[.string ⟨#[]⟩, .bool false]) ∧ Below W1.heap.size W1 w' := by
    have hK1 := hK.keep (w' := W1) fun k hk => hb1.block k (hlt k hk)
    obtain ⟨rfl, hO⟩ := hK1.open
    subst hks
    obtain ⟨g, vs, b', rfl, _, hOw, hR⟩ := hO (by simp)
    obtain ⟨us, bi, hN, _, hus⟩ := hR.at (i := 0) (by simp)
    have hN : NxAt W1 (.el sp nm l kk) us bi := hN
    obtain ⟨S1, N1, T1, x1, y1, z1, x2, y2, z2, hu⟩ := hN.shape
    have hn := nx_name hN hnm hu
    subst hu
    obtain ⟨q0, q1, q2, q3, q4⟩ := kids_cells hOw (i := 0) (by simp) hus
    exact xml_Inner_el S N Z none 0 c1 g _ c2 (by simp) S1 N1 T1 x1 y1 z1 x2 y2 z2 hn (by simpa using q0) (by simpa using q1) (by simpa using q2) (by simpa using q3) (by simpa using q4)
  have r0 : W1.cell? ⟨w.heap.size, 0, none⟩ = some (.string S) := hR0.cell 0
  have r1 : W1.cell? ⟨w.heap.size, 1, none⟩ = some (.string N) := hR0.cell 1
  have r2 : W1.cell? ⟨w.heap.size, 2, none⟩ = some (.string Z) := hR0.cell 2
  have r3 : W1.cell? ⟨w.heap.size, 3, none⟩ = some (.slice none 0 c1) := hR0.cell 3
  have r4 : W1.cell? ⟨w.heap.size, 4, none⟩ = some (.slice a2 n2 c2) := hR0.cell 4
  have kr : ∀ w2, Below W1.heap.size W1 w2 → w2.cell? ⟨w.heap.size, 3, none⟩ = some (.slice none 0 c1) ∧ Blk w2 (w.heap.size + 1) 55 #[.string ⟨#[]⟩, .string ⟨#[]⟩] ∧ Below w.heap.size w w2 := fun w2 h => ⟨(h.cell (cell_lt r3)).trans r3, hR1.below h hR1.lt, bthen hb1 h⟩
  replace hb1 := Lib.hid hb1
  replace kr := Lib.hid kr
  replace hs0 := Lib.hid hs0
  replace hs1 := Lib.hid hs1
  replace hlt := Lib.hid hlt
  clear hR0 hR1 hks hnm
  go_enter Tryz.func104, Tryz.ntmps104
  go_upto_region 1 with (fail)
  rw [← hW1]
  replace hW1 := Lib.hid hW1
  go_wp2_with (go_at_call 135; (with_reducible refine ci.mono ?_); rintro e w2 ⟨rfl, hb2⟩; obtain ⟨z3, hZ, hB2⟩ := kr.out w2 hb2; have hZl := hZ.lt; have hZ3 := cell_lt z3; have a0 := hZ.cell 0; have a1' := hZ.cell 1; have y0 := hZ.frozen 0; have y1 := hZ.frozen 1; replace hb2 := Lib.hid hb2; replace hZ := Lib.hid hZ; replace hB2 := Lib.hid hB2)
  refine wp_loop_rounds 1 ?_; rw [rounds_succ]
  go_wp2
  obtain ⟨hV, hBV⟩ := two_end (v0 := .string ⟨#[]⟩) (v1 := .string ⟨#[]⟩) hZ.out hB2.out
  have hBA := hBV.alloc (o := .cells #[.string ⟨#[]⟩, .string ⟨#[]⟩] 55) (Nat.le_trans hB2.out.size (by simp))
  have hVA := hV.below ((Below.refl _ _).alloc (Nat.le_refl _) (.cells #[.string ⟨#[]⟩, .string ⟨#[]⟩] 55)) hV.lt
  have q0 := hVA.cell 0
  have q1 := hVA.cell 1
  exact bodyPost_ret (v := .tuple #[.agg #[.string ⟨#[]⟩, .string ⟨#[]⟩], .bool false]) (by simp [results, Tryz.results104, go_sem, q0, q1]) rfl ⟨rfl, hBA⟩
end Go.Proofs.YtkpikpaepgknnaaGreatDoor

/- A text of one line's end is white. No condition. -/
namespace Go.Proofs.YtkpikpaepgknnaaGreatDoor
open Go Go.RowKit Go.Wk Go.Xt Go.Xe Go.Xw
set_option maxRecDepth 100000 in
theorem xmp_white {w : World} : Calls Tryz.prog 72 #[.string ⟨#[10]⟩] w fun e w' => e = .returned (.bool true) ∧ Below w.heap.size w w' := by
  have ct : Calls Tryz.prog 103 #[.string ⟨#[10]⟩, .string ⟨#[9, 10, 13, 32]⟩] w fun e w' => e = .returned (.string ⟨#[]⟩) ∧ Below w.heap.size w w' :=
    Any.strings_Trim_laid Tryz.lays160 (by kernel_rfl) ⟨#[10]⟩ ⟨#[9, 10, 13, 32]⟩ w (by decide) (by decide) (ascii_of_all (by decide))
  go_enter Tryz.func72, Tryz.ntmps72
  go_wp2_with (go_at_call 103; (with_reducible refine ct.mono ?_); rintro e w1 ⟨rfl, hb1⟩; replace hb1 := Lib.hid hb1)
  go_ret
  exact ⟨rfl, hb1.out⟩
end Go.Proofs.YtkpikpaepgknnaaGreatDoor

/- A node's elements: white texts are passed over. No condition. -/
namespace Go.Proofs.YtkpikpaepgknnaaGreatDoor
open Go Go.RowKit Go.Wk Go.Xt Go.Xe Go.Xw
/-- what elements answers -/
def ElsQ (w : World) (ks : List Nx) (b : List Nat) (e : Ending) (w' : World) : Prop := ∃ (a : Option Addr) (n c : Nat) (vs : List Value) (b' : List Nat), e = .returned (.tuple #[.slice a n c, .bool true]) ∧ n = (elsX ks).length ∧ w'.ownsRow w.heap.size 70 5 (.slice a n c) n vs ∧ RxAt w' (elsX ks) vs b' ∧ (∀ k ∈ b', k ∈ b) ∧ Below w.heap.size w w'
set_option maxHeartbeats 4000000 in
set_option maxRecDepth 100000 in
theorem xmp_elements {w : World} (S N T : ByteArray) (a1 : Option Addr) (n1 c1 : Nat) (a2 : Option Addr) (n2 c2 : Nat) (ks : List Nx) (b : List Nat) (hK : KxAt w ks (.slice a2 n2 c2) b) (hok : ∀ k ∈ ks, OkX k) (hn : ks.length ≤ 100000) :
    Calls Tryz.prog 35 #[.agg #[.string S, .string N, .string T, .slice a1 n1 c1, .slice a2 n2 c2]] w (ElsQ w ks b) := by
  have hb := hK.lt
  obtain ⟨rfl, hKo⟩ := hK.open
  obtain ⟨n, hnn⟩ : ∃ n, n = ks.length := ⟨_, rfl⟩
  rw [← hnn]
  rw [← hnn] at hn
  obtain ⟨i0, hi0, hz0, hz1, hz2⟩ := node_info
  obtain ⟨W0, hW0⟩ : ∃ W, W = w.alloc (.cells #[.string S, .string N, .string T, .slice a1 n1 c1, .slice a2 n c2] 70) := ⟨_, rfl⟩
  have hb0 : Below w.heap.size w W0 := by rw [hW0]; exact (Below.refl _ _).alloc (Nat.le_refl _) _
  have hR0 : Blk W0 w.heap.size 70 #[.string S, .string N, .string T, .slice a1 n1 c1, .slice a2 n c2] := by rw [hW0]; exact Blk.new w 70 _
  have r4 := hR0.cell 4
  replace r4 : W0.cell? ⟨w.heap.size, 4, none⟩ = some (.slice a2 n c2) := r4
  have hsz0 := hb0.size
  replace hnn := Lib.hid hnn
  replace hKo := Lib.hid hKo
  replace hb := Lib.hid hb
  replace hok := Lib.hid hok
  replace hb0 := Lib.hid hb0
  replace hsz0 := Lib.hid hsz0
  clear hR0 hK
  go_enter Tryz.func35, Tryz.ntmps35
  go_upto_region 1 with (fail)
  rw [← hW0]
  replace hW0 := Lib.hid hW0
  go_wp2
  go_loopw [4, 10] (fun s4 s10 wr => ∃ (i : Nat) (vs : List Value) (b' : List Nat), i ≤ n ∧ s10 = .int .i64 i ∧ wr.ownsRow w.heap.size 70 5 s4 (elsX (ks.take i)).length vs ∧ RxAt wr (elsX (ks.take i)) vs b' ∧ (∀ k ∈ b', k ∈ b) ∧ Below w.heap.size w wr) (fun _ s10 _ => n - (RowKit.intOf s10).toNat)
  case atStart => exact ⟨0, [], [], Nat.zero_le _, rfl, World.ownsRow_nil _ _ _ _, .nil, by simp, hb0.out⟩
  case round =>
    obtain ⟨i, vs, b', hi, rfl, hO, hX, hbb, hB⟩ := hrel
    obtain ⟨a6, cp6, rfl⟩ := sl_of hO
    by_cases hin : i < n
    · have hil : i < ks.length := by rw [← hnn.out]; exact hin
      obtain ⟨g, vsK, bK, rfl, rfl, hKO, hKR⟩ := hKo.out (by omega)
      obtain ⟨us, bi, hN, hbi, hus⟩ := hKR.at hil
      obtain ⟨S1, N1, T1, x1, y1, z1, x2, y2, z2, rfl⟩ := hN.shape
      have hKO' : wr.ownsRow 0 70 5 (.slice (some ⟨g, 0, none⟩) n c2) n vsK := by
        have := own_sameX hKO (hB.block g (hb.out g (by simp)))
        rw [hnn.out]; exact this
      obtain ⟨q0, q1, q2, q3, q4⟩ := kids_cells hKO' hin hus
      have hlen := els_len ks i
      rw [← hnn.out] at hlen
      have hst := els_take hil
      have hoki := hok.out _ (List.getElem_mem hil)
      have hN' : NxAt wr ks[i] [.string S1, .string N1, .string T1, .slice x1 y1 z1, .slice x2 y2 z2] bi := hN.keep fun k hk => hB.block k (hb.out k (List.mem_cons_of_mem _ (hbi k hk)))
      have hbi' : ∀ k ∈ bi, k ∈ g :: bK := fun k hk => List.mem_cons_of_mem _ (hbi k hk)
      have hbil : ∀ k ∈ bi, k < w.heap.size := fun k hk => hb.out k (hbi' k hk)
      obtain ⟨W1, hW1⟩ : ∃ W, W = wr.alloc (.cells #[.string S1, .string N1, .string T1, .slice x1 y1 z1, .slice x2 y2 z2] 70) := ⟨_, rfl⟩
      have hb1 : Below wr.heap.size wr W1 := by rw [hW1]; exact (Below.refl _ _).alloc (Nat.le_refl _) _
      have hR1 : Blk W1 wr.heap.size 70 #[.string S1, .string N1, .string T1, .slice x1 y1 z1, .slice x2 y2 z2] := by rw [hW1]; exact Blk.new wr 70 _
      have u0 : W1.cell? ⟨wr.heap.size, 0, none⟩ = some (.string S1) := hR1.cell 0
      have u1 : W1.cell? ⟨wr.heap.size, 1, none⟩ = some (.string N1) := hR1.cell 1
      have u2 : W1.cell? ⟨wr.heap.size, 2, none⟩ = some (.string T1) := hR1.cell 2
      have u3 : W1.cell? ⟨wr.heap.size, 3, none⟩ = some (.slice x1 y1 z1) := hR1.cell 3
      have u4 : W1.cell? ⟨wr.heap.size, 4, none⟩ = some (.slice x2 y2 z2) := hR1.cell 4
      have hsz1 : W1.heap.size = wr.heap.size + 1 := by rw [hW1]; exact World.size_alloc _ _
      have hO1 : W1.ownsRow w.heap.size 70 5 (.slice a6 (elsX (ks.take i)).length cp6) (elsX (ks.take i)).length vs := by rw [hW1]; exact hO.alloc _
      have hwz := hB.size
      have hgr : ∀ (w5 : World) (o : Obj), (W1.alloc o).grownBy w5 (Value.slice a6 (elsX (ks.take i)).length cp6).ownBlock → Below w.heap.size w w5 ∧ ∀ k ∈ b' ++ bi, w5.heap[k]? = wr.heap[k]? := fun w5 o hg => by
        have B5 : Below w.heap.size w w5 := by
          have h1 : Below w.heap.size w W1 := bthen hB hb1
          exact (h1.alloc (by omega) o).grown hg (by rw [World.size_alloc]; omega) (fun j hj => (hO1.lt j hj).1)
        refine ⟨B5, fun k hk => ?_⟩
        have hkw : k < w.heap.size := by
          rcases List.mem_append.1 hk with h | h
          · exact hb.out k (hbb k h)
          · exact hbil k h
        exact (B5.block k hkw).trans (hB.block k hkw).symm
      replace hgr := Lib.hid hgr
      replace hN' := Lib.hid hN'
      replace hbi' := Lib.hid hbi'
      replace hbb := Lib.hid hbb
      replace hbil := Lib.hid hbil
      replace hX := Lib.hid hX
      replace hB := Lib.hid hB
      replace hb1 := Lib.hid hb1
      replace hst := Lib.hid hst
      replace hlen := Lib.hid hlen
      replace hwz := Lib.hid hwz
      replace hsz1 := Lib.hid hsz1
      clear hR1 hN hbi hus hKO hKR hKO' hO
      cases hk : ks[i] with
      | el sp nm l kk =>
        rw [hk] at hoki hN' hst
        have hne : (N1.toList == []) = false := by
          have h0 := hN'.out
          generalize hv : ([Value.string S1, .string N1, .string T1, .slice x1 y1 z1, .slice x2 y2 z2] : List Value) = us at h0
          cases h0 with
          | el _ _ _ _ va vk ba bk h1 h2 =>
            have e2 : Value.string N1 = str nm := by injection hv with _ hv; injection hv
            have := toList_str _ _ e2.symm
            rw [this]
            cases nm with
            | nil => exact absurd rfl hoki
            | cons x t => rfl
        have hne2 : N1.toList.isEmpty = false := by simpa using hne
        replace hoki := Lib.hid hoki
        replace hk := Lib.hid hk
        go_upto_region 5 with (fail)
        rw [← hW1]
        replace hW1 := Lib.hid hW1
        go_wp2_with (at_builtin; refine wpList_append_own_at _ rfl (.tmp 18) (.tmp 20) 68 rfl w.heap.size 70 i0 _ 5 96 Tryz.underlying68 hi0 hz0 hz1 hz2 rfl (by decide) _ _ _ rfl (hO1.alloc _) ⟨W1.heap.size, 0, none⟩ 1 1 [.string S1, .string N1, .string T1, .slice x1 y1 z1, .slice x2 y2 z2] rfl rfl (five_new _ _ _ _ _ _ _) (five_one _ _ _ _ _ rfl rfl) (by have := hlen.out; unfold maxLen; omega) (by have := hlen.out; omega) (by have := hwz.out; have := hsz1.out; simp; omega) ?_; intro v5 w5 hown5 hg5 _ _; have h5 := hgr.out w5 _ hg5; replace h5 := Lib.hid h5; replace hown5 := Lib.hid hown5; clear hg5)
        go_roundw
        case rel =>
          have e1 := hst.out
          rw [if_pos (show isElX (.el sp nm l kk) = true from rfl)] at e1
          refine ⟨i + 1, vs ++ [.string S1, .string N1, .string T1, .slice x1 y1 z1, .slice x2 y2 z2], b' ++ bi, by omega, by go_num, ?_, ?_, fun k hk => ?_, h5.out.1⟩
          · rw [e1, List.length_append]; exact hown5.out
          · rw [e1]; exact (hX.out.keep fun k hk => h5.out.2 k (List.mem_append_left _ hk)).snoc (hN'.out.keep fun k hk => h5.out.2 k (List.mem_append_right _ hk))
          · rcases List.mem_append.1 hk with h | h
            · exact hbb.out k h
            · exact hbi'.out k h
        case measure => simp [RowKit.intOf]; omega
      | tx t =>
        rw [hk] at hoki hN' hst
        have hoki : t = [10] := hoki
        have hst2 : elsX (ks.take (i + 1)) = elsX (ks.take i) := by have := hst.out; simpa [isElX] using this
        have h0 := hN'.out
        obtain ⟨rfl, rfl⟩ : N1 = ⟨#[]⟩ ∧ T1 = ⟨#[10]⟩ := by
          generalize hv : ([Value.string S1, .string N1, .string T1, .slice x1 y1 z1, .slice x2 y2 z2] : List Value) = us at h0
          cases h0 with
          | tx =>
            subst hoki
            injection hv with _ hv; injection hv with h1 hv; injection hv with h2 hv
            injection h1 with h1; injection h2 with h2
            exact ⟨h1, h2⟩
        have cw := fun W => xmp_white (w := W)
        have hB2 := bthen hB.out hb1.out
        replace hB2 := Lib.hid hB2
        have hO2 := hO1
        replace hO2 := Lib.hid hO2
        replace hst2 := Lib.hid hst2
        clear h0 hoki
        replace hk := Lib.hid hk
        go_upto_region 5 with (fail)
        rw [← hW1]
        replace hW1 := Lib.hid hW1
        go_wp2_with (go_at_call 72; (with_reducible refine (cw _).mono ?_); rintro e w2 ⟨rfl, hb2⟩; replace hb2 := Lib.hid hb2)
        go_roundw
        case rel =>
          refine ⟨i + 1, vs, b', by omega, by go_num, ?_, ?_, hbb.out, bthen hB2.out hb2.out⟩
          · rw [hst2.out]; exact row_kept hO2.out hb2.out
          · rw [hst2.out]; exact hX.out.keep fun k hk => by
              have h1 := hb.out k (hbb.out k hk)
              have h2 := hwz.out
              have h3 := hsz1.out
              exact (hb2.out.block k (by omega)).trans (hb1.out.block k (by omega))
        case measure => simp [RowKit.intOf]; omega
    · obtain rfl : i = n := by omega
      have e1 : ks.take i = ks := by rw [List.take_of_length_le (by rw [hnn.out]; exact Nat.le_refl _)]
      rw [e1] at hO hX
      replace hB := Lib.hid hB
      replace hO := Lib.hid hO
      replace hX := Lib.hid hX
      replace hbb := Lib.hid hbb
      replace e1 := Lib.hid e1
      go_wp2
      go_ret2
      refine ⟨a6, _, cp6, vs, b', rfl, ?_, ?_, hX.out, hbb.out, hB.out⟩
      · rw [e1.out]
      · rw [e1.out]; exact hO.out
end Go.Proofs.YtkpikpaepgknnaaGreatDoor

/- A property out of its element: a text. No condition. -/
namespace Go.Proofs.YtkpikpaepgknnaaGreatDoor
open Go Go.RowKit Go.Wk Go.Xt Go.Xe Go.Xw
/-- what prop answers -/
def PropQ (w : World) (p : Pr) (e : Ending) (w' : World) : Prop := ∃ A c, e = .returned (.tuple #[prV p (.slice A p.it.length c), .bool true]) ∧ EnsAt w' A p.it ∧ (∀ a, A = some a → w.heap.size ≤ a.block ∧ a.block < w'.heap.size) ∧ p.it.length ≤ c ∧ Below w.heap.size w w'
theorem str_data (S : ByteArray) : str S.data.toList = .string S := by unfold str; simp
theorem four_end {w w2 : World} {lo b1 : Nat} {v0 v1 v2 v3 u0 u1 u2 u3 : Value} (hX : Blk w2 b1 38 #[u0, u1, u2, u3]) (hlo : lo ≤ b1) (hB : Below lo w w2) :
    Blk ((((w2.setCell ⟨b1, 0, none⟩ v0).setCell ⟨b1, 1, none⟩ v1).setCell ⟨b1, 2, none⟩ v2).setCell ⟨b1, 3, none⟩ v3) b1 38 #[v0, v1, v2, v3] ∧ Below lo w ((((w2.setCell ⟨b1, 0, none⟩ v0).setCell ⟨b1, 1, none⟩ v1).setCell ⟨b1, 2, none⟩ v2).setCell ⟨b1, 3, none⟩ v3) :=
  ⟨(((hX.set_ 0 v0).set_ 1 v1).set_ 2 v2).set_ 3 v3, (((hB.setCell hlo _).setCell hlo _).setCell hlo _).setCell hlo _⟩
set_option maxHeartbeats 4000000 in
set_option maxRecDepth 100000 in
theorem prop_text {w : World} (sp nm L T : ByteArray) (Z : ByteArray) (a1 : Option Addr) (n1 c1 : Nat) (a2 : Option Addr) (n2 c2 : Nat) (ba bk : List Nat) (hA : AtX w (langN L.data.toList) (.slice a1 n1 c1) ba) (hK : KxAt w (txN T.data.toList) (.slice a2 n2 c2) bk) (hT : T.data.toList.length ≤ 100000) :
    Calls Tryz.prog 73 #[.agg #[.string sp, .string nm, .string Z, .slice a1 n1 c1, .slice a2 n2 c2]] w (PropQ w ⟨sp, nm, 0, [(L, T)]⟩) := by
  obtain ⟨Wa, hWa⟩ : ∃ W, W = w.alloc (.cells #[.string sp, .string nm, .string Z, .slice a1 n1 c1, .slice a2 n2 c2] 70) := ⟨_, rfl⟩
  obtain ⟨Wb, hWb⟩ : ∃ W, W = Wa.alloc (.cells #[.string ⟨#[]⟩, .string ⟨#[]⟩, .int .i64 0, .slice none 0 0] 38) := ⟨_, rfl⟩
  obtain ⟨W1, hW1⟩ : ∃ W, W = Wb.alloc (.cells #[.string sp, .string nm, .int .i64 0, .slice none 0 0] 38) := ⟨_, rfl⟩
  have za : Wa.heap.size = w.heap.size + 1 := by rw [hWa]; exact World.size_alloc _ _
  have zb : Wb.heap.size = w.heap.size + 2 := by rw [hWb, World.size_alloc, za]
  have z1 : W1.heap.size = w.heap.size + 3 := by rw [hW1, World.size_alloc, zb]
  have ka : Below w.heap.size w Wa := by rw [hWa]; exact (Below.refl _ _).alloc (Nat.le_refl _) _
  have kb : Below Wa.heap.size Wa Wb := by rw [hWb]; exact (Below.refl _ _).alloc (Nat.le_refl _) _
  have k1 : Below Wb.heap.size Wb W1 := by rw [hW1]; exact (Below.refl _ _).alloc (Nat.le_refl _) _
  have hb1 : Below w.heap.size w W1 := bthen ka (bthen kb k1)
  have hRa : Blk W1 w.heap.size 70 #[.string sp, .string nm, .string Z, .slice a1 n1 c1, .slice a2 n2 c2] := by
    have h : Blk Wa w.heap.size 70 #[.string sp, .string nm, .string Z, .slice a1 n1 c1, .slice a2 n2 c2] := by rw [hWa]; exact Blk.new w 70 _
    exact (h.below kb h.lt).below k1 (by omega)
  have hRb : Blk W1 (w.heap.size + 1) 38 #[.string ⟨#[]⟩, .string ⟨#[]⟩, .int .i64 0, .slice none 0 0] := by
    have h : Blk Wb Wa.heap.size 38 #[.string ⟨#[]⟩, .string ⟨#[]⟩, .int .i64 0, .slice none 0 0] := by rw [hWb]; exact Blk.new Wa 38 _
    rw [za] at h
    exact h.below k1 (by omega)
  have hR1 : Blk W1 (w.heap.size + 1 + 1) 38 #[.string sp, .string nm, .int .i64 0, .slice none 0 0] := by
    have h : Blk W1 Wb.heap.size 38 #[.string sp, .string nm, .int .i64 0, .slice none 0 0] := by rw [hW1]; exact Blk.new Wb 38 _
    rw [zb] at h; exact h
  have hltA := hA.lt
  have hltK := hK.lt
  have ci := xmp_item (w := W1) sp nm Z a1 n1 c1 a2 n2 c2 L.data.toList T.data.toList ba bk (hA.keep fun k hk => hb1.block k (hltA k hk)) (hK.keep fun k hk => hb1.block k (hltK k hk)) hT
  rw [str_data, str_data] at ci
  obtain ⟨b1, e1⟩ : ∃ b, b = w.heap.size + 1 := ⟨_, rfl⟩
  obtain ⟨b2, e2⟩ : ∃ b, b = b1 + 1 := ⟨_, rfl⟩
  rw [← e1] at hRb hR1
  rw [← e2] at hR1
  have g1 : ¬ (b1 = b2) := by omega
  have g2 : ¬ (b2 = b1) := by omega
  have r0 : W1.cell? ⟨w.heap.size, 0, none⟩ = some (.string sp) := hRa.cell 0
  have r1 : W1.cell? ⟨w.heap.size, 1, none⟩ = some (.string nm) := hRa.cell 1
  have r2 : W1.cell? ⟨w.heap.size, 2, none⟩ = some (.string Z) := hRa.cell 2
  have r3 : W1.cell? ⟨w.heap.size, 3, none⟩ = some (.slice a1 n1 c1) := hRa.cell 3
  have r4 : W1.cell? ⟨w.heap.size, 4, none⟩ = some (.slice a2 n2 c2) := hRa.cell 4
  have kr : ∀ w2, Below W1.heap.size W1 w2 → Blk w2 b1 38 #[.string ⟨#[]⟩, .string ⟨#[]⟩, .int .i64 0, .slice none 0 0] ∧ Blk w2 b2 38 #[.string sp, .string nm, .int .i64 0, .slice none 0 0] ∧ Below w.heap.size w w2 := fun w2 h => ⟨hRb.below h hRb.lt, hR1.below h hR1.lt, bthen hb1 h⟩
  replace hb1 := Lib.hid hb1
  replace kr := Lib.hid kr
  replace za := Lib.hid za
  replace zb := Lib.hid zb
  replace z1 := Lib.hid z1
  replace hltA := Lib.hid hltA
  replace hltK := Lib.hid hltK
  clear hRa hRb hR1 ka kb k1 hA hK hT
  go_enter Tryz.func73, Tryz.ntmps73
  go_upto_region 2 with (fail)
  rw [← hWa, ← hWb, ← hW1, ← e1, ← e2]
  replace hWa := Lib.hid hWa
  replace hWb := Lib.hid hWb
  replace hW1 := Lib.hid hW1
  replace e1 := Lib.hid e1
  replace e2 := Lib.hid e2
  go_wp2_with (go_at_call 104; (with_reducible refine ci.mono ?_); rintro e w2 ⟨rfl, hb2⟩; obtain ⟨hX, hY, hB2⟩ := kr.out w2 hb2; obtain ⟨a0, a1', a2', a3⟩ := blk4 hX; obtain ⟨d0, d1, d2, d3⟩ := blk4 hY; have hXl := hX.lt; have hYl := hY.lt; have y0 := hX.frozen 0; have y1 := hX.frozen 1; have y2 := hX.frozen 2; have y3 := hX.frozen 3; have u3 := hY.frozen 3; replace hb2 := Lib.hid hb2; replace hX := Lib.hid hX; replace hY := Lib.hid hY; replace hB2 := Lib.hid hB2)
  have e1 := e1.out
  have e2 := e2.out
  have hX' : Blk (w2.setCell ⟨b2, 3, none⟩ (.slice (some ⟨w2.heap.size + 1, 0, none⟩) 1 1)) b1 38 #[.string ⟨#[]⟩, .string ⟨#[]⟩, .int .i64 0, .slice none 0 0] := (Below.heap_setCell _ _ _ _ g1).trans hX.out
  obtain ⟨hV, hBV⟩ := four_end (v0 := .string sp) (v1 := .string nm) (v2 := .int .i64 0) (v3 := .slice (some ⟨w2.heap.size + 1, 0, none⟩) 1 1) hX' (lo := w.heap.size) (by omega) (hB2.out.setCell (p := ⟨b2, 3, none⟩) (by show w.heap.size ≤ b2; omega) _)
  have hsz : ((((((w2.setCell ⟨b2, 3, none⟩ (.slice (some ⟨w2.heap.size + 1, 0, none⟩) 1 1)).setCell ⟨b1, 0, none⟩ (.string sp)).setCell ⟨b1, 1, none⟩ (.string nm)).setCell ⟨b1, 2, none⟩ (.int .i64 0)).setCell ⟨b1, 3, none⟩ (.slice (some ⟨w2.heap.size + 1, 0, none⟩) 1 1))).heap.size = w2.heap.size := by simp
  obtain ⟨V, hVe⟩ : ∃ V, V = ((((((w2.setCell ⟨b2, 3, none⟩ (.slice (some ⟨w2.heap.size + 1, 0, none⟩) 1 1)).setCell ⟨b1, 0, none⟩ (.string sp)).setCell ⟨b1, 1, none⟩ (.string nm)).setCell ⟨b1, 2, none⟩ (.int .i64 0)).setCell ⟨b1, 3, none⟩ (.slice (some ⟨w2.heap.size + 1, 0, none⟩) 1 1))) := ⟨_, rfl⟩
  rw [← hVe] at hV hBV hsz ⊢
  have hw2 := hB2.out.size
  have hBA := (hBV.alloc (o := .cells #[.string L, .string T] 55) (by omega)).alloc (o := .cells #[.string L, .string T] 55) (by rw [World.size_alloc]; omega)
  have hVA := hV.below (((Below.refl _ _).alloc (Nat.le_refl _) (.cells #[.string L, .string T] 55)).alloc (by rw [World.size_alloc]; omega) (.cells #[.string L, .string T] 55)) hV.lt
  have hN : Blk ((V.alloc (.cells #[.string L, .string T] 55)).alloc (.cells #[.string L, .string T] 55)) (w2.heap.size + 1) 55 #[.string L, .string T] := by
    have := Blk.new (V.alloc (.cells #[.string L, .string T] 55)) 55 #[.string L, .string T]
    rw [World.size_alloc, hsz] at this
    exact this
  obtain ⟨q0, q1, q2, q3⟩ := blk4 hVA
  refine bodyPost_ret (v := .tuple #[.agg #[.string sp, .string nm, .int .i64 0, .slice (some ⟨w2.heap.size + 1, 0, none⟩) 1 1], .bool true]) (by simp [results, Tryz.results73, go_sem, q0, q1, q2, q3]) rfl ⟨some ⟨w2.heap.size + 1, 0, none⟩, 1, rfl, fun _ => ⟨w2.heap.size + 1, 0, rfl, fun i hi => ?_⟩, fun a ha => ?_, Nat.le_refl _, hBA⟩
  · have h0 : i = 0 := by simp at hi; omega
    subst h0
    exact ⟨hN.cell 0, hN.cell 1⟩
  · cases ha
    exact ⟨by show _ ≤ w2.heap.size + 1; omega, hN.lt⟩
end Go.Proofs.YtkpikpaepgknnaaGreatDoor

/- A language's mark; one thing behind a row. No condition. -/
namespace Go.Proofs.YtkpikpaepgknnaaGreatDoor
open Go Go.RowKit Go.Wk Go.Xt Go.Xe Go.Xw
theorem ref_langMark {w : World} (L : ByteArray) (hL : L.size ≤ 100) : Calls Tryz.prog 30 #[.string L] w fun e w' => ∃ R : ByteArray, e = .returned (.string R) ∧ R.data.toList = langL L.data.toList ∧ R.size ≤ 200 ∧ w = w' := by
  cases h : (L.toList == []) with
  | true =>
    have h2 : L.data.toList = [] := by rw [← Lib.toList_data]; simpa using h
    go_enter Tryz.func30, Tryz.ntmps30
    go_wp2
    go_ret
    exact ⟨_, rfl, by rw [h2]; rfl, by decide, rfl⟩
  | false =>
    have h2 : ¬ L.data.toList = [] := by rw [← Lib.toList_data]; simpa using h
    go_enter Tryz.func30, Tryz.ntmps30
    go_wp2
    go_ret
    refine ⟨_, rfl, ?_, ?_, rfl⟩
    · unfold langL; rw [if_neg h2]; simp
    · simp only [ByteArray.size_append]; show 11 + _ + 1 ≤ 200; omega
/-- one thing behind a row of one's own -/
theorem app_one {w : World} {ops : Array Oper} {rest : List Oper} {o : Oper} {a : Act} {Q : Exit → Act → World → Prop} (t e size bytes : Nat) (i : TypeInfo) (z : Value) (ht : Tryz.prog.underlying t = some (.slice e)) (hi : Tryz.prog.info? e = some i) (hz : i.zero = some z) (hsize : i.size = size) (hby : i.bytes = bytes) (hzs : z.cells.size = size) (hsz : 0 < size) (hb100 : bytes ≤ 100) (hs100 : size ≤ 100)
    (hgd : o.guard = none) (s x : Operand) (ho : o.op = .call { callee := .builtin .append, args := #[s, x], argTypes := #[t, t] }) (B : Nat) (v : Value) (n : Nat) (xs : List Value) (hs : a.eval s = v) (hown : w.ownsRow B e size v n xs)
    (q : Nat) (cs : Array Value) (hx : a.eval x = .slice (some ⟨q, 0, none⟩) 1 1) (hq : Blk w q e cs) (hcs : cs.size = size) (hone : ∀ u ∈ cs.toList, u.oneCell' = true) (hn : n ≤ 1000000) (hB : B ≤ w.heap.size)
    (h : ∀ v' w', w'.ownsRow B e size v' (n + 1) (xs ++ cs.toList) → Below B w w' → wpList Tryz.prog ops Q rest (a.put o.dst v') w') : wpList Tryz.prog ops Q (o :: rest) a w := by
  refine wpList_append_own_at w hgd s x t ho B e i z size bytes ht hi hz hsize hby hzs hsz v n xs hs hown ⟨q, 0, none⟩ 1 1 cs.toList hx (by rw [Array.length_toList, hcs, Nat.one_mul]) ?_ hone (by unfold maxLen; omega) ?_ hB ?_
  · intro j u hj
    rw [add_none, Nat.zero_add, hq.cell j, ← Array.getElem?_toList]; exact hj
  · calc (n + 1) * bytes ≤ 1000001 * 100 := Nat.mul_le_mul (by omega) hb100
      _ ≤ _ := by decide
  · intro v' w' h1 h2 _ _
    exact h v' w' h1 ((Below.refl _ _ |>.mono hB).grown h2 hB fun k hk => (hown.lt k hk).1)
theorem info43 : ∃ i, Tryz.prog.info? 43 = some i ∧ i.zero = some (.agg #[.string ⟨#[]⟩, .string ⟨#[]⟩, .int .i64 0, .slice none 0 0]) ∧ i.size = 4 ∧ i.bytes = 64 := ⟨Tryz.t43, by kernel_rfl, by kernel_rfl, by kernel_rfl, by kernel_rfl⟩
theorem info38 : ∃ i, Tryz.prog.info? 38 = some i ∧ i.zero = some (.agg #[.string ⟨#[]⟩, .string ⟨#[]⟩, .int .i64 0, .slice none 0 0]) ∧ i.size = 4 ∧ i.bytes = 64 := ⟨Tryz.t38, by kernel_rfl, by kernel_rfl, by kernel_rfl, by kernel_rfl⟩
theorem info55 : ∃ i, Tryz.prog.info? 55 = some i ∧ i.zero = some (.agg #[.string ⟨#[]⟩, .string ⟨#[]⟩]) ∧ i.size = 2 ∧ i.bytes = 32 := ⟨Tryz.t55, by kernel_rfl, by kernel_rfl, by kernel_rfl, by kernel_rfl⟩
theorem flat_snoc (l : List PA) (x : PA) : flatP (l ++ [x]) = flatP l ++ prs x := by unfold flatP; simp
theorem prs_one (x : PA) : ∀ u ∈ (prs x).toArray.toList, u.oneCell' = true := by
  intro u hu
  unfold prs at hu
  simp at hu
  rcases hu with rfl | rfl | rfl | rfl <;> rfl
theorem app_prs {w : World} {ops : Array Oper} {rest : List Oper} {o : Oper} {a : Act} {Q : Exit → Act → World → Prop} (hgd : o.guard = none) (s x : Operand) (ho : o.op = .call { callee := .builtin .append, args := #[s, x], argTypes := #[22, 22] }) (B : Nat) (v : Value) (l : List PA) (hs : a.eval s = v) (hown : w.ownsRow B 43 4 v l.length (flatP l))
    (q : Nat) (y : PA) (hx : a.eval x = .slice (some ⟨q, 0, none⟩) 1 1) (hq : Blk w q 43 (prs y).toArray) (hn : l.length ≤ 1000000) (hB : B ≤ w.heap.size)
    (h : ∀ A n c w', w'.ownsRow B 43 4 (.slice A n c) (l ++ [y]).length (flatP (l ++ [y])) → Below B w w' → wpList Tryz.prog ops Q rest (a.put o.dst (.slice A n c)) w') : wpList Tryz.prog ops Q (o :: rest) a w := by
  obtain ⟨i0, hi, hz0, hz1, hz2⟩ := info43
  refine app_one 22 43 4 64 i0 _ Tryz.underlying22 hi hz0 hz1 hz2 rfl (by decide) (by decide) (by decide) hgd s x ho B v _ _ hs hown q _ hx hq rfl (prs_one y) hn hB ?_
  intro v' w' h1 h2
  rw [show l.length + 1 = (l ++ [y]).length by simp, show flatP l ++ (prs y).toArray.toList = flatP (l ++ [y]) from (flat_snoc l y).symm] at h1
  have hsl : ∃ a m c, v' = .slice a m c := by rcases h1.2 with ⟨rfl, _⟩ | ⟨_, _, _, rfl, _⟩ <;> exact ⟨_, _, _, rfl⟩
  obtain ⟨A, n, c, rfl⟩ := hsl
  exact h A n c w' h1 h2
theorem row_out43 {w : World} {B : Nat} {v : Value} {l : List PA} (h : w.ownsRow B 43 4 v l.length (flatP l)) : ∃ A g cap, v = .slice A l.length cap ∧ (0 < l.length → A = some ⟨g, 0, none⟩) ∧ l.length ≤ cap ∧ CellsP w g l := by
  rcases h.2 with ⟨rfl, h0⟩ | ⟨g, cap, cur, rfl, _, hh, hnc, _, _, htk⟩
  · have : l = [] := List.eq_nil_of_length_eq_zero h0
    subst this
    exact ⟨none, 0, 0, rfl, fun h => by simp at h, Nat.le_refl _, fun i hi => by simp at hi⟩
  · refine ⟨_, g, cap, rfl, fun _ => rfl, hnc, fun i hi => ?_⟩
    have hc : ∀ j u, (prs l[i])[j]? = some u → j < 4 → w.cell? ⟨g, i * 4 + j, none⟩ = some u := fun j u hu hj => by
      rw [cell_of_row w g _ cur 43 (0, 0) hh, ← Array.getElem?_toList]
      have h1 := flat_at l i j hi hj
      rw [hu, ← htk, List.getElem?_take, if_pos (by omega)] at h1
      exact h1
    exact ⟨hc 0 _ rfl (by omega), hc 1 _ rfl (by omega), hc 2 _ rfl (by omega), hc 3 _ rfl (by omega)⟩
end Go.Proofs.YtkpikpaepgknnaaGreatDoor

/- A property put into a list, by the document's own answer. No condition. -/
namespace Go.Proofs.YtkpikpaepgknnaaGreatDoor
open Go Go.RowKit Go.Wk Go.Xt Go.Xe Go.Xw
attribute [local go_sem ↓] Go.wp_at_zero Go.wp_at_succ
theorem drewN_below' (w : World) (n : Nat) : Below w.heap.size w (w.drewN n) := ⟨rfl, rfl, rfl, Nat.le_refl _, fun _ _ => rfl⟩
def insL (l : List PA) (x : PA) (P : Nat) : List PA := l.take P ++ x :: l.drop P
def outL (l : List PA) (x : PA) (P i : Nat) : List PA := if i ≤ P then l.take i else (insL l x P).take (i + 1)
theorem out_lt {l : List PA} {x : PA} {P i : Nat} (h : i < P) (hi : i < l.length) : outL l x P i ++ [l[i]] = outL l x P (i + 1) := by
  unfold outL; rw [if_pos (by omega), if_pos (by omega), List.take_succ_eq_append_getElem hi]
theorem ins_at {l : List PA} {x : PA} {P i : Nat} (hP : P ≤ i) (hi : i < l.length) : (insL l x P).take (i + 1) ++ [l[i]] = (insL l x P).take (i + 2) := by
  have hl : (insL l x P).length = l.length + 1 := by unfold insL; rw [List.length_append, List.length_cons, List.length_take, List.length_drop]; omega
  rw [List.take_succ_eq_append_getElem (show i + 1 < (insL l x P).length by omega)]
  congr 2
  unfold insL
  rw [List.getElem_append_right (by rw [List.length_take]; omega)]
  have e : i + 1 - (l.take P).length = (i - P) + 1 := by rw [List.length_take]; omega
  simp only [e, List.getElem_cons_succ, List.getElem_drop]
  congr 1; omega
theorem out_gt {l : List PA} {x : PA} {P i : Nat} (h : P < i) (hi : i < l.length) : outL l x P i ++ [l[i]] = outL l x P (i + 1) := by
  unfold outL; rw [if_neg (by omega), if_neg (by omega), ins_at (by omega) hi]
theorem out_x {l : List PA} {x : PA} {P : Nat} (h : P ≤ l.length) : outL l x P P ++ [x] = (insL l x P).take (P + 1) := by
  unfold outL insL
  rw [if_pos (Nat.le_refl _)]
  have e : P + 1 = (l.take P).length + 1 := by rw [List.length_take]; omega
  conv => rhs; rw [e, List.take_length_add_append]
  simp
theorem out_eq {l : List PA} {x : PA} {P : Nat} (hi : P < l.length) : (outL l x P P ++ [x]) ++ [l[P]] = outL l x P (P + 1) := by
  rw [out_x (by omega), ins_at (Nat.le_refl _) hi]; unfold outL; rw [if_neg (by omega)]
theorem out_end {l : List PA} {x : PA} {P : Nat} (h : P < l.length) : outL l x P l.length = insL l x P := by
  unfold outL; rw [if_neg (by omega)]
  have hl : (insL l x P).length = l.length + 1 := by unfold insL; rw [List.length_append, List.length_cons, List.length_take, List.length_drop]; omega
  rw [← hl, List.take_length]
theorem out_end2 {l : List PA} {x : PA} : outL l x l.length l.length ++ [x] = insL l x l.length := by
  unfold outL insL; simp
theorem out_len {l : List PA} {x : PA} {P i : Nat} : (outL l x P i).length ≤ l.length + 1 := by
  unfold outL; split
  · rw [List.length_take]; omega
  · rw [List.length_take]; unfold insL; rw [List.length_append, List.length_cons, List.length_take, List.length_drop]; omega
theorem lt_case {p q : Pr} (h : ltP p q = true) : lt p.sp.toList q.sp.toList = true ∨ (p.sp.toList = q.sp.toList ∧ lt p.nm.toList q.nm.toList = true) := by
  unfold ltP at h
  simp only [Bool.or_eq_true, Bool.and_eq_true, beq_iff_eq] at h
  exact h
theorem lt_ne {a b : Xw.Bs} (h : lt a b = true) : (a == b) = false ∧ (b == a) = false ∧ lt b a = false := by
  refine ⟨?_, ?_, lt_asym h⟩
  · rw [beq_eq_false_iff_ne]; rintro rfl; rw [lt_irr] at h; cases h
  · rw [beq_eq_false_iff_ne]; rintro rfl; rw [lt_irr] at h; cases h
theorem row_box {A : Option Addr} {g n : Nat} {w : World} {o : List PA} (e : o.length = n) : True := trivial
set_option maxHeartbeats 16000000 in
set_option maxRecDepth 100000 in
theorem ref_add {w : World} (A : Option Addr) (g c : Nat) (l : List PA) (hA : 0 < l.length → A = some ⟨g, 0, none⟩) (hn : l.length ≤ 20) (hcp : l.length ≤ c) (hc : CellsP w g l) (hs : Sorted (pl l)) (x : PA) :
    Calls Tryz.prog 29 #[.slice A l.length c, prV x.1 (.slice x.2.1 x.1.it.length x.2.2)] w fun e w' => Below w.heap.size w w' ∧ ∃ A' n' c', e = .returned (.tuple #[.slice A' n' c', .bool (!(hasP x.1 (pl l)) && !(x.1.sp.toList == rdfL))]) ∧
      (hasP x.1 (pl l) = false → n' = (insL l x (posP x.1 (pl l))).length ∧ n' ≤ c' ∧ ∃ g', A' = some ⟨g', 0, none⟩ ∧ CellsP w' g' (insL l x (posP x.1 (pl l)))) := by
  obtain ⟨W1, hW1⟩ : ∃ W, W = w.alloc (.cells #[.string x.1.sp, .string x.1.nm, .int .i64 x.1.kd, .slice x.2.1 x.1.it.length x.2.2] 43) := ⟨_, rfl⟩
  have hb1 : Below w.heap.size w W1 := by rw [hW1]; exact (Below.refl _ _).alloc (Nat.le_refl _) _
  have hR : Blk W1 w.heap.size 43 #[.string x.1.sp, .string x.1.nm, .int .i64 x.1.kd, .slice x.2.1 x.1.it.length x.2.2] := by rw [hW1]; exact Blk.new w 43 _
  have kx := fun W (hW : Below W1.heap.size W1 W) => blk4 (hR.below hW hR.lt)
  have kc := fun W (hW : Below W1.heap.size W1 W) => hc.below (bthen hb1 hW)
  obtain ⟨n, hnn⟩ : ∃ n, n = l.length := ⟨_, rfl⟩
  obtain ⟨P, hP⟩ : ∃ P, P = posP x.1 (pl l) := ⟨_, rfl⟩
  obtain ⟨Z, hZ⟩ : ∃ Z, Z = hasP x.1 (pl l) := ⟨_, rfl⟩
  have hl : (pl l).length = n := by rw [pl_len]; exact hnn.symm
  have hPn : P ≤ n := by rw [hP, ← hl]; exact pos_le _ _
  have mid1 : ∀ k (hk : k < l.length), k < P → ltP l[k].1 x.1 = true := fun k hk h => by
    obtain ⟨h2, h3⟩ := pos_lt (p := x.1) (l := pl l) k (by rw [← hP]; exact h)
    rw [pl_at hk] at h3; exact h3
  have mid2 : Z = false → ∀ k (hk : k < l.length), P ≤ k → ltP x.1 l[k].1 = true := fun hz k hk h => by
    have h1 := pos_ge hs (i := k) (by rw [← hP]; exact h) (by rw [pl_len]; exact hk)
    rw [pl_at hk] at h1
    have h2 : eqP l[k].1 x.1 = false := by
      rw [hZ] at hz
      have := (List.any_eq_false.1 hz) l[k].1 (by unfold pl; exact List.mem_map_of_mem (List.getElem_mem hk))
      simpa using this
    rcases ltP_tri l[k].1 x.1 with h3 | h3 | h3
    · rw [h1] at h3; cases h3
    · rw [h2] at h3; cases h3
    · exact h3
  have mid3 : Z = true → ∃ hk : P < l.length, eqP l[P].1 x.1 = true := fun hz => by
    rw [hZ, has_at hs] at hz
    obtain ⟨h, h3⟩ := hz
    simp only [← hP] at h3
    have hk : P < l.length := by rw [← pl_len l, hP]; exact h
    rw [pl_at hk] at h3; exact ⟨hk, h3⟩
  obtain ⟨RDF, hRDF⟩ : ∃ b, b = (x.1.sp.toList == rdfL) := ⟨_, rfl⟩
  rw [← hnn, ← hP, ← hZ, ← hRDF]
  replace hRDF := Lib.hid hRDF
  rw [← hnn] at hn hcp hA
  obtain ⟨r0, r1, r2, r3⟩ := blk4 hR
  unfold prV
  clear hs hc hP hZ hl
  replace hb1 := Lib.hid hb1
  replace kx := Lib.hid kx
  replace kc := Lib.hid kc
  replace hnn := Lib.hid hnn
  replace mid1 := Lib.hid mid1
  replace mid2 := Lib.hid mid2
  replace mid3 := Lib.hid mid3
  replace hA := Lib.hid hA
  replace hPn := Lib.hid hPn
  clear hR r0 r1 r2 r3
  go_enter Tryz.func29, Tryz.ntmps29
  go_upto_region 1 with (fail)
  rw [← hW1]
  replace hW1 := Lib.hid hW1
  go_wp2
  go_loopw [6, 7, 8] (fun s6 s7 s8 wr => ∃ (i : Nat) (o : List PA), i ≤ n ∧ s8 = .int .i64 i ∧ s7 = .bool (decide (P < i)) ∧ (∃ a m c, s6 = .slice a m c) ∧ o = outL l x P i ∧ wr.ownsRow W1.heap.size 43 4 s6 o.length (flatP o) ∧ (Z = true → i ≤ P) ∧ Below W1.heap.size W1 wr) (fun _ _ s8 _ => n - (RowKit.intOf s8).toNat)
  case atStart => exact ⟨0, [], Nat.zero_le _, rfl, rfl, ⟨_, _, _, rfl⟩, by unfold outL; rw [if_pos (Nat.zero_le _)]; rfl, World.ownsRow_nil _ _ _ _, fun _ => Nat.zero_le _, Below.refl _ _⟩
  case round =>
    obtain ⟨i, o, hi, rfl, rfl, ⟨a6, m6, c6, rfl⟩, ho, hO, hzi, hB⟩ := hrel
    have hol : o.length ≤ 21 := by rw [ho]; have := @out_len l x P i; have := hnn.out; omega
    obtain ⟨u0, u1, u2, u3⟩ := kx.out wr hB
    by_cases hin : i < n
    · have hil : i < l.length := by rw [← hnn.out]; exact hin
      have hAe := hA.out (by omega)
      subst hAe
      have kq := fun W (hW : Below W1.heap.size W1 W) => kc.out W hW i hil
      have m1 := mid1.out i hil
      have m2 := fun hz => mid2.out hz i hil
      have m3 : Z = true → i = P → eqP l[i].1 x.1 = true := fun hz h => by obtain ⟨_, h3⟩ := mid3.out hz; subst h; exact h3
      have t1 : i < P → o ++ [l[i]] = outL l x P (i + 1) := fun h => by rw [ho]; exact out_lt h hil
      have t2 : i = P → (o ++ [x]) ++ [l[i]] = outL l x P (i + 1) := fun h => by subst h; rw [ho]; exact out_eq hil
      have t3 : P < i → o ++ [l[i]] = outL l x P (i + 1) := fun h => by rw [ho]; exact out_gt h hil
      generalize l[i] = y at kq m1 m2 m3 t1 t2 t3
      obtain ⟨x0, x1, x2, x3⟩ := kq wr hB
      replace kq := Lib.hid kq
      replace t1 := Lib.hid t1
      replace t2 := Lib.hid t2
      replace t3 := Lib.hid t3
      replace hO := Lib.hid hO
      replace hB := Lib.hid hB
      replace hol := Lib.hid hol
      replace ho := Lib.hid ho
      replace hzi := Lib.hid hzi
      rcases Nat.lt_trichotomy i P with h | h | h
      · rcases lt_case (m1 h) with hk | ⟨hk1, hk⟩
        · obtain ⟨e1, e3, b1⟩ := lt_ne hk
          have b1 : Op.bytesLess x.1.sp.toList y.1.sp.toList = false := b1
          clear hk
          have hdp : decide (P < i) = false := by simp; omega
          rw [hdp]
          clear hdp m1 m2 m3
          go_upto_region 6 with (fail)
          go_quiet (fail)
          obtain ⟨wq, hwq⟩ : ∃ W, W = wr.drewN nq := ⟨_, rfl⟩
          rw [← hwq]
          have hBwq : Below wr.heap.size wr wq := by rw [hwq]; exact drewN_below' _ _
          obtain ⟨u0, u1, u2, u3⟩ := kx.out wq (bthen hB.out hBwq)
          obtain ⟨x0, x1, x2, x3⟩ := kq.out wq (bthen hB.out hBwq)
          replace hwq := Lib.hid hwq
          replace hBwq := Lib.hid hBwq
          have hB2 := bthen hB.out hBwq.out
          replace hB2 := Lib.hid hB2
          go_upto_region 8 with (fail)
          go_quiet (fail)
          obtain ⟨wz, hwz⟩ : ∃ W, W = wq.drewN nq := ⟨_, rfl⟩
          rw [← hwz]
          have hBwz : Below wq.heap.size wq wz := by rw [hwz]; exact drewN_below' _ _
          obtain ⟨u0, u1, u2, u3⟩ := kx.out wz (bthen hB2.out hBwz)
          obtain ⟨x0, x1, x2, x3⟩ := kq.out wz (bthen hB2.out hBwz)
          replace hwz := Lib.hid hwz
          replace hBwz := Lib.hid hBwz
          have hB3 := bthen hB2.out hBwz.out
          have hO3 := row_kept hO.out (bthen hBwq.out hBwz.out)
          clear u0 u1 u2 u3
          have hbA1 := (Below.refl wz.heap.size wz).alloc (Nat.le_refl _) (.cells #[.string y.1.sp, .string y.1.nm, .int .i64 y.1.kd, .slice y.2.1 y.1.it.length y.2.2] 43)
          have hO1 := row_kept hO3 hbA1
          have hQ1 := Blk.new wz 43 #[.string y.1.sp, .string y.1.nm, .int .i64 y.1.kd, .slice y.2.1 y.1.it.length y.2.2]
          have hD1 := bthen hB3 hbA1
          have hz1 := hD1.size
          replace hO1 := Lib.hid hO1
          replace hQ1 := Lib.hid hQ1
          replace hD1 := Lib.hid hD1
          clear hbA1
          clear hO3 hB3
          go_wp2_with (refine app_prs rfl _ _ rfl W1.heap.size _ o rfl hO1.out wz.heap.size y rfl hQ1.out (by have := hol.out; omega) hz1 ?_; intro a1 n1 c1 v1 hr1 hb1; replace hr1 := Lib.hid hr1; replace hb1 := Lib.hid hb1)
          go_roundw
          case rel => exact ⟨i + 1, _, by omega, by go_num, by congr 1; simp; omega, ⟨_, _, _, rfl⟩, t1.out h, hr1.out, fun hz => by have := hzi.out hz; omega, hD1.out.trans hb1.out⟩
          case measure => simp [RowKit.intOf]; omega
        · have e1 : (y.1.sp.toList == x.1.sp.toList) = true := by rw [hk1]; simp
          have e3 : (x.1.sp.toList == y.1.sp.toList) = true := by rw [hk1]; simp
          have b1 : Op.bytesLess x.1.sp.toList y.1.sp.toList = false := by rw [hk1]; exact lt_irr _
          obtain ⟨e2, _, b2⟩ := lt_ne hk
          have b2 : Op.bytesLess x.1.nm.toList y.1.nm.toList = false := b2
          clear hk hk1
          have hdp : decide (P < i) = false := by simp; omega
          rw [hdp]
          clear hdp m1 m2 m3
          go_upto_region 6 with (fail)
          go_quiet (fail)
          obtain ⟨wq, hwq⟩ : ∃ W, W = wr.drewN nq := ⟨_, rfl⟩
          rw [← hwq]
          have hBwq : Below wr.heap.size wr wq := by rw [hwq]; exact drewN_below' _ _
          obtain ⟨u0, u1, u2, u3⟩ := kx.out wq (bthen hB.out hBwq)
          obtain ⟨x0, x1, x2, x3⟩ := kq.out wq (bthen hB.out hBwq)
          replace hwq := Lib.hid hwq
          replace hBwq := Lib.hid hBwq
          have hB2 := bthen hB.out hBwq.out
          replace hB2 := Lib.hid hB2
          go_upto_region 8 with (fail)
          go_quiet (fail)
          obtain ⟨wz, hwz⟩ : ∃ W, W = wq.drewN nq := ⟨_, rfl⟩
          rw [← hwz]
          have hBwz : Below wq.heap.size wq wz := by rw [hwz]; exact drewN_below' _ _
          obtain ⟨u0, u1, u2, u3⟩ := kx.out wz (bthen hB2.out hBwz)
          obtain ⟨x0, x1, x2, x3⟩ := kq.out wz (bthen hB2.out hBwz)
          replace hwz := Lib.hid hwz
          replace hBwz := Lib.hid hBwz
          have hB3 := bthen hB2.out hBwz.out
          have hO3 := row_kept hO.out (bthen hBwq.out hBwz.out)
          clear u0 u1 u2 u3
          have hbA1 := (Below.refl wz.heap.size wz).alloc (Nat.le_refl _) (.cells #[.string y.1.sp, .string y.1.nm, .int .i64 y.1.kd, .slice y.2.1 y.1.it.length y.2.2] 43)
          have hO1 := row_kept hO3 hbA1
          have hQ1 := Blk.new wz 43 #[.string y.1.sp, .string y.1.nm, .int .i64 y.1.kd, .slice y.2.1 y.1.it.length y.2.2]
          have hD1 := bthen hB3 hbA1
          have hz1 := hD1.size
          replace hO1 := Lib.hid hO1
          replace hQ1 := Lib.hid hQ1
          replace hD1 := Lib.hid hD1
          clear hbA1
          clear hO3 hB3
          go_wp2_with (refine app_prs rfl _ _ rfl W1.heap.size _ o rfl hO1.out wz.heap.size y rfl hQ1.out (by have := hol.out; omega) hz1 ?_; intro a1 n1 c1 v1 hr1 hb1; replace hr1 := Lib.hid hr1; replace hb1 := Lib.hid hb1)
          go_roundw
          case rel => exact ⟨i + 1, _, by omega, by go_num, by congr 1; simp; omega, ⟨_, _, _, rfl⟩, t1.out h, hr1.out, fun hz => by have := hzi.out hz; omega, hD1.out.trans hb1.out⟩
          case measure => simp [RowKit.intOf]; omega
      · subst h
        cases hZf : Z with
        | true =>
          have m3' := m3 hZf rfl
          unfold eqP Pr.s Pr.n at m3'
          rw [Bool.and_eq_true] at m3'
          obtain ⟨e1, e2⟩ := m3'
          clear m1 m2 m3
          go_upto_region 6 with (fail)
          go_quiet (fail)
          obtain ⟨wq, hwq⟩ : ∃ W, W = wr.drewN nq := ⟨_, rfl⟩
          rw [← hwq]
          have hBwq : Below wr.heap.size wr wq := by rw [hwq]; exact drewN_below' _ _
          obtain ⟨u0, u1, u2, u3⟩ := kx.out wq (bthen hB.out hBwq)
          obtain ⟨x0, x1, x2, x3⟩ := kq.out wq (bthen hB.out hBwq)
          replace hwq := Lib.hid hwq
          replace hBwq := Lib.hid hBwq
          have hB2 := bthen hB.out hBwq.out
          have hB3 := bthen hb1.out hB2
          replace hB3 := Lib.hid hB3
          clear hB2
          go_wp2
          go_ret2
          first | exact ⟨hB3.out, _, _, _, rfl, fun h => by cases h⟩ | exact ⟨hB3.out, _, _, _, rfl⟩
        | false =>
          rcases lt_case (m2 hZf (by omega)) with hk | ⟨hk1, hk⟩
          · obtain ⟨e3, e1, _⟩ := lt_ne hk
            have b1 : Op.bytesLess x.1.sp.toList y.1.sp.toList = true := hk
            clear hk
            have hdp : ∀ z : Nat, decide (z < z) = false := fun z => by simp
            rw [hdp]
            clear hdp m1 m2 m3
            go_upto_region 6 with (fail)
            go_quiet (fail)
            obtain ⟨wq, hwq⟩ : ∃ W, W = wr.drewN nq := ⟨_, rfl⟩
            rw [← hwq]
            have hBwq : Below wr.heap.size wr wq := by rw [hwq]; exact drewN_below' _ _
            obtain ⟨u0, u1, u2, u3⟩ := kx.out wq (bthen hB.out hBwq)
            obtain ⟨x0, x1, x2, x3⟩ := kq.out wq (bthen hB.out hBwq)
            replace hwq := Lib.hid hwq
            replace hBwq := Lib.hid hBwq
            have hB2 := bthen hB.out hBwq.out
            replace hB2 := Lib.hid hB2
            go_upto_region 8 with (fail)
            go_quiet (fail)
            obtain ⟨wz, hwz⟩ : ∃ W, W = wq.drewN nq := ⟨_, rfl⟩
            rw [← hwz]
            have hBwz : Below wq.heap.size wq wz := by rw [hwz]; exact drewN_below' _ _
            obtain ⟨u0, u1, u2, u3⟩ := kx.out wz (bthen hB2.out hBwz)
            obtain ⟨x0, x1, x2, x3⟩ := kq.out wz (bthen hB2.out hBwz)
            replace hwz := Lib.hid hwz
            replace hBwz := Lib.hid hBwz
            have hB3 := bthen hB2.out hBwz.out
            have hO3 := row_kept hO.out (bthen hBwq.out hBwz.out)
            have hbA1 := (Below.refl wz.heap.size wz).alloc (Nat.le_refl _) (.cells #[.string x.1.sp, .string x.1.nm, .int .i64 x.1.kd, .slice x.2.1 x.1.it.length x.2.2] 43)
            have hO1 := row_kept hO3 hbA1
            have hQ1 := Blk.new wz 43 #[.string x.1.sp, .string x.1.nm, .int .i64 x.1.kd, .slice x.2.1 x.1.it.length x.2.2]
            have hD1 := bthen hB3 hbA1
            have hz1 := hD1.size
            replace hO1 := Lib.hid hO1
            replace hQ1 := Lib.hid hQ1
            replace hD1 := Lib.hid hD1
            clear hbA1
            clear hO3 hB3
            go_upto_region 10 with (refine app_prs rfl _ _ rfl W1.heap.size _ o rfl hO1.out wz.heap.size x rfl hQ1.out (by have := hol.out; omega) hz1 ?_; intro a1 n1 c1 v1 hr1 hb1; replace hr1 := Lib.hid hr1; replace hb1 := Lib.hid hb1)
            have hB4 := hD1.out.trans hb1.out
            obtain ⟨x0, x1, x2, x3⟩ := kq.out v1 hB4
            have hol2 : (o ++ [x]).length ≤ 22 := by have := hol.out; rw [List.length_append, List.length_singleton]; omega
            replace hol2 := Lib.hid hol2
            have hbA2 := (Below.refl v1.heap.size v1).alloc (Nat.le_refl _) (.cells #[.string y.1.sp, .string y.1.nm, .int .i64 y.1.kd, .slice y.2.1 y.1.it.length y.2.2] 43)
            have hO2 := row_kept hr1.out hbA2
            have hQ2 := Blk.new v1 43 #[.string y.1.sp, .string y.1.nm, .int .i64 y.1.kd, .slice y.2.1 y.1.it.length y.2.2]
            have hD2 := bthen hB4 hbA2
            have hz2 := hD2.size
            replace hO2 := Lib.hid hO2
            replace hQ2 := Lib.hid hQ2
            replace hD2 := Lib.hid hD2
            clear hbA2
            clear hB4
            go_wp2_with (refine app_prs rfl _ _ rfl W1.heap.size _ (o ++ [x]) rfl hO2.out v1.heap.size y rfl hQ2.out (by have := hol2.out; omega) hz2 ?_; intro a2 n2 c2 v2 hr2 hb2; replace hr2 := Lib.hid hr2; replace hb2 := Lib.hid hb2)
            go_roundw
            case rel => exact ⟨_ + 1, _, by omega, by go_num, by congr 1; simp, ⟨_, _, _, rfl⟩, t2.out rfl, hr2.out, (fun hz => by cases hz), hD2.out.trans hb2.out⟩
            case measure => simp [RowKit.intOf]; omega
          · have e1 : (y.1.sp.toList == x.1.sp.toList) = true := by rw [hk1]; simp
            have e3 : (x.1.sp.toList == y.1.sp.toList) = true := by rw [hk1]; simp
            have b1 : Op.bytesLess x.1.sp.toList y.1.sp.toList = false := by rw [hk1]; exact lt_irr _
            obtain ⟨_, e2, _⟩ := lt_ne hk
            have b2 : Op.bytesLess x.1.nm.toList y.1.nm.toList = true := hk
            clear hk hk1
            have hdp : ∀ z : Nat, decide (z < z) = false := fun z => by simp
            rw [hdp]
            clear hdp m1 m2 m3
            go_upto_region 6 with (fail)
            go_quiet (fail)
            obtain ⟨wq, hwq⟩ : ∃ W, W = wr.drewN nq := ⟨_, rfl⟩
            rw [← hwq]
            have hBwq : Below wr.heap.size wr wq := by rw [hwq]; exact drewN_below' _ _
            obtain ⟨u0, u1, u2, u3⟩ := kx.out wq (bthen hB.out hBwq)
            obtain ⟨x0, x1, x2, x3⟩ := kq.out wq (bthen hB.out hBwq)
            replace hwq := Lib.hid hwq
            replace hBwq := Lib.hid hBwq
            have hB2 := bthen hB.out hBwq.out
            replace hB2 := Lib.hid hB2
            go_upto_region 8 with (fail)
            go_quiet (fail)
            obtain ⟨wz, hwz⟩ : ∃ W, W = wq.drewN nq := ⟨_, rfl⟩
            rw [← hwz]
            have hBwz : Below wq.heap.size wq wz := by rw [hwz]; exact drewN_below' _ _
            obtain ⟨u0, u1, u2, u3⟩ := kx.out wz (bthen hB2.out hBwz)
            obtain ⟨x0, x1, x2, x3⟩ := kq.out wz (bthen hB2.out hBwz)
            replace hwz := Lib.hid hwz
            replace hBwz := Lib.hid hBwz
            have hB3 := bthen hB2.out hBwz.out
            have hO3 := row_kept hO.out (bthen hBwq.out hBwz.out)
            have hbA1 := (Below.refl wz.heap.size wz).alloc (Nat.le_refl _) (.cells #[.string x.1.sp, .string x.1.nm, .int .i64 x.1.kd, .slice x.2.1 x.1.it.length x.2.2] 43)
            have hO1 := row_kept hO3 hbA1
            have hQ1 := Blk.new wz 43 #[.string x.1.sp, .string x.1.nm, .int .i64 x.1.kd, .slice x.2.1 x.1.it.length x.2.2]
            have hD1 := bthen hB3 hbA1
            have hz1 := hD1.size
            replace hO1 := Lib.hid hO1
            replace hQ1 := Lib.hid hQ1
            replace hD1 := Lib.hid hD1
            clear hbA1
            clear hO3 hB3
            go_upto_region 10 with (refine app_prs rfl _ _ rfl W1.heap.size _ o rfl hO1.out wz.heap.size x rfl hQ1.out (by have := hol.out; omega) hz1 ?_; intro a1 n1 c1 v1 hr1 hb1; replace hr1 := Lib.hid hr1; replace hb1 := Lib.hid hb1)
            have hB4 := hD1.out.trans hb1.out
            obtain ⟨x0, x1, x2, x3⟩ := kq.out v1 hB4
            have hol2 : (o ++ [x]).length ≤ 22 := by have := hol.out; rw [List.length_append, List.length_singleton]; omega
            replace hol2 := Lib.hid hol2
            have hbA2 := (Below.refl v1.heap.size v1).alloc (Nat.le_refl _) (.cells #[.string y.1.sp, .string y.1.nm, .int .i64 y.1.kd, .slice y.2.1 y.1.it.length y.2.2] 43)
            have hO2 := row_kept hr1.out hbA2
            have hQ2 := Blk.new v1 43 #[.string y.1.sp, .string y.1.nm, .int .i64 y.1.kd, .slice y.2.1 y.1.it.length y.2.2]
            have hD2 := bthen hB4 hbA2
            have hz2 := hD2.size
            replace hO2 := Lib.hid hO2
            replace hQ2 := Lib.hid hQ2
            replace hD2 := Lib.hid hD2
            clear hbA2
            clear hB4
            go_wp2_with (refine app_prs rfl _ _ rfl W1.heap.size _ (o ++ [x]) rfl hO2.out v1.heap.size y rfl hQ2.out (by have := hol2.out; omega) hz2 ?_; intro a2 n2 c2 v2 hr2 hb2; replace hr2 := Lib.hid hr2; replace hb2 := Lib.hid hb2)
            go_roundw
            case rel => exact ⟨_ + 1, _, by omega, by go_num, by congr 1; simp, ⟨_, _, _, rfl⟩, t2.out rfl, hr2.out, (fun hz => by cases hz), hD2.out.trans hb2.out⟩
            case measure => simp [RowKit.intOf]; omega
      · have hZf : Z = false := by
          cases hz : Z with
          | false => rfl
          | true => have := hzi.out hz; omega
        rcases lt_case (m2 hZf (by omega)) with hk | ⟨hk1, hk⟩
        · obtain ⟨e3, e1, _⟩ := lt_ne hk
          have b1 : Op.bytesLess x.1.sp.toList y.1.sp.toList = true := hk
          clear hk
          have hdp : decide (P < i) = true := by simp; omega
          rw [hdp]
          clear hdp m1 m2 m3
          go_upto_region 6 with (fail)
          go_quiet (fail)
          obtain ⟨wq, hwq⟩ : ∃ W, W = wr.drewN nq := ⟨_, rfl⟩
          rw [← hwq]
          have hBwq : Below wr.heap.size wr wq := by rw [hwq]; exact drewN_below' _ _
          obtain ⟨u0, u1, u2, u3⟩ := kx.out wq (bthen hB.out hBwq)
          obtain ⟨x0, x1, x2, x3⟩ := kq.out wq (bthen hB.out hBwq)
          replace hwq := Lib.hid hwq
          replace hBwq := Lib.hid hBwq
          have hB2 := bthen hB.out hBwq.out
          replace hB2 := Lib.hid hB2
          go_upto_region 8 with (fail)
          go_quiet (fail)
          obtain ⟨wz, hwz⟩ : ∃ W, W = wq.drewN nq := ⟨_, rfl⟩
          rw [← hwz]
          have hBwz : Below wq.heap.size wq wz := by rw [hwz]; exact drewN_below' _ _
          obtain ⟨u0, u1, u2, u3⟩ := kx.out wz (bthen hB2.out hBwz)
          obtain ⟨x0, x1, x2, x3⟩ := kq.out wz (bthen hB2.out hBwz)
          replace hwz := Lib.hid hwz
          replace hBwz := Lib.hid hBwz
          have hB3 := bthen hB2.out hBwz.out
          have hO3 := row_kept hO.out (bthen hBwq.out hBwz.out)
          clear u0 u1 u2 u3
          have hbA1 := (Below.refl wz.heap.size wz).alloc (Nat.le_refl _) (.cells #[.string y.1.sp, .string y.1.nm, .int .i64 y.1.kd, .slice y.2.1 y.1.it.length y.2.2] 43)
          have hO1 := row_kept hO3 hbA1
          have hQ1 := Blk.new wz 43 #[.string y.1.sp, .string y.1.nm, .int .i64 y.1.kd, .slice y.2.1 y.1.it.length y.2.2]
          have hD1 := bthen hB3 hbA1
          have hz1 := hD1.size
          replace hO1 := Lib.hid hO1
          replace hQ1 := Lib.hid hQ1
          replace hD1 := Lib.hid hD1
          clear hbA1
          clear hO3 hB3
          go_wp2_with (refine app_prs rfl _ _ rfl W1.heap.size _ o rfl hO1.out wz.heap.size y rfl hQ1.out (by have := hol.out; omega) hz1 ?_; intro a1 n1 c1 v1 hr1 hb1; replace hr1 := Lib.hid hr1; replace hb1 := Lib.hid hb1)
          go_roundw
          case rel => exact ⟨i + 1, _, by omega, by go_num, by congr 1; simp; omega, ⟨_, _, _, rfl⟩, t3.out h, hr1.out, fun hz => by have := hzi.out hz; omega, hD1.out.trans hb1.out⟩
          case measure => simp [RowKit.intOf]; omega
        · have e1 : (y.1.sp.toList == x.1.sp.toList) = true := by rw [hk1]; simp
          have e3 : (x.1.sp.toList == y.1.sp.toList) = true := by rw [hk1]; simp
          have b1 : Op.bytesLess x.1.sp.toList y.1.sp.toList = false := by rw [hk1]; exact lt_irr _
          obtain ⟨_, e2, _⟩ := lt_ne hk
          have b2 : Op.bytesLess x.1.nm.toList y.1.nm.toList = true := hk
          clear hk hk1
          have hdp : decide (P < i) = true := by simp; omega
          rw [hdp]
          clear hdp m1 m2 m3
          go_upto_region 6 with (fail)
          go_quiet (fail)
          obtain ⟨wq, hwq⟩ : ∃ W, W = wr.drewN nq := ⟨_, rfl⟩
          rw [← hwq]
          have hBwq : Below wr.heap.size wr wq := by rw [hwq]; exact drewN_below' _ _
          obtain ⟨u0, u1, u2, u3⟩ := kx.out wq (bthen hB.out hBwq)
          obtain ⟨x0, x1, x2, x3⟩ := kq.out wq (bthen hB.out hBwq)
          replace hwq := Lib.hid hwq
          replace hBwq := Lib.hid hBwq
          have hB2 := bthen hB.out hBwq.out
          replace hB2 := Lib.hid hB2
          go_upto_region 8 with (fail)
          go_quiet (fail)
          obtain ⟨wz, hwz⟩ : ∃ W, W = wq.drewN nq := ⟨_, rfl⟩
          rw [← hwz]
          have hBwz : Below wq.heap.size wq wz := by rw [hwz]; exact drewN_below' _ _
          obtain ⟨u0, u1, u2, u3⟩ := kx.out wz (bthen hB2.out hBwz)
          obtain ⟨x0, x1, x2, x3⟩ := kq.out wz (bthen hB2.out hBwz)
          replace hwz := Lib.hid hwz
          replace hBwz := Lib.hid hBwz
          have hB3 := bthen hB2.out hBwz.out
          have hO3 := row_kept hO.out (bthen hBwq.out hBwz.out)
          clear u0 u1 u2 u3
          have hbA1 := (Below.refl wz.heap.size wz).alloc (Nat.le_refl _) (.cells #[.string y.1.sp, .string y.1.nm, .int .i64 y.1.kd, .slice y.2.1 y.1.it.length y.2.2] 43)
          have hO1 := row_kept hO3 hbA1
          have hQ1 := Blk.new wz 43 #[.string y.1.sp, .string y.1.nm, .int .i64 y.1.kd, .slice y.2.1 y.1.it.length y.2.2]
          have hD1 := bthen hB3 hbA1
          have hz1 := hD1.size
          replace hO1 := Lib.hid hO1
          replace hQ1 := Lib.hid hQ1
          replace hD1 := Lib.hid hD1
          clear hbA1
          clear hO3 hB3
          go_wp2_with (refine app_prs rfl _ _ rfl W1.heap.size _ o rfl hO1.out wz.heap.size y rfl hQ1.out (by have := hol.out; omega) hz1 ?_; intro a1 n1 c1 v1 hr1 hb1; replace hr1 := Lib.hid hr1; replace hb1 := Lib.hid hb1)
          go_roundw
          case rel => exact ⟨i + 1, _, by omega, by go_num, by congr 1; simp; omega, ⟨_, _, _, rfl⟩, t3.out h, hr1.out, fun hz => by have := hzi.out hz; omega, hD1.out.trans hb1.out⟩
          case measure => simp [RowKit.intOf]; omega
    · obtain rfl : i = n := by omega
      have hPn' := hPn.out
      rcases Nat.lt_or_ge P i with h | h
      · have hdp : decide (P < i) = true := by simp; omega
        rw [hdp]
        clear hdp
        have hZf : Z = false := by
          cases hz : Z with
          | false => rfl
          | true => have := hzi hz; omega
        subst hZf
        have he : outL l x P i = insL l x P := by rw [hnn.out]; exact out_end (by have := hnn.out; omega)
        rw [he] at ho
        rw [ho] at hO
        obtain ⟨A9, g9, c9, e9, hA9, hc9, hx9⟩ := row_out43 hO
        injection e9 with e9 e10 e11
        subst e9 e10 e11
        have hp9 : 0 < (insL l x P).length := by unfold insL; rw [List.length_append, List.length_cons]; omega
        have hA9' := hA9 hp9
        subst hA9'
        have hrd2 := hRDF.out.symm
        unfold rdfL at hrd2
        replace hx9 := Lib.hid hx9
        replace hB := Lib.hid hB
        replace hc9 := Lib.hid hc9
        clear hO hA9 hp9 ho he
        go_upto_region 14 with (fail)
        go_quiet (fail)
        obtain ⟨wq, hwq⟩ : ∃ W, W = wr.drewN nq := ⟨_, rfl⟩
        rw [← hwq]
        have hBq : Below wr.heap.size wr wq := by rw [hwq]; exact drewN_below' _ _
        replace hBq := Lib.hid hBq
        replace hwq := Lib.hid hwq
        go_wp2
        go_ret2
        exact ⟨bthen hb1.out (bthen hB.out hBq.out), _, _, _, rfl, rfl, hc9.out, _, rfl, hx9.out.below hBq.out⟩
      · obtain rfl : P = i := by omega
        have hdp : ∀ z : Nat, decide (z < z) = false := fun z => by simp
        rw [hdp]
        clear hdp
        have hZf : Z = false := by
          cases hz : Z with
          | false => rfl
          | true => obtain ⟨h3, _⟩ := mid3.out hz; have := hnn.out; omega
        subst hZf
        have hpl : P = l.length := hnn.out
        have he : o ++ [x] = insL l x P := by rw [ho, hpl]; exact out_end2
        have hrd2 := hRDF.out.symm
        unfold rdfL at hrd2
        have hO3 := hO
        have hbA1 := (Below.refl wr.heap.size wr).alloc (Nat.le_refl _) (.cells #[.string x.1.sp, .string x.1.nm, .int .i64 x.1.kd, .slice x.2.1 x.1.it.length x.2.2] 43)
        have hO1 := row_kept hO3 hbA1
        have hQ1 := Blk.new wr 43 #[.string x.1.sp, .string x.1.nm, .int .i64 x.1.kd, .slice x.2.1 x.1.it.length x.2.2]
        have hD1 := bthen hB hbA1
        have hz1 := hD1.size
        replace hO1 := Lib.hid hO1
        replace hQ1 := Lib.hid hQ1
        replace hD1 := Lib.hid hD1
        replace he := Lib.hid he
        replace hpl := Lib.hid hpl
        replace hol := Lib.hid hol
        replace ho := Lib.hid ho
        clear hbA1 hO hO3
        go_upto_region 14 with (refine app_prs rfl _ _ rfl W1.heap.size _ o rfl hO1.out wr.heap.size x rfl hQ1.out (by have := hol.out; omega) hz1 ?_; intro a1 n1 c1 v1 hr1 hb1'; replace hr1 := Lib.hid hr1; replace hb1' := Lib.hid hb1')
        have hB4 := hD1.out.trans hb1'.out
        obtain ⟨u0, u1, u2, u3⟩ := kx.out v1 hB4
        have hr2 := hr1.out
        rw [he.out] at hr2
        obtain ⟨A9, g9, c9, e9, hA9, hc9, hx9⟩ := row_out43 hr2
        injection e9 with e9 e10 e11
        subst e9 e10 e11
        have hp9 : 0 < (insL l x P).length := by unfold insL; rw [List.length_append, List.length_cons]; omega
        have hA9' := hA9 hp9
        subst hA9'
        replace hx9 := Lib.hid hx9
        replace hB4 := Lib.hid hB4
        replace hc9 := Lib.hid hc9
        clear hr1 hr2 hA9 hp9
        go_quiet (fail)
        obtain ⟨wq, hwq⟩ : ∃ W, W = v1.drewN nq := ⟨_, rfl⟩
        rw [← hwq]
        have hBq : Below v1.heap.size v1 wq := by rw [hwq]; exact drewN_below' _ _
        replace hBq := Lib.hid hBq
        replace hwq := Lib.hid hwq
        go_wp2
        go_ret2
        exact ⟨bthen hb1.out (bthen hB4.out hBq.out), _, _, _, rfl, rfl, hc9.out, _, rfl, hx9.out.below hBq.out⟩
end Go.Proofs.YtkpikpaepgknnaaGreatDoor

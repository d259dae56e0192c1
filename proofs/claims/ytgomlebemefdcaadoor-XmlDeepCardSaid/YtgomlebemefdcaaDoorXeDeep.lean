/- The reader meets an element too deep. No condition. -/
import Derived.Test.YtgomlebemefdcaaDoorXeElem
import Derived.Test.YtgomlebemefdcaaDoorXeDeepP
set_option linter.unusedVariables false
namespace Go.Proofs.YtgomlebemefdcaaDoor
open Go Go.RowKit Go.Wk Go.Xt Go.Xe
def DeepE (w : World) (L R : Nat) (e : Ending) (w' : World) : Prop := e = .returned (.tuple #[.agg z5, .int .i64 6]) ∧ Fr L R w w'
set_option maxHeartbeats 4000000 in
set_option maxRecDepth 100000 in
theorem xml_mark_deep {w : World} {L R c p many : Nat} {A : Option Addr} {bs r nm : List UInt8} (hm : many < 4000) (h : RS w L R A c bs p many) (hr : Rest bs p (60 :: r)) (hn : nameS r = nm) (hne : nm ≠ []) (hno : ¬ [58] <+: r.drop nm.length) :
    Calls Tryd.prog 51 #[.pointer (some ⟨R, 0, none⟩), .int .i64 0] w fun e w' => e = .returned (.tuple #[.string ⟨#[]⟩, .string ⟨#[]⟩, .bool false, .agg z5, .int .i64 6]) ∧ Fr L R w w' := by
  have hb0 : Below w.heap.size w (w.alloc (.cells z5 27)) := (Below.refl _ _).alloc (Nat.le_refl _) _
  have h0 := h.below hb0
  have hnew := Blk.new w 27 z5
  have c0 := h0.rdr.cell 0
  have hRlt := h.rdr.lt
  have hLlt := h.cur.L_lt
  obtain ⟨N, hN⟩ : ∃ N : ByteArray, (⟨nm.toArray⟩ : ByteArray) = N := ⟨_, rfl⟩
  have hN2 : str nm = .string N := by rw [← hN]; rfl
  have m1 : Calls Tryd.prog 54 #[.pointer (some ⟨L, 0, none⟩), .string ⟨#[60]⟩] _ fun e w' => e = .returned (.bool true) ∧ RS w' L R A c bs (p + 1) many ∧ Fr L R _ w' := rs_yes h0 ⟨#[60]⟩ r (by decide) (by decide) hr.eq
  have hr1 : Rest bs (p + 1) r := hr.app (s := [60])
  have cf := fun w1 (h1 : RS w1 L R A c bs (p + 1) many) => xml_full h1 hr1 hn hne hno
  simp only [hN2] at cf
  replace cf := Lib.hid cf
  replace h0 := Lib.hid h0
  replace hnew := Lib.hid hnew
  replace hb0 := Lib.hid hb0
  clear hn hne hno h hr hr1 hN hN2
  go_enter Tryd.func51, Tryd.ntmps51
  go_wp2_with (first
    | (go_at_call 54; (with_reducible refine m1.mono ?_); rintro e w1 ⟨rfl, h1, f1⟩; have k2 := cf.out w1 h1; replace f1 := Lib.hid f1; replace h1 := Lib.hid h1; clear m1)
    | (go_at_call 53; (with_reducible refine k2.mono ?_); rintro e w2 ⟨rfl, ⟨⟨q, h2, hq⟩, f2⟩⟩; have F := f1.out.trans f2; have hz : Blk w2 w.heap.size 27 z5 := (F.block w.heap.size (by simp) (by omega) (by omega)).trans hnew.out; have c21 := h2.rdr.cell 1; have f21 := h2.rdr.frozen 1; have a0 := hz.cell 0; have a1 := hz.cell 1; have a2 := hz.cell 2; have a3 := hz.cell 3; have a4 := hz.cell 4; have y0 := hz.frozen 0; have y1 := hz.frozen 1; have y2 := hz.frozen 2; have y3 := hz.frozen 3; have y4 := hz.frozen 4; replace F := Lib.hid F; replace hz := Lib.hid hz; replace f2 := Lib.hid f2; replace h2 := Lib.hid h2; replace hq := Lib.hid hq))
  have hzR : Blk (w2.setCell ⟨R, 1, none⟩ (.int .i64 ((many : Int) + 1))) w.heap.size 27 z5 := hz.out.far (by show w.heap.size ≠ R; omega) _
  have hV := put5_blk hzR (.string ⟨#[]⟩) (.string ⟨#[]⟩) (.string ⟨#[]⟩) (.slice none 0 0) (.slice none 0 0)
  have hSV := put5_save (w2.setCell ⟨R, 1, none⟩ (.int .i64 ((many : Int) + 1))) w.heap.size (.string ⟨#[]⟩) (.string ⟨#[]⟩) (.string ⟨#[]⟩) (.slice none 0 0) (.slice none 0 0)
  unfold put5 at hV hSV
  obtain ⟨V, hU⟩ : ∃ U, U = (((((w2.setCell ⟨R, 1, none⟩ (.int .i64 ((many : Int) + 1))).setCell ⟨w.heap.size, 0, none⟩ (.string ⟨#[]⟩)).setCell ⟨w.heap.size, 1, none⟩ (.string ⟨#[]⟩)).setCell ⟨w.heap.size, 2, none⟩ (.string ⟨#[]⟩)).setCell ⟨w.heap.size, 3, none⟩ (.slice none 0 0)).setCell ⟨w.heap.size, 4, none⟩ (.slice none 0 0) := ⟨_, rfl⟩
  rw [← hU] at hV hSV ⊢
  have r0 := hV.cell 0
  have r1 := hV.cell 1
  have r2 := hV.cell 2
  have r3 := hV.cell 3
  have r4 := hV.cell 4
  have hsz2 : (w2.setCell ⟨R, 1, none⟩ (.int .i64 ((many : Int) + 1))).heap.size = w2.heap.size := by simp [World.setCell]
  refine bodyPost_ret (v := .tuple #[.string ⟨#[]⟩, .string ⟨#[]⟩, .bool false, .agg z5, .int .i64 6]) (by simp [results, Tryd.results51, go_sem, r0, r1, r2, r3, r4]) rfl ⟨rfl, ?_⟩
  have := F.out.size
  exact ((Fr.of_below hb0.out).trans (F.out.trans (Fr.bump w2 _))).tail (hSV.below (Nat.le_refl _) (by rw [hsz2]; simp at this; omega))
set_option maxHeartbeats 4000000 in
set_option maxRecDepth 100000 in
theorem xml_elem_here {w : World} {L R c p m : Nat} {A : Option Addr} {bs r nm : List UInt8} (hm : m < 4000) (h : RS w L R A c bs p m) (hr : Rest bs p (60 :: r)) (hn : nameS r = nm) (hne : nm ≠ []) (hno : ¬ [58] <+: r.drop nm.length) :
    Calls Tryd.prog 40 #[.pointer (some ⟨R, 0, none⟩), .int .i64 0] w (DeepE w L R) := by
  have hb0 : Below w.heap.size w (w.alloc (.cells z5 27)) := (Below.refl _ _).alloc (Nat.le_refl _) _
  have h0 := h.below hb0
  have hnew := Blk.new w 27 z5
  have c02 := h0.rdr.cell 2
  have hRlt := h.rdr.lt
  have hLlt := h.cur.L_lt
  have cm := xml_mark_deep hm h0 hr hn hne hno
  replace h0 := Lib.hid h0
  replace hnew := Lib.hid hnew
  replace hb0 := Lib.hid hb0
  clear hn hne hno h hr
  go_enter Tryd.func40, Tryd.ntmps40
  go_wp2_with (go_at_call 51; (with_reducible refine cm.mono ?_); rintro e w1 ⟨rfl, f1⟩; have hz : Blk w1 w.heap.size 27 z5 := (f1.block w.heap.size (by simp) (by omega) (by omega)).trans hnew.out; have hg4 : w.heap.size < w1.heap.size := hz.lt; have a0 := hz.cell 0; have a1 := hz.cell 1; have a2 := hz.cell 2; have a3 := hz.cell 3; have a4 := hz.cell 4; have y0 := hz.frozen 0; have y1 := hz.frozen 1; have y2 := hz.frozen 2; have y3 := hz.frozen 3; have y4 := hz.frozen 4; replace hz := Lib.hid hz; replace f1 := Lib.hid f1)
  have hzR := hz.out
  have hV := put5_blk hzR (.string ⟨#[]⟩) (.string ⟨#[]⟩) (.string ⟨#[]⟩) (.slice none 0 0) (.slice none 0 0)
  have hSV := put5_save (w1) w.heap.size (.string ⟨#[]⟩) (.string ⟨#[]⟩) (.string ⟨#[]⟩) (.slice none 0 0) (.slice none 0 0)
  unfold put5 at hV hSV
  obtain ⟨V, hU⟩ : ∃ U, U = (((((w1).setCell ⟨w.heap.size, 0, none⟩ (.string ⟨#[]⟩)).setCell ⟨w.heap.size, 1, none⟩ (.string ⟨#[]⟩)).setCell ⟨w.heap.size, 2, none⟩ (.string ⟨#[]⟩)).setCell ⟨w.heap.size, 3, none⟩ (.slice none 0 0)).setCell ⟨w.heap.size, 4, none⟩ (.slice none 0 0) := ⟨_, rfl⟩
  rw [← hU] at hV hSV ⊢
  have hbU : Below V.heap.size V (V.alloc (.cells z5 27)) := (Below.refl _ _).alloc (Nat.le_refl _) _
  have hV2 := hV.alloc (.cells z5 27)
  obtain ⟨X, hX⟩ : ∃ X, X = V.alloc (.cells z5 27) := ⟨_, rfl⟩
  have hX2 : V.alloc (.cells #[.string ⟨#[]⟩, .string ⟨#[]⟩, .string ⟨#[]⟩, .slice none 0 0, .slice none 0 0] 27) = X := hX.symm
  rw [← hX] at hbU hV2
  rw [hX2]
  have r0 := hV2.cell 0
  have r1 := hV2.cell 1
  have r2 := hV2.cell 2
  have r3 := hV2.cell 3
  have r4 := hV2.cell 4
  refine bodyPost_ret (v := .tuple #[.agg z5, .int .i64 6]) (by simp [results, Tryd.results40, go_sem, r0, r1, r2, r3, r4]) rfl ⟨rfl, ?_⟩
  exact ((Fr.of_below hb0.out).trans f1.out).tail ((hSV.trans (Save.of_below hbU)).below (Nat.le_refl _) (by omega))
def DeepC (L R : Nat) (A : Option Addr) (c : Nat) (bs : List UInt8) (d : Nat) : Prop :=
  ∀ w p m r, RS w L R A c bs p m → Rest bs p r → ElemD d m r → Calls Tryd.prog 40 #[.pointer (some ⟨R, 0, none⟩), .int .i64 (d : Int)] w (DeepE w L R)
set_option maxHeartbeats 4000000 in
set_option maxRecDepth 100000 in
theorem xml_cont_deep {w : World} {L R c p m d : Nat} {A : Option Addr} {bs r : List UInt8} (hd : d ≤ 1000) (hE : DeepC L R A c bs d) (h : RS w L R A c bs p m) (hr : Rest bs p r) (hT : Txt (-1) r [] r) (hM : Misc r false r) (hx3 : ¬ [60, 47] <+: r) (hEl : ElemD d m r) :
    Calls Tryd.prog 52 #[.pointer (some ⟨R, 0, none⟩), .int .i64 ((d : Int) + 1)] w fun e w' => e = .returned (.tuple #[.slice none 0 0, .int .i64 6]) ∧ Fr L R w w' := by
  have ct : Calls Tryd.prog 63 #[.pointer (some ⟨R, 0, none⟩), .int .i64 (-1)] w fun e w' => e = .returned (.tuple #[.string ⟨#[]⟩, .int .i64 0]) ∧ End w L R A c bs m r w' := xml_text (-1) (by omega) h hr hT
  have cm := fun w1 q1 (h1 : RS w1 L R A c bs q1 m) (hq1 : Rest bs q1 r) => xml_misc h1 hq1 hM
  have c54 : ∀ w2 q2, RS w2 L R A c bs q2 m → Rest bs q2 r → Calls Tryd.prog 54 #[.pointer (some ⟨L, 0, none⟩), .string ⟨#[60, 47]⟩] w2 fun e w' => e = .returned (.bool false) ∧ RS w' L R A c bs q2 m ∧ Fr L R w2 w' := fun w2 q2 h2 hq2 => rs_no h2 ⟨#[60, 47]⟩ (by decide) (by decide) (by rw [hq2.eq]; exact hx3)
  have cE := fun w3 q3 (h3 : RS w3 L R A c bs q3 m) (hq3 : Rest bs q3 r) => hE w3 q3 m r h3 hq3 hEl
  have hee : ((⟨#[]⟩ : ByteArray) ++ ⟨#[]⟩).toList.isEmpty = true := by rw [ByteArray.toList_eq]; rfl
  replace cm := Lib.hid cm
  replace c54 := Lib.hid c54
  replace cE := Lib.hid cE
  clear hE h hr hT hM hx3 hEl
  go_enter Tryd.func52, Tryd.ntmps52
  go_wp2
  refine wp_loop_rounds 1 ?_; rw [rounds_succ]
  go_wp2_with (first
    | (go_at_call 63; (with_reducible refine ct.mono ?_); rintro e w1 ⟨rfl, ⟨⟨q1, h1, hq1⟩, f1⟩⟩; have k2 := cm.out w1 q1 h1 hq1; replace f1 := Lib.hid f1; replace h1 := Lib.hid h1; replace hq1 := Lib.hid hq1)
    | (go_at_call 50; (with_reducible refine k2.mono ?_); rintro e w2 ⟨rfl, ⟨⟨q2, h2, hq2⟩, f2⟩⟩; have c2 := h2.rdr.cell 0; have k3 := c54.out w2 q2 h2 hq2; replace f2 := Lib.hid f2; replace h2 := Lib.hid h2; replace hq2 := Lib.hid hq2)
    | (go_at_call 54; (with_reducible refine k3.mono ?_); rintro e w3 ⟨rfl, h3, f3⟩; have k4 := cE.out w3 q2 h3 hq2.out; replace f3 := Lib.hid f3; replace h3 := Lib.hid h3)
    | (go_at_call 40; (with_reducible refine k4.mono ?_); rintro e w4 ⟨rfl, f4⟩; replace f4 := Lib.hid f4))
  go_ret2
  exact ⟨rfl, ((f1.out.trans f2.out).trans (f3.out.trans f4.out)).trans (Fr.of_below ((Below.refl _ _).alloc (Nat.le_refl _) _))⟩
set_option maxHeartbeats 4000000 in
set_option maxRecDepth 100000 in
theorem xml_elem_in {w : World} {L R c p m d : Nat} {A : Option Addr} {bs r r1 nm : List UInt8} {l : List (List UInt8 × List UInt8)} (hd : d ≤ 900) (h : RS w L R A c bs p m) (hr : Rest bs p r) (hm : m < 4000) (hM : Xe.Mark r nm l false r1)
    (cK : ∀ W q, RS W L R A c bs q (m + 1) → Rest bs q r1 → Calls Tryd.prog 52 #[.pointer (some ⟨R, 0, none⟩), .int .i64 ((d : Int) + 1)] W fun e w' => e = .returned (.tuple #[.slice none 0 0, .int .i64 6]) ∧ Fr L R W w') :
    Calls Tryd.prog 40 #[.pointer (some ⟨R, 0, none⟩), .int .i64 ((d : Int) + 1)] w (DeepE w L R) := by
  have hb0 : Below w.heap.size w (w.alloc (.cells z5 27)) := (Below.refl _ _).alloc (Nat.le_refl _) _
  have h0 := h.below hb0
  have hnew := Blk.new w 27 z5
  have hRlt := h.rdr.lt
  have hLlt := h.cur.L_lt
  obtain ⟨N, hN⟩ : ∃ N : ByteArray, (⟨nm.toArray⟩ : ByteArray) = N := ⟨_, rfl⟩
  have hdi : (((d + 1 : Nat) : Int)) = (d : Int) + 1 := by omega
  have cm := xml_mark (d + 1) (by omega) (by omega) hm h0 hr hM
  rw [hN, hdi] at cm
  have c02 := h0.rdr.cell 2
  replace hN := Lib.hid hN
  replace h0 := Lib.hid h0
  replace hb0 := Lib.hid hb0
  replace hnew := Lib.hid hnew
  replace cK := Lib.hid cK
  clear h hr hM hdi
  go_enter Tryd.func40, Tryd.ntmps40
  go_wp2_with (first
    | (go_at_call 51; (with_reducible refine cm.mono ?_); rintro e w1 ⟨a1, n1, c1, ba, rfl, hA, hba, ⟨⟨q1, h1, hq1⟩, f1⟩⟩; have hz4 : Blk w1 w.heap.size 27 z5 := (f1.block w.heap.size (by simp) (by omega) (by omega)).trans hnew.out; have hbn : Below w1.heap.size w1 (w1.alloc (.cells #[.string ⟨#[]⟩, .string N, .string ⟨#[]⟩, .slice a1 n1 c1, .slice none 0 0] 27)) := (Below.refl _ _).alloc (Nat.le_refl _) _; have hzb := Blk.new w1 27 #[.string ⟨#[]⟩, .string N, .string ⟨#[]⟩, .slice a1 n1 c1, .slice none 0 0]; have hsb : (w1.alloc (.cells #[.string ⟨#[]⟩, .string N, .string ⟨#[]⟩, .slice a1 n1 c1, .slice none 0 0] 27)).heap.size = w1.heap.size + 1 := World.size_alloc _ _; have h11 := h1.below hbn; have hz44 := hz4.alloc (.cells #[.string ⟨#[]⟩, .string N, .string ⟨#[]⟩, .slice a1 n1 c1, .slice none 0 0] 27); have kc := cK.out _ q1 h11 hq1; have hR1 : R < w1.heap.size := h1.rdr.lt; have hL1 : L < w1.heap.size := h1.cur.L_lt; have hg4 : w.heap.size < w1.heap.size := hz4.lt; replace h11 := Lib.hid h11; replace hbn := Lib.hid hbn; replace h1 := Lib.hid h1; replace hz4 := Lib.hid hz4; replace hz44 := Lib.hid hz44; replace hzb := Lib.hid hzb; replace hsb := Lib.hid hsb; replace hA := Lib.hid hA; replace hba := Lib.hid hba; replace hq1 := Lib.hid hq1; replace f1 := Lib.hid f1)
    | (go_at_call 52; (with_reducible refine kc.mono ?_); rintro e w2 ⟨rfl, f2⟩; have hzb2 : Blk w2 w1.heap.size 27 #[.string ⟨#[]⟩, .string N, .string ⟨#[]⟩, .slice a1 n1 c1, .slice none 0 0] := (f2.block w1.heap.size (by rw [hsb.out]; omega) (by omega) (by omega)).trans hzb.out; have hz42 : Blk w2 w.heap.size 27 z5 := (f2.block w.heap.size (by rw [hsb.out]; omega) (by omega) (by omega)).trans hz44.out; have b4 := hzb2.cell 4; have b4f := hzb2.frozen 4; have hB2 : Below w.heap.size w2 (w2.setCell ⟨w1.heap.size, 4, none⟩ (.slice none 0 0)) := (Below.refl w.heap.size w2).setCell (p := ⟨w1.heap.size, 4, none⟩) (Nat.le_of_lt hg4) _; have hz43 : Blk (w2.setCell ⟨w1.heap.size, 4, none⟩ (.slice none 0 0)) w.heap.size 27 z5 := hz42.far (by show w.heap.size ≠ w1.heap.size; omega) _; have a0 := hz43.cell 0; have a1' := hz43.cell 1; have a2 := hz43.cell 2; have a3 := hz43.cell 3; have a4 := hz43.cell 4; have y0 := hz43.frozen 0; have y1 := hz43.frozen 1; have y2 := hz43.frozen 2; have y3 := hz43.frozen 3; have y4 := hz43.frozen 4; replace f2 := Lib.hid f2; replace hzb2 := Lib.hid hzb2; replace hz42 := Lib.hid hz42; replace hz43 := Lib.hid hz43; replace hB2 := Lib.hid hB2))
  have hzR := hz43.out
  have hV := put5_blk hzR (.string ⟨#[]⟩) (.string ⟨#[]⟩) (.string ⟨#[]⟩) (.slice none 0 0) (.slice none 0 0)
  have hSV := put5_save (w2.setCell ⟨w1.heap.size, 4, none⟩ (.slice none 0 0)) w.heap.size (.string ⟨#[]⟩) (.string ⟨#[]⟩) (.string ⟨#[]⟩) (.slice none 0 0) (.slice none 0 0)
  unfold put5 at hV hSV
  obtain ⟨V, hU⟩ : ∃ U, U = (((((w2.setCell ⟨w1.heap.size, 4, none⟩ (.slice none 0 0)).setCell ⟨w.heap.size, 0, none⟩ (.string ⟨#[]⟩)).setCell ⟨w.heap.size, 1, none⟩ (.string ⟨#[]⟩)).setCell ⟨w.heap.size, 2, none⟩ (.string ⟨#[]⟩)).setCell ⟨w.heap.size, 3, none⟩ (.slice none 0 0)).setCell ⟨w.heap.size, 4, none⟩ (.slice none 0 0) := ⟨_, rfl⟩
  rw [← hU] at hV hSV ⊢
  have r0 := hV.cell 0
  have r1 := hV.cell 1
  have r2 := hV.cell 2
  have r3 := hV.cell 3
  have r4 := hV.cell 4
  have hsz2 : (w2.setCell ⟨w1.heap.size, 4, none⟩ (.slice none 0 0)).heap.size = w2.heap.size := by simp [World.setCell]
  have z12 := f2.out.size
  rw [hsb.out] at z12
  refine bodyPost_ret (v := .tuple #[.agg z5, .int .i64 6]) (by simp [results, Tryd.results40, go_sem, r0, r1, r2, r3, r4]) rfl ⟨rfl, ?_⟩
  exact ((((Fr.of_below hb0.out).trans f1.out).trans ((Fr.of_below hbn.out).trans f2.out)).tail hB2.out).tail (hSV.below (Nat.le_refl _) (by rw [hsz2]; omega))
theorem xml_deep {L R c : Nat} {A : Option Addr} {bs : List UInt8} : ∀ d, d ≤ 900 → DeepC L R A c bs d := by
  intro d
  induction d with
  | zero =>
    intro _ w p m r hS hr hE
    match hE with
    | .here _ r nm hn hne hno hm => exact xml_elem_here hm hS hr hn hne hno
  | succ d ih =>
    intro hd w p m r hS hr hE
    have hdi : (((d + 1 : Nat) : Int)) = (d : Int) + 1 := by omega
    rw [hdi]
    match hE with
    | .in_ _ _ _ nm l r1 hm hM hC =>
      refine xml_elem_in (by omega) hS hr hm hM fun W q hW hq => ?_
      match hC with
      | .elem _ _ _ hT hMi hx hEl => exact xml_cont_deep (by omega) (ih (by omega)) hW hq hT hMi hx hEl
end Go.Proofs.YtgomlebemefdcaaDoor

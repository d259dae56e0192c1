/- Parse: the root that bytes say. No condition. -/
import Derived.Test.YtgomlebemefdcaaDoorXeAll
set_option linter.unusedVariables false
namespace Go.Proofs.YtgomlebemefdcaaDoor
open Go Go.RowKit Go.Wk Go.Xt Go.Xe
set_option maxHeartbeats 4000000 in
set_option maxRecDepth 100000 in
theorem xml_all_deep {w : World} {L R c p : Nat} {A : Option Addr} {bs r r1 : List UInt8} (h : RS w L R A c bs p 0) (hr : Rest bs p r) (h1 : Around r r1) (h2 : ElemD 32 0 r1) :
    Calls Tryd.prog 28 #[.pointer (some ⟨R, 0, none⟩)] w (DeepE w L R) := by
  have hb0 : Below w.heap.size w (w.alloc (.cells z5 27)) := (Below.refl _ _).alloc (Nat.le_refl _) _
  have h0 := h.below hb0
  have hnew := Blk.new w 27 z5
  have hRlt := h.rdr.lt
  have hLlt := h.cur.L_lt
  have ca := xml_around h0 hr h1
  have ce : ∀ W q, RS W L R A c bs q 0 → Rest bs q r1 → Calls Tryd.prog 40 #[.pointer (some ⟨R, 0, none⟩), .int .i64 32] W (DeepE W L R) := fun W q hW hq => xml_deep 32 (by omega) W q 0 r1 hW hq h2
  replace ce := Lib.hid ce
  replace h0 := Lib.hid h0
  replace hb0 := Lib.hid hb0
  replace hnew := Lib.hid hnew
  clear h hr h1 h2
  go_enter Tryd.func28, Tryd.ntmps28
  go_wp2_with (first
    | (go_at_call 39; (with_reducible refine ca.mono ?_); rintro e w1 ⟨rfl, ⟨⟨q1, h1, hq1⟩, f1⟩⟩; have k2 := ce.out w1 q1 h1 hq1; replace f1 := Lib.hid f1; replace h1 := Lib.hid h1; replace hq1 := Lib.hid hq1)
    | (go_at_call 40; (with_reducible refine k2.mono ?_); rintro e w2 ⟨rfl, f2⟩; have F2 := f1.out.trans f2; have hz : Blk w2 w.heap.size 27 z5 := (F2.block w.heap.size (by simp) (by omega) (by omega)).trans hnew.out; have hg4 : w.heap.size < w2.heap.size := hz.lt; have a0 := hz.cell 0; have a1 := hz.cell 1; have a2 := hz.cell 2; have a3 := hz.cell 3; have a4 := hz.cell 4; have y0 := hz.frozen 0; have y1 := hz.frozen 1; have y2 := hz.frozen 2; have y3 := hz.frozen 3; have y4 := hz.frozen 4; replace hz := Lib.hid hz; replace F2 := Lib.hid F2; replace f2 := Lib.hid f2))
  have hzR := hz.out
  have hV := put5_blk hzR (.string ⟨#[]⟩) (.string ⟨#[]⟩) (.string ⟨#[]⟩) (.slice none 0 0) (.slice none 0 0)
  have hSV := put5_save (w2) w.heap.size (.string ⟨#[]⟩) (.string ⟨#[]⟩) (.string ⟨#[]⟩) (.slice none 0 0) (.slice none 0 0)
  unfold put5 at hV hSV
  obtain ⟨V, hU⟩ : ∃ U, U = (((((w2).setCell ⟨w.heap.size, 0, none⟩ (.string ⟨#[]⟩)).setCell ⟨w.heap.size, 1, none⟩ (.string ⟨#[]⟩)).setCell ⟨w.heap.size, 2, none⟩ (.string ⟨#[]⟩)).setCell ⟨w.heap.size, 3, none⟩ (.slice none 0 0)).setCell ⟨w.heap.size, 4, none⟩ (.slice none 0 0) := ⟨_, rfl⟩
  rw [← hU] at hV hSV ⊢
  have hbU : Below V.heap.size V (V.alloc (.cells z5 27)) := (Below.refl _ _).alloc (Nat.le_refl _) _
  have hV2 := hV.alloc (.cells z5 27)
  obtain ⟨X, hX⟩ : ∃ X, X = V.alloc (.cells z5 27) := ⟨_, rfl⟩
  have hX2 : V.alloc (.cells #[.string ⟨#[]⟩, .string ⟨#[]⟩, .string ⟨#[]⟩, .slice none 0 0, .slice none 0 0] 27) = X := hX.symm
  rw [← hX] at hbU hV2
  rw [hX2]
  have r0 := hV2.cell 0
  have r1 := hV2.cell 1
  have r2 := hV2.cell 2
  have r3 := hV2.cell 3
  have r4 := hV2.cell 4
  refine bodyPost_ret (v := .tuple #[.agg z5, .int .i64 6]) (by simp [results, Tryd.results28, go_sem, r0, r1, r2, r3, r4]) rfl ⟨rfl, ?_⟩
  exact ((Fr.of_below hb0.out).trans F2.out).tail ((hSV.trans (Save.of_below hbU)).below (Nat.le_refl _) (by omega))
set_option maxHeartbeats 1000000 in
set_option maxRecDepth 100000 in
theorem cur_seek0 {w : World} {L c p : Nat} {A : Option Addr} {bs : List UInt8} (h : Cur w w L A c bs p) :
    Calls Tryd.prog 25 #[.pointer (some ⟨L, 0, none⟩), .int .i64 0] w fun e w' => e = .returned (.bool true) ∧ Cur w w' L A c bs 0 := by
  have hg := h.go 0 (Nat.zero_le _)
  have cb := h.cb
  have ca := h.ca
  have fr := h.fr
  have hneg : ¬ (bs.length : Int) < 0 := by omega
  replace h := Lib.hid h
  replace hg := Lib.hid hg
  go_enter Tryd.func25, Tryd.ntmps25
  go_wp2
  go_ret
  exact ⟨rfl, hg.out⟩
set_option maxHeartbeats 1000000 in
theorem cur_len {w : World} {L c p : Nat} {A : Option Addr} {bs : List UInt8} (h : Cur w w L A c bs p) :
    Calls Tryd.prog 27 #[.pointer (some ⟨L, 0, none⟩)] w fun e w' => e = .returned (.int .i64 bs.length) ∧ w = w' := by
  have cb := h.cb
  replace h := Lib.hid h
  go_enter Tryd.func27, Tryd.ntmps27
  go_wp2
  go_ret
  exact ⟨rfl, rfl⟩
theorem cur_new (A : Option Addr) (n c : Nat) (w : World) (hc : n ≤ c) (hn : n ≤ 100000) :
    Calls Tryd.prog 24 #[.slice A n c] w fun e w' => e = .returned (.pointer (some ⟨w.heap.size, 0, none⟩)) ∧ w' = w.alloc (.cells #[.slice A n n, .int .i64 0] 82) := by
  go_enter Tryd.func24, Tryd.ntmps24
  cases A with
  | none =>
    go_wp2
    go_ret
    exact ⟨rfl, rfl⟩
  | some a =>
    go_wp2
    go_ret
    exact ⟨rfl, rfl⟩
theorem new_cur {w : World} {A : Option Addr} {bs : List UInt8} (h : Byt w A bs) (hs : bs.length ≤ 100000) : Cur (w.alloc (.cells #[.slice A bs.length bs.length, .int .i64 0] 82)) (w.alloc (.cells #[.slice A bs.length bs.length, .int .i64 0] 82)) w.heap.size A bs.length bs 0 := by
  have hB := Blk.new w 82 #[.slice A bs.length bs.length, .int .i64 0]
  refine ⟨fun h0 x hx => ?_, Save.refl _ _, hB.cell 0, hB.cell 1, hB.frozen 1, h.below ((Below.refl _ _).alloc (Nat.le_refl _) _), Nat.zero_le _, hs⟩
  obtain ⟨b, o, e, hc⟩ := h.2 h0
  have := cell_lt (hc 0 h0)
  rw [hx] at e
  cases e
  exact Nat.ne_of_lt this
set_option maxHeartbeats 1000000 in
theorem xml_New (A : Option Addr) (c : Nat) (bs : List UInt8) (w : World) (hb : Byt w A bs) (hc : bs.length ≤ c) (hs : bs.length ≤ 100000) :
    Calls Tryd.prog 16 #[.slice A bs.length c] w fun e w' => e = .returned (.pointer (some ⟨w.heap.size + 1, 0, none⟩)) ∧ RS w' w.heap.size (w.heap.size + 1) A bs.length bs 0 0 ∧ Below w.heap.size w w' := by
  have cn := cur_new A bs.length c w hc hs
  have hC := new_cur hb hs
  have hAl : 0 < bs.length → ∀ x, A = some x → x.block < w.heap.size := by
    rintro h0 x rfl
    obtain ⟨b, o, e, hcell⟩ := hb.2 h0
    cases e
    exact cell_lt (hcell 0 h0)
  obtain ⟨W, hW⟩ : ∃ W, W = w.alloc (.cells #[.slice A bs.length bs.length, .int .i64 0] 82) := ⟨_, rfl⟩
  have hWz : W.heap.size = w.heap.size + 1 := by rw [hW, World.size_alloc]
  have hBW : Below w.heap.size w W := by rw [hW]; exact (Below.refl _ _).alloc (Nat.le_refl _) _
  rw [← hW] at cn hC
  replace hW := Lib.hid hW
  have hR := Blk.new W 68 #[.pointer (some ⟨w.heap.size, 0, none⟩), .int .i64 0, .slice none 0 0]
  have hb2 : Below W.heap.size W (W.alloc (.cells #[.pointer (some ⟨w.heap.size, 0, none⟩), .int .i64 0, .slice none 0 0] 68)) := (Below.refl _ _).alloc (Nat.le_refl _) _
  have hRS : RS (W.alloc (.cells #[.pointer (some ⟨w.heap.size, 0, none⟩), .int .i64 0, .slice none 0 0] 68)) w.heap.size (w.heap.size + 1) A bs.length bs 0 0 := by
    have hL : w.heap.size < W.heap.size := by omega
    refine ⟨⟨hC.ne, Save.refl _ _, (hb2.cell (p := ⟨w.heap.size, 0, none⟩) hL).trans hC.cb, (hb2.cell (p := ⟨w.heap.size, 1, none⟩) hL).trans hC.ca, (hb2.frozen (p := ⟨w.heap.size, 1, none⟩) hL).trans hC.fr, hC.byt.below hb2, hC.le, hC.small⟩, ?_, by omega, fun h0 x hx => by have := hAl h0 x hx; omega, Nat.le_refl _⟩
    rw [← hWz]; exact hR
  have hfin : Below w.heap.size w (W.alloc (.cells #[.pointer (some ⟨w.heap.size, 0, none⟩), .int .i64 0, .slice none 0 0] 68)) := bthen hBW hb2
  replace hRS := Lib.hid hRS
  replace hfin := Lib.hid hfin
  replace hC := Lib.hid hC
  replace hR := Lib.hid hR
  replace hb2 := Lib.hid hb2
  replace hBW := Lib.hid hBW
  replace hAl := Lib.hid hAl
  clear hb hc hs
  go_enter Tryd.func16, Tryd.ntmps16
  go_wp2_with (go_at_call 24; (with_reducible refine cn.mono ?_); rintro e w1 ⟨rfl, rfl⟩)
  go_ret
  exact ⟨rfl, hRS.out, hfin.out⟩
end Go.Proofs.YtgomlebemefdcaaDoor

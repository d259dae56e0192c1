/- The reader reads all. No condition. -/
import Derived.Test.YtgomlebemefdcaaDoorXeDeep
import Derived.RegionTactic
import Derived.BigRegion
set_option linter.unusedVariables false
namespace Go.Proofs.YtgomlebemefdcaaDoor
open Go Go.RowKit Go.Wk Go.Xt Go.Xe
def NodeR (w : World) (L R : Nat) (n : Nd) (e : Ending) (w' : World) : Prop :=
  ∃ (N : ByteArray) (a1 : Option Addr) (n1 c1 : Nat) (a2 : Option Addr) (n2 c2 : Nat) (bl : List Nat), e = .returned (.tuple #[.agg #[.string ⟨#[]⟩, .string N, .string ⟨#[]⟩, .slice a1 n1 c1, .slice a2 n2 c2], .int .i64 0]) ∧
    NdAt w' n [.string ⟨#[]⟩, .string N, .string ⟨#[]⟩, .slice a1 n1 c1, .slice a2 n2 c2] bl ∧ (∀ k ∈ bl, w.heap.size ≤ k ∧ k < w'.heap.size) ∧ Fr L R w w'
set_option maxHeartbeats 8000000 in
set_option maxRecDepth 100000 in
theorem xml_all {w : World} {L R c p m2 : Nat} {A : Option Addr} {bs r r1 r2 : List UInt8} {n : Nd} (h : RS w L R A c bs p 0) (hr : Rest bs p r) (h1 : Around r r1) (h2 : Elem 32 0 r1 n m2 r2) (h3 : Around r2 []) :
    Calls Tryd.prog 28 #[.pointer (some ⟨R, 0, none⟩)] w (NodeR w L R n) := by
  have hb0 : Below w.heap.size w (w.alloc (.cells z5 27)) := (Below.refl _ _).alloc (Nat.le_refl _) _
  have h0 := h.below hb0
  have hnew := Blk.new w 27 z5
  have hRlt := h.rdr.lt
  have hLlt := h.cur.L_lt
  have hAlt := Lib.hid h.A_lt
  have ca := xml_around h0 hr h1
  have ce : ∀ W q, RS W L R A c bs q 0 → Rest bs q r1 → Calls Tryd.prog 40 #[.pointer (some ⟨R, 0, none⟩), .int .i64 32] W (ElemR W L R A c bs n m2 r2) := fun W q hW hq => xml_element 32 (by omega) W q 0 r1 n m2 r2 hW hq h2
  have cz := fun W q (hW : RS W L R A c bs q m2) (hq : Rest bs q r2) => xml_around hW hq h3
  have cl := fun W q (hW : RS W L R A c bs q m2) => rs_left hW
  have hl0 : ∀ q, Rest bs q [] → ((bs.length : Int) - (q : Int)) = 0 := fun q hq => by have := hq.len; simp at this; omega
  replace ce := Lib.hid ce
  replace cz := Lib.hid cz
  replace cl := Lib.hid cl
  replace hl0 := Lib.hid hl0
  replace h0 := Lib.hid h0
  replace hb0 := Lib.hid hb0
  replace hnew := Lib.hid hnew
  have cps := fun (w : World) => xml_passed (w := w) true
  simp only [if_true] at cps
  clear h hr h1 h2 h3
  go_enter Tryd.func28, Tryd.ntmps28
  go_wp2_with (first
    | (go_at_call 39; (with_reducible refine ca.mono ?_); rintro e w1 ⟨rfl, ⟨⟨q1, h1, hq1⟩, f1⟩⟩; have k2 := ce.out w1 q1 h1 hq1; replace f1 := Lib.hid f1; replace h1 := Lib.hid h1; replace hq1 := Lib.hid hq1)
    | (go_at_call 40; (with_reducible refine k2.mono ?_); rintro e w2 ⟨N, a1, n1, c1, a2, n2, c2, bl, rfl, hnd, hbl, ⟨⟨q2, h2, hq2⟩, f2⟩⟩; have hbn : Below w2.heap.size w2 (w2.alloc (.cells #[.string ⟨#[]⟩, .string N, .string ⟨#[]⟩, .slice a1 n1 c1, .slice a2 n2 c2] 27)) := (Below.refl _ _).alloc (Nat.le_refl _) _; have hzb := Blk.new w2 27 #[.string ⟨#[]⟩, .string N, .string ⟨#[]⟩, .slice a1 n1 c1, .slice a2 n2 c2]; have h22 := h2.below hbn; have k3 := cz.out _ q2 h22 hq2; replace f2 := Lib.hid f2; replace h2 := Lib.hid h2; replace hq2 := Lib.hid hq2; replace hnd := Lib.hid hnd; replace hbl := Lib.hid hbl; replace hbn := Lib.hid hbn; replace hzb := Lib.hid hzb; replace h22 := Lib.hid h22)
    | (go_at_call 39; (with_reducible refine k3.mono ?_); rintro e w3 ⟨rfl, ⟨⟨q3, h3, hq3⟩, f3⟩⟩; replace f3 := Lib.hid f3; replace h3 := Lib.hid h3; replace hq3 := Lib.hid hq3))
  have hz3 : Blk w3 w2.heap.size 27 #[.string ⟨#[]⟩, .string N, .string ⟨#[]⟩, .slice a1 n1 c1, .slice a2 n2 c2] := (f3.out.block w2.heap.size (by simp) (by have := h2.out.cur.L_lt; omega) (by have := h2.out.rdr.lt; omega)).trans hzb.out
  have F2 := f1.out.trans f2.out
  have hw2 : w.heap.size < w2.heap.size := by have := F2.size; simp at this; omega
  have F3 := (F2.trans (Fr.of_below hbn.out)).trans f3.out
  have hz4 : Blk w3 w.heap.size 27 z5 := (F3.block w.heap.size (by simp) (by omega) (by omega)).trans hnew.out
  have kl : ∀ W, Below w.heap.size w3 W → Calls Tryd.prog 37 #[.pointer (some ⟨L, 0, none⟩)] W fun e w' => e = .returned (.int .i64 0) ∧ W = w' := fun W hW => by
    have := rs_left (h3.out.belowB hW hLlt hRlt hAlt.out)
    rw [hl0.out q3 hq3.out] at this
    exact this
  have c30 := h3.out.rdr.cell 0
  obtain ⟨g2, hg2⟩ : ∃ g, g = w.heap.size := ⟨_, rfl⟩
  obtain ⟨g5, hg5⟩ : ∃ g, g = w2.heap.size := ⟨_, rfl⟩
  have hRg : R ≠ g2 := by omega
  have hgg : g2 ≠ g5 := by omega
  rw [← hg2] at hz4 kl ⊢
  rw [← hg5] at hz3 ⊢
  have a0 := hz4.cell 0
  have a1' := hz4.cell 1
  have a2' := hz4.cell 2
  have a3 := hz4.cell 3
  have a4 := hz4.cell 4
  have y0 := hz4.frozen 0
  have y1 := hz4.frozen 1
  have y2 := hz4.frozen 2
  have y3 := hz4.frozen 3
  have y4 := hz4.frozen 4
  have e0 := hz3.cell 0
  have e1 := hz3.cell 1
  have e2 := hz3.cell 2
  have e3 := hz3.cell 3
  have e4 := hz3.cell 4
  replace hz3 := Lib.hid hz3
  replace hz4 := Lib.hid hz4
  replace F2 := Lib.hid F2
  replace F3 := Lib.hid F3
  replace kl := Lib.hid kl
  replace hg2 := Lib.hid hg2
  replace hg5 := Lib.hid hg5
  go_region_with (first
    | (go_at_call 37; refine (kl.out _ (by first | exact Below.refl _ _ | (repeat (first | exact Below.refl _ _ | refine Below.drew ?_ | refine Below.setCell ?_ (Nat.le_refl _) _)))).mono ?_; rintro e w' ⟨rfl, rfl⟩)
    | (go_at_call 41; refine (cps _).mono ?_; rintro e w' ⟨rfl, rfl⟩))
  all_goals
    go_wp2
    have hV := (put5_blk hz4.out (.string ⟨#[]⟩) (.string N) (.string ⟨#[]⟩) (.slice a1 n1 c1) (.slice a2 n2 c2)).drew
    have hSV := (put5_save w3 g2 (.string ⟨#[]⟩) (.string N) (.string ⟨#[]⟩) (.slice a1 n1 c1) (.slice a2 n2 c2)).drawn 1
    unfold put5 at hV hSV
    obtain ⟨V, hU⟩ : ∃ U, U = ((((((w3.setCell ⟨g2, 0, none⟩ (.string ⟨#[]⟩)).setCell ⟨g2, 1, none⟩ (.string N)).setCell ⟨g2, 2, none⟩ (.string ⟨#[]⟩)).setCell ⟨g2, 3, none⟩ (.slice a1 n1 c1)).setCell ⟨g2, 4, none⟩ (.slice a2 n2 c2)).drew) := ⟨_, rfl⟩
    have hSV2 : Save g2 w3 V := by rw [hU]; exact hSV
    rw [← hU] at hV ⊢
    clear hSV
    have r0 := hV.cell 0
    have r1 := hV.cell 1
    have r2 := hV.cell 2
    have r3 := hV.cell 3
    have r4 := hV.cell 4
    have hs2 : (w2.alloc (.cells #[.string ⟨#[]⟩, .string N, .string ⟨#[]⟩, .slice a1 n1 c1, .slice a2 n2 c2] 27)).heap.size = w2.heap.size + 1 := World.size_alloc _ _
    have z23 := f3.out.size
    rw [hs2] at z23
    have z3V := hSV2.size
    have hg2' := hg2.out
    have zw1 := f1.out.size
    rw [World.size_alloc] at zw1
    refine bodyPost_ret (v := .tuple #[.agg #[.string ⟨#[]⟩, .string N, .string ⟨#[]⟩, .slice a1 n1 c1, .slice a2 n2 c2], .int .i64 0]) (by simp [results, Tryd.results28, go_sem, Act.put, r0, r1, r2, r3, r4]) rfl ⟨N, a1, n1, c1, a2, n2, c2, bl, rfl, ?_, ?_, ?_⟩
    · refine hnd.out.keep fun k hk => ?_
      have := hbl.out k hk
      exact (hSV2.block k (by omega) (by omega)).trans ((f3.out.block k (by rw [hs2]; omega) (by omega) (by omega)).trans (hbn.out.block k this.2))
    · intro k hk
      have := hbl.out k hk
      omega
    · exact ((Fr.of_below hb0.out).trans F3.out).tail (hSV2.below (by omega) (by omega))
end Go.Proofs.YtgomlebemefdcaaDoor

/- Parse: a walk over any answer of the reader. No condition. -/
import Derived.Test.YtgomlebemefdcaaDoorXeRoot2
set_option linter.unusedVariables false
namespace Go.Proofs.YtgomlebemefdcaaDoor
open Go Go.RowKit Go.Wk Go.Xt Go.Xe
def ParseOf (P : World → World → Array Value → Int → Prop) (w : World) (e : Ending) (w' : World) : Prop :=
  ∃ (N0 N1 N2 : ByteArray) (a1 : Option Addr) (n1 c1 : Nat) (a2 : Option Addr) (n2 c2 : Nat) (k : Int) (W W1 : World), e = .returned (.tuple #[.agg #[.string N0, .string N1, .string N2, .slice a1 n1 c1, .slice a2 n2 c2], .int .i64 k]) ∧ P W W1 #[.string N0, .string N1, .string N2, .slice a1 n1 c1, .slice a2 n2 c2] k ∧ w.heap.size ≤ W.heap.size ∧ (∀ k, W.heap.size ≤ k → k < W1.heap.size → w'.heap[k]? = W1.heap[k]?) ∧ W1.heap.size ≤ w'.heap.size ∧ Below w.heap.size w w'
set_option maxHeartbeats 4000000 in
set_option maxRecDepth 100000 in
theorem xml_Parse {w : World} {A : Option Addr} {c : Nat} {bs : List UInt8} {P : World → World → Array Value → Int → Prop} (hb : Byt w A bs) (hc : bs.length ≤ c) (hsm : bs.length ≤ 100000) (hs : signsB bs = true) (hT : Lib.Utf8Tabs 0 1 w) (h2 : 2 ≤ w.heap.size) (hne : bs ≠ [])
    (call : ∀ W, RS W (w.heap.size + 1) (w.heap.size + 2) A bs.length bs 0 0 → Calls Tryd.prog 28 #[.pointer (some ⟨w.heap.size + 2, 0, none⟩)] W (AllOf (w.heap.size + 1) (w.heap.size + 2) P W)) :
    Calls Tryd.prog 9 #[.slice A bs.length c] w (ParseOf P w) := by
  have hb0 : Below w.heap.size w (w.alloc (.cells z5 27)) := (Below.refl _ _).alloc (Nat.le_refl _) _
  have hnew := Blk.new w 27 z5
  have cN := xml_New A c bs _ (hb.below hb0) hc hsm
  have hT0 := tabs_kept hT (hb0.block 0 (by omega)) (hb0.block 1 (by omega))
  have hz0 : (w.alloc (.cells z5 27)).heap.size = w.heap.size + 1 := World.size_alloc _ _
  rw [hz0] at cN
  have cR : ∀ W, RS W (w.heap.size + 1) (w.heap.size + 2) A bs.length bs 0 0 → Below (w.heap.size + 1) (w.alloc (.cells z5 27)) W → Calls Tryd.prog 17 #[.pointer (some ⟨w.heap.size + 2, 0, none⟩)] W (RootOf (w.heap.size + 1) (w.heap.size + 2) P W) := fun W hW hB =>
    xml_Root hW hs (tabs_kept hT0 (hB.block 0 (by omega)) (hB.block 1 (by omega))) (by omega) (by omega) hne call
  replace cN : Calls Tryd.prog 16 #[.slice A bs.length c] (w.alloc (.cells z5 27)) fun e w' => e = .returned (.pointer (some ⟨w.heap.size + 2, 0, none⟩)) ∧ RS w' (w.heap.size + 1) (w.heap.size + 2) A bs.length bs 0 0 ∧ Below (w.heap.size + 1) (w.alloc (.cells z5 27)) w' := cN
  replace cR := Lib.hid cR
  replace hb0 := Lib.hid hb0
  replace hnew := Lib.hid hnew
  replace hz0 := Lib.hid hz0
  obtain ⟨m, hm⟩ : ∃ m, m = bs.length := ⟨_, rfl⟩
  rw [← hm] at cN ⊢
  replace hm := Lib.hid hm
  clear call hb hc hsm hs hT hT0 hne
  go_enter Tryd.func9, Tryd.ntmps9
  go_wp2_with (first
    | (go_at_call 16; (with_reducible refine cN.mono ?_); rintro e w1 ⟨rfl, h1, b1⟩; have k1 := cR.out w1 (hm.out ▸ h1) b1; replace h1 := Lib.hid h1; replace b1 := Lib.hid b1)
    | (go_at_call 17; (with_reducible refine k1.mono ?_); rintro e w2 ⟨N0, N1, N2, A1, n1, c1, A2, n2, c2, k, W, W1, rfl, hP, hF, hlt, hF1, hS⟩; have hz := hz0.out; have z1 := b1.out.size; have hW1 := hF1.size; have hB2 : Below (w.heap.size + 1) w1 w2 := ((hF.below (B := w.heap.size + 1) (by omega) (by omega) (by omega)).trans (hF1.below (by omega) (by omega) (by omega))).trans (hS.below (by omega) (by omega)); have hB3 := b1.out.trans hB2; have hz : Blk w2 w.heap.size 27 z5 := (hB3.block w.heap.size (by omega)).trans hnew.out; have a0 := hz.cell 0; have a1 := hz.cell 1; have a2 := hz.cell 2; have a3 := hz.cell 3; have a4 := hz.cell 4; have y0 := hz.frozen 0; have y1 := hz.frozen 1; have y2 := hz.frozen 2; have y3 := hz.frozen 3; have y4 := hz.frozen 4; replace hz := Lib.hid hz; replace hB2 := Lib.hid hB2; replace hB3 := Lib.hid hB3; replace hP := Lib.hid hP; replace hF := Lib.hid hF; replace hF1 := Lib.hid hF1; replace hS := Lib.hid hS))
  have hV := put5_blk hz.out (.string N0) (.string N1) (.string N2) (.slice A1 n1 c1) (.slice A2 n2 c2)
  have hSV := put5_save w2 w.heap.size (.string N0) (.string N1) (.string N2) (.slice A1 n1 c1) (.slice A2 n2 c2)
  unfold put5 at hV hSV
  obtain ⟨V, hU⟩ : ∃ U, U = (((((w2.setCell ⟨w.heap.size, 0, none⟩ (.string N0)).setCell ⟨w.heap.size, 1, none⟩ (.string N1)).setCell ⟨w.heap.size, 2, none⟩ (.string N2)).setCell ⟨w.heap.size, 3, none⟩ (.slice A1 n1 c1)).setCell ⟨w.heap.size, 4, none⟩ (.slice A2 n2 c2)) := ⟨_, rfl⟩
  rw [← hU] at hV hSV ⊢
  have q0 := hV.cell 0
  have q1 := hV.cell 1
  have q2 := hV.cell 2
  have q3 := hV.cell 3
  have q4 := hV.cell 4
  have hzz := hz0.out
  have s1 := b1.out.size
  have s2 := hF1.out.size
  have s3 := hS.out.size
  have s4 := hSV.size
  refine bodyPost_ret (v := .tuple #[.agg #[.string N0, .string N1, .string N2, .slice A1 n1 c1, .slice A2 n2 c2], .int .i64 k]) (by simp [results, Tryd.results9, go_sem, q0, q1, q2, q3, q4]) rfl ⟨N0, N1, N2, A1, n1, c1, A2, n2, c2, k, W, W1, rfl, hP.out, by omega, ?_, by omega, (hb0.out.trans (hB3.out.mono (by omega))).trans (hSV.below (Nat.le_refl _) (by omega))⟩
  intro j hj hj2
  exact (hSV.block j (by omega) (by omega)).trans (hS.out.block j hj2 (by omega))
end Go.Proofs.YtgomlebemefdcaaDoor

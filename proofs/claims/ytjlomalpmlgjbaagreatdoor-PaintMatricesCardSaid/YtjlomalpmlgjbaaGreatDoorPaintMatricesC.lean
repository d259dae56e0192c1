/- The row of PaintMatrices lifted. No condition. -/
import Derived.Test.YtjlomalpmlgjbaaGreatDoorPaintMatricesA
import Derived.Test.YtjlomalpmlgjbaaGreatDoorPmOpen
import Derived.WideKeyArr2
import Derived.Test.YtjlomalpmlgjbaaGreatDoorRows
import Derived.PinnedBridge
import Derived.LaidOnce
import Derived.ProofKit
import Derived.OpenShut
set_option linter.unusedVariables false
namespace Go.Proofs.YtjlomalpmlgjbaaGreatDoor.paintMatrices
open Go Go.ChangeShapes Go.WideShapes Go.ChangeAt Go.RowKit
theorem own : ownKnob Tryz.prog.godebug = none := by kernel_rfl
set_option maxRecDepth 100000 in
theorem lifted (os : Os) (started : os.Started) (H : Type) (enc : TypeId × Value → H) :
    ReturnsInHanded {} Tryz.checked os 3 .any (fun w args => (Rows.paintMatricesSpec.pre enc Tryz.prog Tryz.f3 [] false w args ∧ laidMetH Tryz.prog Rows.paintMatricesRow.laid w) ∧ sizedMet enc Tryz.prog Tryz.f3 (OpenSpec.ofChange Rows.paintMatricesSpec) false w args)
      (Rows.paintMatricesSpec.post enc Tryz.prog Tryz.f3 false true false false) := by
  refine Am.law_any (C := Tryz.checked) started own (by as_aux_lemma => kernel_rfl) Tryz.func3 (by as_aux_lemma => kernel_rfl) ?_ rfl Tryz.underlying4 (by as_aux_lemma => kernel_rfl) (by as_aux_lemma => kernel_rfl) (by as_aux_lemma => kernel_rfl)
    (ChangeSpec.witness_shaped (enc := enc) (C := Tryz.checked) (os := os) (X := fun w _ => laidMetH Tryz.prog Rows.paintMatricesRow.laid w) false (World.laidAll Tryz.prog os Rows.paintMatricesRow.laid) #[.agg #[.int .i64 0, .int .i64 0, .int .i64 0, .int .i64 0, .int .i64 0, .int .i64 0], .agg #[.int .i64 0, .int .i64 0, .int .i64 0, .int .i64 0, .int .i64 0, .int .i64 0], .agg #[.int .i64 0, .int .i64 0]] 8 (World.laidAll_os _ _ _)
      (World.shaped_of_ZipB (by as_aux_lemma => kernel_rfl) (by as_aux_lemma => kernel_rfl)) (by as_aux_lemma => kernel_rfl) (by as_aux_lemma => kernel_rfl) (by as_aux_lemma => kernel_rfl)
      (by rw [MakeChecks.laidMetH_plain _ _ _ (by as_aux_lemma => kernel_rfl)]; exact laidMet_laidAll _ (by as_aux_lemma => kernel_rfl) (by as_aux_lemma => kernel_rfl))) ?_
  · intro ds hd
    have h2 : Tryz.f3.params.size = 3 := by kernel_rfl
    rw [h2] at hd
    match ds, hd with
    | [d1, d2, d3], _ => rfl
  · intro W base args ds before hg hL hval hA
    have hA : DataW.TrodAll enc Tryz.prog W 0 (fun _ => true) true Tryz.f3.params.toList args.toList ds before := hA
    rw [Tryz.params3] at hA hval
    obtain ⟨v0, vs0, d0, ds0, p0, q0, hargs, rfl, rfl, h0, r0⟩ := trodAll_cons hA
    obtain ⟨v1, vs1, d1, ds1, p1, q1, rfl, rfl, rfl, h1, r1⟩ := trodAll_cons r0
    obtain ⟨v2, vs2, d2, ds2, p2, q2, rfl, rfl, rfl, h2, r2⟩ := trodAll_cons r1
    obtain ⟨rfl, rfl, rfl⟩ := trodAll_nil r2
    obtain rfl : args = #[v0, v1, v2] := by cases args; simp_all
    obtain ⟨cs0, rfl, _⟩ := okWide_array' Tryz.underlying23 (hval 0 23 v0 rfl rfl)
    obtain ⟨fuel0, hf0⟩ := h0
    obtain ⟨cs1, rfl, _⟩ := okWide_array' Tryz.underlying23 (hval 1 23 v1 rfl rfl)
    obtain ⟨fuel1, hf1⟩ := h1
    obtain ⟨cs2, rfl, _⟩ := okWide_array' Tryz.underlying24 (hval 2 24 v2 rfl rfl)
    obtain ⟨fuel2, hf2⟩ := h2
    obtain ⟨a, ha, rfl⟩ := open_mat (cs := cs0) hf0
    obtain ⟨b, hb, rfl⟩ := open_mat (cs := cs1) hf1
    obtain ⟨x, y, hx, hy, rfl⟩ := open_two (cs := cs2) hf2
    exact matrices_law a b x y ha hb hx hy W (awakeG W hg hL)
end Go.Proofs.YtjlomalpmlgjbaaGreatDoor.paintMatrices

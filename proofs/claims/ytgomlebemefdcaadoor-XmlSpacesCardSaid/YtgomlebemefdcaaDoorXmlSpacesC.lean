/- The row of XmlSpaces lifted. No condition. -/
import Derived.Test.YtgomlebemefdcaaDoorXmlSpacesA
import Derived.Test.YtgomlebemefdcaaDoorXbJE
import Derived.Test.YtgomlebemefdcaaDoorRows
import Derived.PinnedBridge
import Derived.LaidOnce
import Derived.ProofKit
import Derived.OpenShut
set_option linter.unusedVariables false
namespace Go.Proofs.YtgomlebemefdcaaDoor.xmlSpaces
open Go Go.ChangeShapes Go.WideShapes Go.ChangeAt Go.RowKit
theorem own : ownKnob Tryd.prog.godebug = none := by kernel_rfl
set_option maxRecDepth 100000 in
theorem lifted (os : Os) (started : os.Started) (H : Type) (enc : TypeId × Value → H) :
    ReturnsInHanded {} Tryd.checked os 4 .any (fun w args => (Rows.xmlSpacesSpec.pre enc Tryd.prog Tryd.f4 [] false w args ∧ laidMetH Tryd.prog Rows.xmlSpacesRow.laid w) ∧ sizedMet enc Tryd.prog Tryd.f4 (OpenSpec.ofChange Rows.xmlSpacesSpec) false w args)
      (Rows.xmlSpacesSpec.post enc Tryd.prog Tryd.f4 false true false false) := by
  refine Am.law_any (C := Tryd.checked) started own (by as_aux_lemma => kernel_rfl) Tryd.func4 (by as_aux_lemma => kernel_rfl) ?_ rfl Tryd.underlying4 (by as_aux_lemma => kernel_rfl) (by as_aux_lemma => kernel_rfl) (by as_aux_lemma => kernel_rfl)
    (ChangeSpec.witness_shaped (enc := enc) (C := Tryd.checked) (os := os) (X := fun w _ => laidMetH Tryd.prog Rows.xmlSpacesRow.laid w) false (World.laidAll Tryd.prog os Rows.xmlSpacesRow.laid) #[.slice none 0 0] 8 (World.laidAll_os _ _ _)
      (World.shaped_of_ZipB (by as_aux_lemma => kernel_rfl) (by as_aux_lemma => kernel_rfl)) (by as_aux_lemma => kernel_rfl) (by as_aux_lemma => kernel_rfl) (by as_aux_lemma => kernel_rfl)
      (by rw [MakeChecks.laidMetH_plain _ _ _ (by as_aux_lemma => kernel_rfl)]; exact laidMet_laidAll _ (by as_aux_lemma => kernel_rfl) (by as_aux_lemma => kernel_rfl))) ?_
  · intro ds hd
    have h2 : Tryd.f4.params.size = 1 := by kernel_rfl
    rw [h2] at hd
    match ds, hd with
    | [d1], _ => rfl
  · intro W base args ds before hg hL hval hA
    have hA : DataW.TrodAll enc Tryd.prog W 0 (fun _ => true) true Tryd.f4.params.toList args.toList ds before := hA
    rw [Tryd.params4] at hA hval
    obtain ⟨v0, vs0, d0, ds0, p0, q0, hargs, rfl, rfl, h0, r0⟩ := trodAll_cons hA
    obtain ⟨rfl, rfl, rfl⟩ := trodAll_nil r0
    obtain rfl : args = #[v0] := by cases args; simp_all
    obtain ⟨a0, len0, cap0, rfl⟩ := okWide_slice Tryd.underlying22 (hval 0 22 v0 rfl rfl)
    obtain ⟨fuel0, hf0⟩ := h0
    obtain ⟨A, c, bs, hcs0, hB, _, hle⟩ := Wk.open_byt Tryd.underlying22 Tryd.underlying5 (by kernel_rfl) hf0
    simp [Value.cells] at hcs0
    obtain ⟨rfl, rfl, rfl⟩ := hcs0
    have hG : Tryd.checked.prog.globals.size = 3 := globs
    exact spaces_law hB hle (tabs_of (noHandle W hL)) (by omega) (awakeG W hg hL W (Below.refl _ _))
end Go.Proofs.YtgomlebemefdcaaDoor.xmlSpaces

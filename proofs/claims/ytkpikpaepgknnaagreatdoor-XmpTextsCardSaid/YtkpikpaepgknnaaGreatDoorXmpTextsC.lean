/- The row of XmpTexts lifted. No condition. -/
import Derived.Test.YtkpikpaepgknnaaGreatDoorXmpTextsA
import Derived.Test.YtkpikpaepgknnaaGreatDoorXtLaw
import Derived.ChangeMaps5
import Derived.Test.YtkpikpaepgknnaaGreatDoorRows
import Derived.PinnedBridge
import Derived.LaidOnce
import Derived.ProofKit
import Derived.OpenShut
set_option linter.unusedVariables false
namespace Go.Proofs.YtkpikpaepgknnaaGreatDoor.xmpTexts
open Go Go.ChangeShapes Go.WideShapes Go.ChangeAt Go.RowKit
theorem own : ownKnob Tryz.prog.godebug = none := by kernel_rfl
set_option maxRecDepth 100000 in
theorem lifted (os : Os) (started : os.Started) (H : Type) (enc : TypeId × Value → H) :
    ReturnsInHanded {} Tryz.checked os 7 .any (fun w args => (Rows.xmpTextsSpec.pre enc Tryz.prog Tryz.f7 [] false w args ∧ laidMetH Tryz.prog Rows.xmpTextsRow.laid w) ∧ sizedMet enc Tryz.prog Tryz.f7 (OpenSpec.ofChange Rows.xmpTextsSpec) false w args)
      (Rows.xmpTextsSpec.post enc Tryz.prog Tryz.f7 false true false false) := by
  refine Am.law_anyS (C := Tryz.checked) started own (by as_aux_lemma => kernel_rfl) Tryz.func7 (by as_aux_lemma => kernel_rfl) ?_ rfl Tryz.underlying4 (by as_aux_lemma => kernel_rfl) (by as_aux_lemma => kernel_rfl) (by as_aux_lemma => kernel_rfl)
    (ChangeSpec.witness_shaped (enc := enc) (C := Tryz.checked) (os := os) (X := fun w _ => laidMetH Tryz.prog Rows.xmpTextsRow.laid w) false (World.laidAll Tryz.prog os Rows.xmpTextsRow.laid) #[.slice none 0 0, .string ⟨#[]⟩, .string ⟨#[]⟩] 8 (World.laidAll_os _ _ _)
      (World.shaped_of_ZipB (by as_aux_lemma => kernel_rfl) (by as_aux_lemma => kernel_rfl)) (by as_aux_lemma => kernel_rfl) (by as_aux_lemma => kernel_rfl) (by as_aux_lemma => kernel_rfl)
      (by rw [MakeChecks.laidMetH_plain _ _ _ (by as_aux_lemma => kernel_rfl)]; exact laidMet_laidAll _ (by as_aux_lemma => kernel_rfl) (by as_aux_lemma => kernel_rfl))) ?_
  · intro ds hd
    have h2 : Tryz.f7.params.size = 3 := by kernel_rfl
    rw [h2] at hd
    match ds, hd with
    | [d1, d2, d3], _ => rfl
  · intro W base args ds before hsh hg hL hval hA
    have hA : DataW.TrodAll enc Tryz.prog W 0 (fun _ => true) true Tryz.f7.params.toList args.toList ds before := hA
    rw [Tryz.params7] at hA hval
    obtain ⟨v0, vs0, d0, ds0, p0, q0, hargs, rfl, rfl, h0, r0⟩ := trodAll_cons hA
    obtain ⟨v1, vs1, d1, ds1, p1, q1, rfl, rfl, rfl, h1, r1⟩ := trodAll_cons r0
    obtain ⟨v2, vs2, d2, ds2, p2, q2, rfl, rfl, rfl, h2, r2⟩ := trodAll_cons r1
    obtain ⟨rfl, rfl, rfl⟩ := trodAll_nil r2
    obtain rfl : args = #[v0, v1, v2] := by cases args; simp_all
    obtain ⟨a0, len0, cap0, rfl⟩ := okWide_slice Tryz.underlying25 (hval 0 25 v0 rfl rfl)
    obtain ⟨fuel0, hf0⟩ := h0
    obtain ⟨A, c, bs, hcs0, hB, _, hle⟩ := Wk.open_byt Tryz.underlying25 Tryz.underlying5 (by kernel_rfl) hf0
    simp [Value.cells] at hcs0
    obtain ⟨rfl, rfl, rfl⟩ := hcs0
    obtain ⟨s, rfl, rfl, rfl, ws⟩ := Go.ChangeMaps.open_string Tryz.underlying9 (hval 1 9 v1 rfl rfl) h1
    obtain ⟨n, rfl, rfl, rfl, wn⟩ := Go.ChangeMaps.open_string Tryz.underlying9 (hval 2 9 v2 rfl rfl) h2
    unfold maxLen at ws wn
    have hG : Tryz.checked.prog.globals.size = 3 := globs
    exact texts_law a0 cap0 bs s n W hB hle ws wn (tabs_of (noHandle W hL)) (by omega) (awakeG W hsh hg hL W (Below.refl _ _))
end Go.Proofs.YtkpikpaepgknnaaGreatDoor.xmpTexts

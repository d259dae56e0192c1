/- The row of XmlKnown lifted. No condition. -/
import Derived.Test.YtgomlebemefdcaaDoorXmlKnownA
import Derived.Test.YtgomlebemefdcaaDoorRows
import Derived.PinnedBridge
import Derived.LaidOnce
import Derived.ProofKit
import Derived.OpenShut
set_option linter.unusedVariables false
namespace Go.Proofs.YtgomlebemefdcaaDoor.xmlKnown
open Go Go.ChangeShapes Go.WideShapes Go.ChangeAt Go.RowKit
theorem own : ownKnob Tryd.prog.godebug = none := by kernel_rfl
set_option maxRecDepth 100000 in
theorem lifted (os : Os) (started : os.Started) (H : Type) (enc : TypeId × Value → H) :
    ReturnsInHanded {} Tryd.checked os 6 .any (fun w args => (Rows.xmlKnownSpec.pre enc Tryd.prog Tryd.f6 [] false w args ∧ laidMetH Tryd.prog Rows.xmlKnownRow.laid w) ∧ sizedMet enc Tryd.prog Tryd.f6 (OpenSpec.ofChange Rows.xmlKnownSpec) false w args)
      (Rows.xmlKnownSpec.post enc Tryd.prog Tryd.f6 false true false false) :=
  Am.law_closed (C := Tryd.checked) started own (by as_aux_lemma => kernel_rfl) Tryd.func6 (by as_aux_lemma => kernel_rfl) rfl rfl (by as_aux_lemma => kernel_rfl) Tryd.underlying4 (by as_aux_lemma => kernel_rfl)
    (ChangeSpec.witness_shaped (enc := enc) (C := Tryd.checked) (os := os) (X := fun w _ => laidMetH Tryd.prog Rows.xmlKnownRow.laid w) false (World.laidAll Tryd.prog os Rows.xmlKnownRow.laid) #[] 8 (World.laidAll_os _ _ _)
      (World.shaped_of_ZipB (by as_aux_lemma => kernel_rfl) (by as_aux_lemma => kernel_rfl)) (by as_aux_lemma => kernel_rfl) (by as_aux_lemma => kernel_rfl) (by as_aux_lemma => kernel_rfl)
      (by rw [MakeChecks.laidMetH_plain _ _ _ (by as_aux_lemma => kernel_rfl)]; exact laidMet_laidAll _ (by as_aux_lemma => kernel_rfl) (by as_aux_lemma => kernel_rfl)))
    walk
end Go.Proofs.YtgomlebemefdcaaDoor.xmlKnown

/- The row of PaintKnown lifted. No condition. -/
import Derived.Test.YtmgpjhpeglkeeaaGreatDoorPaintKnownA
import Derived.Test.YtmgpjhpeglkeeaaGreatDoorRows
import Derived.PinnedBridge
import Derived.LaidOnce
import Derived.ProofKit
import Derived.OpenShut
set_option linter.unusedVariables false
namespace Go.Proofs.YtmgpjhpeglkeeaaGreatDoor.paintKnown
open Go Go.ChangeShapes Go.WideShapes Go.ChangeAt Go.RowKit
theorem own : ownKnob Tryz.prog.godebug = none := by kernel_rfl
set_option maxRecDepth 100000 in
theorem lifted (os : Os) (started : os.Started) (H : Type) (enc : TypeId × Value → H) :
    ReturnsInHanded {} Tryz.checked os 3 .any (fun w args => (Rows.paintKnownSpec.pre enc Tryz.prog Tryz.f3 [] false w args ∧ laidMetH Tryz.prog Rows.paintKnownRow.laid w) ∧ sizedMet enc Tryz.prog Tryz.f3 (OpenSpec.ofChange Rows.paintKnownSpec) false w args)
      (Rows.paintKnownSpec.post enc Tryz.prog Tryz.f3 false true false false) :=
  Am.law_closed (C := Tryz.checked) started own (by as_aux_lemma => kernel_rfl) Tryz.func3 (by as_aux_lemma => kernel_rfl) rfl rfl (by as_aux_lemma => kernel_rfl) Tryz.underlying4 (by as_aux_lemma => kernel_rfl)
    (ChangeSpec.witness_shaped (enc := enc) (C := Tryz.checked) (os := os) (X := fun w _ => laidMetH Tryz.prog Rows.paintKnownRow.laid w) false (World.laidAll Tryz.prog os Rows.paintKnownRow.laid) #[] 8 (World.laidAll_os _ _ _)
      (World.shaped_of_ZipB (by as_aux_lemma => kernel_rfl) (by as_aux_lemma => kernel_rfl)) (by as_aux_lemma => kernel_rfl) (by as_aux_lemma => kernel_rfl) (by as_aux_lemma => kernel_rfl)
      (by rw [MakeChecks.laidMetH_plain _ _ _ (by as_aux_lemma => kernel_rfl)]; exact laidMet_laidAll _ (by as_aux_lemma => kernel_rfl) (by as_aux_lemma => kernel_rfl)))
    walk
end Go.Proofs.YtmgpjhpeglkeeaaGreatDoor.paintKnown

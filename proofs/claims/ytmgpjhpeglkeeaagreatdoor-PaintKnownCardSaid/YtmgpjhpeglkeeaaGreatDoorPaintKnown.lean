/- It proves the statement PaintKnownCardSaid of this seat: the closed call answers true. No condition. -/
import Derived.Test.YtmgpjhpeglkeeaaGreatDoorPaintKnownC
import Derived.Test.YtmgpjhpeglkeeaaGreatDoorPaintKnownB
import Derived.Test.YtmgpjhpeglkeeaaGreatDoorRows
import Derived.Test.YtmgpjhpeglkeeaaGreatDoorCards
import Derived.Test.YtmgpjhpeglkeeaaGreatDoorTie
import Derived.SevenTiedAt
import Derived.ProofKit
import Derived.OpenShut
set_option linter.unusedVariables false
namespace Go.Proofs.YtmgpjhpeglkeeaaGreatDoor.paintKnown
open Go Go.ChangeShapes Go.WideShapes Go.ChangeAt Go.RowKit
theorem holds : Rows.paintKnownRow.holds Tryz.pinned (OpenSpec.ofChange Rows.paintKnownSpec) :=
  OpenClaim.holds_of_wide 3 Tryz.f3 rfl rfl rfl rfl rfl rfl rfl ⟨rfl, rfl, rfl, rfl, rfl⟩ rfl rfl rfl rfl rfl (by as_aux_lemma => kernel_rfl) Tryz.func3 closed
    (of_decide_eq_true (by as_aux_lemma => kernel_rfl)) (by unfold Func.isWrapper; first | (rw [if_pos (by decide +kernel)]; kernel_rfl) | (rw [if_neg (by decide +kernel)]; exact ⟨rfl, rfl⟩))
    (fun os started H enc _ => lifted os started H enc)
theorem proved : Rows.PaintKnownCardSaid :=
  Claim7.holds_tied_plain_at .later [] [.listed, .data] true (true, "82b9cfc8ca3f43c8f46219869abb0af6f493f5cc6f499addfc3503f6c38438d7") false holds (fun _ h => by cases h) (by as_aux_lemma => kernel_rfl) (fun _ h => by cases h) paintKnown_row_tie rfl ⟨rfl, rfl⟩ (by as_aux_lemma => kernel_rfl) rfl
    (fun f fn hf hfn => by
      obtain rfl : f = 3 := Option.some.inj ((show Tryz.prog.funcNamed Rows.paintKnownRow.func = some 3 by kernel_rfl).symm.trans hf) |>.symm
      obtain rfl : fn = Tryz.f3 := (Option.some.inj (Tryz.func3.symm.trans hfn)).symm
      exact ⟨by kernel_rfl, fun j t ht => by
        rw [show Tryz.f3.params = #[] by kernel_rfl] at ht
        simp at ht⟩)
    (by as_aux_lemma => kernel_rfl)
#print axioms proved
end Go.Proofs.YtmgpjhpeglkeeaaGreatDoor.paintKnown

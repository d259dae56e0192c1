/- It proves the statement PrintItemsUptoCardSaid of this seat. No condition. -/
import Derived.Test.YthacnnmlephkhaaGreatDoorPrintItemsC
import Derived.Test.YthacnnmlephkhaaGreatDoorPrintItemsB
import Derived.Test.YthacnnmlephkhaaGreatDoorRows
import Derived.Test.YthacnnmlephkhaaGreatDoorCards
import Derived.Test.YthacnnmlephkhaaGreatDoorTie
import Derived.SevenTiedAt
import Derived.ProofKit
import Derived.OpenShut
set_option linter.unusedVariables false
namespace Go.Proofs.YthacnnmlephkhaaGreatDoor.printItems
open Go Go.ChangeShapes Go.WideShapes Go.ChangeAt Go.RowKit
theorem holds : Rows.printItemsUptoRow.holds Tryz.pinned (Rows.OpenSpec.upto Rows.printItemsSpec) :=
 OpenClaim.holds_of_cond 5 Tryz.f5 rfl rfl rfl rfl rfl rfl rfl ⟨rfl, rfl, rfl, rfl, rfl⟩ rfl rfl rfl rfl rfl (by as_aux_lemma => kernel_rfl) Tryz.func5 closed
  (of_decide_eq_true (by as_aux_lemma => kernel_rfl)) (by unfold Func.isWrapper; first | (rw [if_pos (by decide +kernel)]; kernel_rfl) | (rw [if_neg (by decide +kernel)]; exact ⟨rfl, rfl⟩))
  (fun os started H enc _ F => by rw [OpenClaim.pre_eq_preRow]; exact lifted os started H enc F)
theorem proved : Rows.PrintItemsUptoCardSaid :=
 Claim7.holds_tied_plain_at .later [] [.data, .data, .data, .data, .pinned] true (true, "f05056fa1bdbaee4047459000588abd8856f5b0eedb14be6d6e12117c8d57a2a") false holds (fun _ h => by cases h) (by as_aux_lemma => kernel_rfl) (fun _ h => by cases h) printItemsUpto_row_tie rfl ⟨rfl, rfl⟩ (by as_aux_lemma => kernel_rfl) rfl
  (fun f fn hf hfn => by
   obtain rfl : f = 5 := Option.some.inj ((show Tryz.prog.funcNamed Rows.printItemsUptoRow.func = some 5 by kernel_rfl).symm.trans hf) |>.symm
   obtain rfl : fn = Tryz.f5 := (Option.some.inj (Tryz.func5.symm.trans hfn)).symm
   exact ⟨by kernel_rfl, fun j t ht => by
    have hall : (Tryz.f5.params.toList.all fun t => !(Tryz.prog.wantsStandIn t)) = true := by kernel_rfl
    have hm : t ∈ Tryz.f5.params.toList := by simpa using Array.mem_of_getElem? ht
    have h3 : (!(Tryz.prog.wantsStandIn t)) = true := List.all_eq_true.1 hall t hm
    show Tryz.prog.wantsStandIn t = false
    simpa using h3⟩)
  (by as_aux_lemma => kernel_rfl)
#print axioms proved
end Go.Proofs.YthacnnmlephkhaaGreatDoor.printItems

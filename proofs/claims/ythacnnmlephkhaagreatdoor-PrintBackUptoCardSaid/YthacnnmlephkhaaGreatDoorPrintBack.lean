/- It proves the statement PrintBackUptoCardSaid of this seat. No condition. -/
import Derived.Test.YthacnnmlephkhaaGreatDoorPrintBackC
import Derived.Test.YthacnnmlephkhaaGreatDoorPrintBackB
import Derived.Test.YthacnnmlephkhaaGreatDoorRows
import Derived.Test.YthacnnmlephkhaaGreatDoorCards
import Derived.Test.YthacnnmlephkhaaGreatDoorTie
import Derived.SevenTiedAt
import Derived.ProofKit
import Derived.OpenShut
set_option linter.unusedVariables false
namespace Go.Proofs.YthacnnmlephkhaaGreatDoor.printBack
open Go Go.ChangeShapes Go.WideShapes Go.ChangeAt Go.RowKit
theorem holds : Rows.printBackUptoRow.holds Tryz.pinned (Rows.OpenSpec.upto Rows.printBackSpec) :=
 OpenClaim.holds_of_cond 6 Tryz.f6 rfl rfl rfl rfl rfl rfl rfl ⟨rfl, rfl, rfl, rfl, rfl⟩ rfl rfl rfl rfl rfl (by as_aux_lemma => kernel_rfl) Tryz.func6 closed
  (of_decide_eq_true (by as_aux_lemma => kernel_rfl)) (by unfold Func.isWrapper; first | (rw [if_pos (by decide +kernel)]; kernel_rfl) | (rw [if_neg (by decide +kernel)]; exact ⟨rfl, rfl⟩))
  (fun os started H enc _ F => by rw [OpenClaim.pre_eq_preRow]; exact lifted os started H enc F)
theorem proved : Rows.PrintBackUptoCardSaid :=
 Claim7.holds_tied_plain_at .later [] [.data, .data, .data, .data, .pinned] true (true, "f05056fa1bdbaee4047459000588abd8856f5b0eedb14be6d6e12117c8d57a2a") false holds (fun _ h => by cases h) (by as_aux_lemma => kernel_rfl) (fun _ h => by cases h) printBackUpto_row_tie rfl ⟨rfl, rfl⟩ (by as_aux_lemma => kernel_rfl) rfl
  (fun f fn hf hfn => by
   obtain rfl : f = 6 := Option.some.inj ((show Tryz.prog.funcNamed Rows.printBackUptoRow.func = some 6 by kernel_rfl).symm.trans hf) |>.symm
   obtain rfl : fn = Tryz.f6 := (Option.some.inj (Tryz.func6.symm.trans hfn)).symm
   exact ⟨by kernel_rfl, fun j t ht => by
    have hall : (Tryz.f6.params.toList.all fun t => !(Tryz.prog.wantsStandIn t)) = true := by kernel_rfl
    have hm : t ∈ Tryz.f6.params.toList := by simpa using Array.mem_of_getElem? ht
    have h3 : (!(Tryz.prog.wantsStandIn t)) = true := List.all_eq_true.1 hall t hm
    show Tryz.prog.wantsStandIn t = false
    simpa using h3⟩)
  (by as_aux_lemma => kernel_rfl)
#print axioms proved
end Go.Proofs.YthacnnmlephkhaaGreatDoor.printBack

/- It proves the statement PrintUnlikeUptoCardSaid of this seat. No condition. -/
import Derived.Test.YthacnnmlephkhaaDoorPrintUnlikeC
import Derived.Test.YthacnnmlephkhaaDoorPrintUnlikeB
import Derived.Test.YthacnnmlephkhaaDoorRows
import Derived.Test.YthacnnmlephkhaaDoorCards
import Derived.Test.YthacnnmlephkhaaDoorTie
import Derived.SevenTiedAt
import Derived.ProofKit
import Derived.OpenShut
set_option linter.unusedVariables false
namespace Go.Proofs.YthacnnmlephkhaaDoor.printUnlike
open Go Go.ChangeShapes Go.WideShapes Go.ChangeAt Go.RowKit
theorem holds : Rows.printUnlikeUptoRow.holds Tryd.pinned (Rows.OpenSpec.upto Rows.printUnlikeSpec) :=
  OpenClaim.holds_of_cond 3 Tryd.f3 rfl rfl rfl rfl rfl rfl rfl ⟨rfl, rfl, rfl, rfl, rfl⟩ rfl rfl rfl rfl rfl (by as_aux_lemma => kernel_rfl) Tryd.func3 closed
    (of_decide_eq_true (by as_aux_lemma => kernel_rfl)) (by unfold Func.isWrapper; first | (rw [if_pos (by decide +kernel)]; kernel_rfl) | (rw [if_neg (by decide +kernel)]; exact ⟨rfl, rfl⟩))
    (fun os started H enc _ F => by rw [OpenClaim.pre_eq_preRow]; exact lifted os started H enc F)
theorem proved : Rows.PrintUnlikeUptoCardSaid :=
  Claim7.holds_tied_plain_at .later [] [.data, .data, .data, .data, .pinned] true (true, "1797e824babad7f4d962dc6e4edbcc75ececa47c7ab34c6f6c1ccd7e9e523907") false holds (fun _ h => by cases h) (by as_aux_lemma => kernel_rfl) (fun _ h => by cases h) printUnlikeUpto_row_tie rfl ⟨rfl, rfl⟩ (by as_aux_lemma => kernel_rfl) rfl
    (fun f fn hf hfn => by
      obtain rfl : f = 3 := Option.some.inj ((show Tryd.prog.funcNamed Rows.printUnlikeUptoRow.func = some 3 by kernel_rfl).symm.trans hf) |>.symm
      obtain rfl : fn = Tryd.f3 := (Option.some.inj (Tryd.func3.symm.trans hfn)).symm
      exact ⟨by kernel_rfl, fun j t ht => by
        have hall : (Tryd.f3.params.toList.all fun t => !(Tryd.prog.wantsStandIn t)) = true := by kernel_rfl
        have hm : t ∈ Tryd.f3.params.toList := by simpa using Array.mem_of_getElem? ht
        have h3 : (!(Tryd.prog.wantsStandIn t)) = true := List.all_eq_true.1 hall t hm
        show Tryd.prog.wantsStandIn t = false
        simpa using h3⟩)
    (by as_aux_lemma => kernel_rfl)
#print axioms proved
end Go.Proofs.YthacnnmlephkhaaDoor.printUnlike

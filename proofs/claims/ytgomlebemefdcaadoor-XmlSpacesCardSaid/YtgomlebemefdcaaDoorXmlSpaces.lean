/- It proves the statement XmlSpacesCardSaid of this seat. No condition. -/
import Derived.Test.YtgomlebemefdcaaDoorXmlSpacesC
import Derived.Test.YtgomlebemefdcaaDoorXmlSpacesB
import Derived.Test.YtgomlebemefdcaaDoorRows
import Derived.Test.YtgomlebemefdcaaDoorCards
import Derived.Test.YtgomlebemefdcaaDoorTie
import Derived.SevenTiedAt
import Derived.ProofKit
import Derived.OpenShut
set_option linter.unusedVariables false
namespace Go.Proofs.YtgomlebemefdcaaDoor.xmlSpaces
open Go Go.ChangeShapes Go.WideShapes Go.ChangeAt Go.RowKit
theorem holds : Rows.xmlSpacesRow.holds Tryd.pinned (OpenSpec.ofChange Rows.xmlSpacesSpec) :=
  OpenClaim.holds_of_wide 4 Tryd.f4 rfl rfl rfl rfl rfl rfl rfl ⟨rfl, rfl, rfl, rfl, rfl⟩ rfl rfl rfl rfl rfl (by as_aux_lemma => kernel_rfl) Tryd.func4 closed
    (of_decide_eq_true (by as_aux_lemma => kernel_rfl)) (by unfold Func.isWrapper; first | (rw [if_pos (by decide +kernel)]; kernel_rfl) | (rw [if_neg (by decide +kernel)]; exact ⟨rfl, rfl⟩))
    (fun os started H enc _ => lifted os started H enc)
theorem proved : Rows.XmlSpacesCardSaid :=
  Claim7.holds_tied_plain_at .later [] [.data, .pinned] true (true, "ede593fef8e9bc71e4ec8c87fdfb45d4348b8ed49b6112240491e0a21ff111a1") false holds (fun _ h => by cases h) (by as_aux_lemma => kernel_rfl) (fun _ h => by cases h) xmlSpaces_row_tie rfl ⟨rfl, rfl⟩ (by as_aux_lemma => kernel_rfl) rfl
    (fun f fn hf hfn => by
      obtain rfl : f = 4 := Option.some.inj ((show Tryd.prog.funcNamed Rows.xmlSpacesRow.func = some 4 by kernel_rfl).symm.trans hf) |>.symm
      obtain rfl : fn = Tryd.f4 := (Option.some.inj (Tryd.func4.symm.trans hfn)).symm
      exact ⟨by kernel_rfl, fun j t ht => by
        have hall : (Tryd.f4.params.toList.all fun t => !(Tryd.prog.wantsStandIn t)) = true := by kernel_rfl
        have hm : t ∈ Tryd.f4.params.toList := by simpa using Array.mem_of_getElem? ht
        have h3 : (!(Tryd.prog.wantsStandIn t)) = true := List.all_eq_true.1 hall t hm
        show Tryd.prog.wantsStandIn t = false
        simpa using h3⟩)
    (by as_aux_lemma => kernel_rfl)
#print axioms proved
end Go.Proofs.YtgomlebemefdcaaDoor.xmlSpaces

/- It proves the statement XmlKnownCardSaid of this seat: the closed call answers true. No condition. -/
import Derived.Test.YtgomlebemefdcaaDoorXmlKnownC
import Derived.Test.YtgomlebemefdcaaDoorXmlKnownB
import Derived.Test.YtgomlebemefdcaaDoorRows
import Derived.Test.YtgomlebemefdcaaDoorCards
import Derived.Test.YtgomlebemefdcaaDoorTie
import Derived.SevenTiedAt
import Derived.ProofKit
import Derived.OpenShut
set_option linter.unusedVariables false
namespace Go.Proofs.YtgomlebemefdcaaDoor.xmlKnown
open Go Go.ChangeShapes Go.WideShapes Go.ChangeAt Go.RowKit
theorem holds : Rows.xmlKnownRow.holds Tryd.pinned (OpenSpec.ofChange Rows.xmlKnownSpec) :=
  OpenClaim.holds_of_wide 6 Tryd.f6 rfl rfl rfl rfl rfl rfl rfl ⟨rfl, rfl, rfl, rfl, rfl⟩ rfl rfl rfl rfl rfl (by as_aux_lemma => kernel_rfl) Tryd.func6 closed
    (of_decide_eq_true (by as_aux_lemma => kernel_rfl)) (by unfold Func.isWrapper; first | (rw [if_pos (by decide +kernel)]; kernel_rfl) | (rw [if_neg (by decide +kernel)]; exact ⟨rfl, rfl⟩))
    (fun os started H enc _ => lifted os started H enc)
theorem proved : Rows.XmlKnownCardSaid :=
  Claim7.holds_tied_plain_at .later [] [.data, .pinned] true (true, "ede593fef8e9bc71e4ec8c87fdfb45d4348b8ed49b6112240491e0a21ff111a1") false holds (fun _ h => by cases h) (by as_aux_lemma => kernel_rfl) (fun _ h => by cases h) xmlKnown_row_tie rfl ⟨rfl, rfl⟩ (by as_aux_lemma => kernel_rfl) rfl
    (fun f fn hf hfn => by
      obtain rfl : f = 6 := Option.some.inj ((show Tryd.prog.funcNamed Rows.xmlKnownRow.func = some 6 by kernel_rfl).symm.trans hf) |>.symm
      obtain rfl : fn = Tryd.f6 := (Option.some.inj (Tryd.func6.symm.trans hfn)).symm
      exact ⟨by kernel_rfl, fun j t ht => by
        rw [show Tryd.f6.params = #[] by kernel_rfl] at ht
        simp at ht⟩)
    (by as_aux_lemma => kernel_rfl)
#print axioms proved
end Go.Proofs.YtgomlebemefdcaaDoor.xmlKnown

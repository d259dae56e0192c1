/- It proves the statement XmpBackCardSaid of this seat. No condition. -/
import Derived.Test.YtkpikpaepgknnaaGreatDoorXmpBackC
import Derived.Test.YtkpikpaepgknnaaGreatDoorXmpBackB
import Derived.Test.YtkpikpaepgknnaaGreatDoorRows
import Derived.Test.YtkpikpaepgknnaaGreatDoorCards
import Derived.Test.YtkpikpaepgknnaaGreatDoorTie
import Derived.SevenTiedAt
import Derived.ProofKit
import Derived.OpenShut
set_option linter.unusedVariables false
namespace Go.Proofs.YtkpikpaepgknnaaGreatDoor.xmpBack
open Go Go.ChangeShapes Go.WideShapes Go.ChangeAt Go.RowKit
theorem holds : Rows.xmpBackRow.holds Tryz.pinned (OpenSpec.ofChange Rows.xmpBackSpec) :=
  OpenClaim.holds_of_wide 4 Tryz.f4 rfl rfl rfl rfl rfl rfl rfl ⟨rfl, rfl, rfl, rfl, rfl⟩ rfl rfl rfl rfl rfl (by as_aux_lemma => kernel_rfl) Tryz.func4 closed
    (of_decide_eq_true (by as_aux_lemma => kernel_rfl)) (by unfold Func.isWrapper; first | (rw [if_pos (by decide +kernel)]; kernel_rfl) | (rw [if_neg (by decide +kernel)]; exact ⟨rfl, rfl⟩))
    (fun os started H enc _ => lifted os started H enc)
theorem proved : Rows.XmpBackCardSaid :=
  Claim7.holds_tied_plain_at .later [] [.data, .pinned] true (true, "59ba235c9f002b617db2258ec1cc121147110b7c8c04acc2077a4ddc0fded6c6") false holds (fun _ h => by cases h) (by as_aux_lemma => kernel_rfl) (fun _ h => by cases h) xmpBack_row_tie rfl ⟨rfl, rfl⟩ (by as_aux_lemma => kernel_rfl) rfl
    (fun f fn hf hfn => by
      obtain rfl : f = 4 := Option.some.inj ((show Tryz.prog.funcNamed Rows.xmpBackRow.func = some 4 by kernel_rfl).symm.trans hf) |>.symm
      obtain rfl : fn = Tryz.f4 := (Option.some.inj (Tryz.func4.symm.trans hfn)).symm
      exact ⟨by kernel_rfl, fun j t ht => by
        have hall : (Tryz.f4.params.toList.all fun t => !(Tryz.prog.wantsStandIn t)) = true := by kernel_rfl
        have hm : t ∈ Tryz.f4.params.toList := by simpa using Array.mem_of_getElem? ht
        have h3 : (!(Tryz.prog.wantsStandIn t)) = true := List.all_eq_true.1 hall t hm
        show Tryz.prog.wantsStandIn t = false
        simpa using h3⟩)
    (by as_aux_lemma => kernel_rfl)
#print axioms proved
end Go.Proofs.YtkpikpaepgknnaaGreatDoor.xmpBack

/- It proves the statement TableBackUptoCardSaid of this seat. No condition. -/
import Derived.Test.YthffpbkndnhlfaaGreatDoorTableBackC
import Derived.Test.YthffpbkndnhlfaaGreatDoorTableBackB
import Derived.Test.YthffpbkndnhlfaaGreatDoorRows
import Derived.Test.YthffpbkndnhlfaaGreatDoorCards
import Derived.Test.YthffpbkndnhlfaaGreatDoorTie
import Derived.SevenTiedAt
import Derived.ProofKit
import Derived.OpenShut
set_option maxRecDepth 100000
set_option maxHeartbeats 32000000
set_option linter.unusedVariables false
namespace Go.Proofs.YthffpbkndnhlfaaGreatDoor.tableBack
open Go Go.ChangeShapes Go.WideShapes Go.ChangeAt Go.RowKit
theorem holds : Rows.tableBackUptoRow.holds Tryz.pinned (Rows.OpenSpec.upto Rows.tableBackSpec) :=
 OpenClaim.holds_of_cond 4 Tryz.f4 rfl rfl rfl rfl rfl rfl rfl ⟨rfl, rfl, rfl, rfl, rfl⟩ rfl rfl rfl rfl rfl (by as_aux_lemma => kernel_rfl) Tryz.func4 closed
  (of_decide_eq_true (by as_aux_lemma => kernel_rfl)) (by unfold Func.isWrapper; first | (rw [if_pos (by decide +kernel)]; kernel_rfl) | (rw [if_neg (by decide +kernel)]; exact ⟨rfl, rfl⟩))
  (fun os started H enc _ F => by rw [OpenClaim.pre_eq_preRow]; exact lifted os started H enc F)
theorem proved : Rows.TableBackUptoCardSaid :=
 Claim7.holds_tied_plain_at .later [] [.data, .data, .data, .data, .pinned] true (true, "191f9556f04855ab3043c5d234e31cc6c6fb91b2a5b72cf1cbe3ca997f50596e") false holds (fun _ h => by cases h) (by as_aux_lemma => kernel_rfl) (fun _ h => by cases h) tableBackUpto_row_tie rfl ⟨rfl, rfl⟩ (by as_aux_lemma => kernel_rfl) rfl
  (fun f fn hf hfn => by
   obtain rfl : f = 4 := Option.some.inj ((show Tryz.prog.funcNamed Rows.tableBackUptoRow.func = some 4 by kernel_rfl).symm.trans hf) |>.symm
   obtain rfl : fn = Tryz.f4 := (Option.some.inj (Tryz.func4.symm.trans hfn)).symm
   exact ⟨by kernel_rfl, fun j t ht => by
    have hall : (Tryz.f4.params.toList.all fun t => !(Tryz.prog.wantsStandIn t)) = true := by kernel_rfl
    have hm : t ∈ Tryz.f4.params.toList := by simpa using Array.mem_of_getElem? ht
    have h3 : (!(Tryz.prog.wantsStandIn t)) = true := List.all_eq_true.1 hall t hm
    show Tryz.prog.wantsStandIn t = false
    simpa using h3⟩)
  (by as_aux_lemma => kernel_rfl)
#print axioms proved
end Go.Proofs.YthffpbkndnhlfaaGreatDoor.tableBack

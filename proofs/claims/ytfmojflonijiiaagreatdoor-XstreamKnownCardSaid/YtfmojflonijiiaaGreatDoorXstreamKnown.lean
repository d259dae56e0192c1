/- It proves the statement XstreamKnownCardSaid of this seat: the closed call answers true. No condition. -/
import Derived.Test.YtfmojflonijiiaaGreatDoorXstreamKnownC
import Derived.Test.YtfmojflonijiiaaGreatDoorXstreamKnownB
import Derived.Test.YtfmojflonijiiaaGreatDoorRows
import Derived.Test.YtfmojflonijiiaaGreatDoorCards
import Derived.Test.YtfmojflonijiiaaGreatDoorTie
import Derived.SevenTiedAt
import Derived.ProofKit
import Derived.OpenShut
set_option linter.unusedVariables false
namespace Go.Proofs.YtfmojflonijiiaaGreatDoor.xstreamKnown
open Go Go.ChangeShapes Go.WideShapes Go.ChangeAt Go.RowKit
theorem holds : Rows.xstreamKnownRow.holds Tryz.pinned (OpenSpec.ofChange Rows.xstreamKnownSpec) :=
  OpenClaim.holds_of_wide 3 Tryz.f3 rfl rfl rfl rfl rfl rfl rfl ⟨rfl, rfl, rfl, rfl, rfl⟩ rfl rfl rfl rfl rfl (by as_aux_lemma => kernel_rfl) Tryz.func3 closed
    (of_decide_eq_true (by as_aux_lemma => kernel_rfl)) (by unfold Func.isWrapper; first | (rw [if_pos (by decide +kernel)]; kernel_rfl) | (rw [if_neg (by decide +kernel)]; exact ⟨rfl, rfl⟩))
    (fun os started H enc _ => lifted os started H enc)
theorem proved : Rows.XstreamKnownCardSaid :=
  Claim7.holds_tied_plain_at .later [] [.data, .data, .data, .data, .pinned] true (true, "71b20862a1dba31c474404329ca82ea0e889ffab584d22fbaac41f90539a61d2") false holds (fun _ h => by cases h) (by as_aux_lemma => kernel_rfl) (fun _ h => by cases h) xstreamKnown_row_tie rfl ⟨rfl, rfl⟩ (by as_aux_lemma => kernel_rfl) rfl
    (fun f fn hf hfn => by
      obtain rfl : f = 3 := Option.some.inj ((show Tryz.prog.funcNamed Rows.xstreamKnownRow.func = some 3 by kernel_rfl).symm.trans hf) |>.symm
      obtain rfl : fn = Tryz.f3 := (Option.some.inj (Tryz.func3.symm.trans hfn)).symm
      exact ⟨by kernel_rfl, fun j t ht => by
        rw [show Tryz.f3.params = #[] by kernel_rfl] at ht
        simp at ht⟩)
    (by as_aux_lemma => kernel_rfl)
#print axioms proved
end Go.Proofs.YtfmojflonijiiaaGreatDoor.xstreamKnown

/- It proves the statement TableReadsCardSaid of this seat. No condition. -/
import Derived.Test.YthffpbkndnhlfaaGreatDoorTableReadsC
import Derived.Test.YthffpbkndnhlfaaGreatDoorTableReadsB
import Derived.Test.YthffpbkndnhlfaaGreatDoorRows
import Derived.Test.YthffpbkndnhlfaaGreatDoorCards
import Derived.Test.YthffpbkndnhlfaaGreatDoorTie
import Derived.SevenTiedAt
import Derived.ProofKit
import Derived.OpenShut
set_option maxRecDepth 100000
set_option maxHeartbeats 32000000
set_option linter.unusedVariables false
namespace Go.Proofs.YthffpbkndnhlfaaGreatDoor.tableReads
open Go Go.ChangeShapes Go.WideShapes Go.ChangeAt Go.RowKit
theorem holds:Rows.tableReadsRow.holds Tryz.pinned (OpenSpec.ofChange Rows.tableReadsSpec):=
 OpenClaim.holds_of_wide 3 Tryz.f3 rfl rfl rfl rfl rfl rfl rfl ⟨rfl,rfl,rfl,rfl,rfl⟩ rfl rfl rfl rfl rfl (by as_aux_lemma=>kernel_rfl) Tryz.func3 closed
  (of_decide_eq_true (by as_aux_lemma=>kernel_rfl)) (by unfold Func.isWrapper;first|(rw[if_pos (by decide +kernel)];kernel_rfl)|(rw[if_neg (by decide +kernel)];exact⟨rfl,rfl⟩))
  (fun os started H enc _=>lifted os started H enc)
theorem proved:Rows.TableReadsCardSaid:=
 Claim7.holds_tied_plain_at .later [] [.data,.data,.data,.data,.pinned] true (true, "191f9556f04855ab3043c5d234e31cc6c6fb91b2a5b72cf1cbe3ca997f50596e") false holds (fun _ h=>by cases h) (by as_aux_lemma=>kernel_rfl) (fun _ h=>by cases h) tableReads_row_tie rfl ⟨rfl,rfl⟩ (by as_aux_lemma=>kernel_rfl) rfl
  (
   fun f fn hf hfn=>by
   obtain rfl:f=3:=Option.some.inj ((show Tryz.prog.funcNamed Rows.tableReadsRow.func=some 3 by kernel_rfl).symm.trans hf) |>.symm;obtain rfl:fn=Tryz.f3:=(Option.some.inj (Tryz.func3.symm.trans hfn)).symm;exact⟨by kernel_rfl,fun j t ht=>by
    have hall:(Tryz.f3.params.toList.all fun t=>!(Tryz.prog.wantsStandIn t))=true:=by kernel_rfl
    have hm:t∈Tryz.f3.params.toList:=by simpa using Array.mem_of_getElem? ht
    have h3:(!(Tryz.prog.wantsStandIn t))=true:=List.all_eq_true.1 hall t hm;show Tryz.prog.wantsStandIn t=false
    simpa using h3⟩)
  (by as_aux_lemma=>kernel_rfl)
#print axioms proved
end Go.Proofs.YthffpbkndnhlfaaGreatDoor.tableReads

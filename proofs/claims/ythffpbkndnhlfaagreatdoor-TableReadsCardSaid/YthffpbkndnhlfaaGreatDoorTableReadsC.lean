/- The row of TableReads lifted. No condition. -/
import Derived.Test.YthffpbkndnhlfaaGreatDoorTableReadsA
import Derived.Test.YthffpbkndnhlfaaGreatDoorTrJL
import Derived.Test.YthffpbkndnhlfaaGreatDoorRows
import Derived.PinnedBridge
import Derived.LaidOnce
import Derived.ProofKit
import Derived.OpenShut
set_option maxRecDepth 100000
set_option maxHeartbeats 32000000
set_option linter.unusedVariables false
namespace Go.Proofs.YthffpbkndnhlfaaGreatDoor.tableReads
open Go Go.ChangeShapes Go.WideShapes Go.ChangeAt Go.RowKit
theorem own:ownKnob Tryz.prog.godebug=none:=by kernel_rfl
theorem lifted (os:Os) (started:os.Started) (H:Type) (enc:TypeId×Value→H) :
 ReturnsInHanded {} Tryz.checked os 3 .any (fun w args=>(Rows.tableReadsSpec.pre enc Tryz.prog Tryz.f3 [] false w args∧laidMetH Tryz.prog Rows.tableReadsRow.laid w)∧sizedMet enc Tryz.prog Tryz.f3 (OpenSpec.ofChange Rows.tableReadsSpec) false w args)
  (Rows.tableReadsSpec.post enc Tryz.prog Tryz.f3 false true false false):=by
 refine Am.law_any (C:=Tryz.checked) started own (by as_aux_lemma=>kernel_rfl) Tryz.func3 (by as_aux_lemma=>kernel_rfl) ?_ rfl Tryz.underlying4 (by as_aux_lemma=>kernel_rfl) (by as_aux_lemma=>kernel_rfl) (by as_aux_lemma=>kernel_rfl)
  (
   ChangeSpec.witness_shaped (enc:=enc) (C:=Tryz.checked) (os:=os) (X:=fun w _=>laidMetH Tryz.prog Rows.tableReadsRow.laid w) false (World.laidAll Tryz.prog os Rows.tableReadsRow.laid) #[.slice none 0 0,.int .i64 0] 8 (World.laidAll_os _ _ _)
   (World.shaped_of_ZipB (by as_aux_lemma=>kernel_rfl) (by as_aux_lemma=>kernel_rfl)) (by as_aux_lemma=>kernel_rfl) (by as_aux_lemma=>kernel_rfl) (by as_aux_lemma=>kernel_rfl)
   (by rw[MakeChecks.laidMetH_plain _ _ _ (by as_aux_lemma=>kernel_rfl)];exact laidMet_laidAll _ (by as_aux_lemma=>kernel_rfl) (by as_aux_lemma=>kernel_rfl))) ?_
 ·intro ds hd
  have h2:Tryz.f3.params.size=2:=by kernel_rfl
  rw[h2]at hd
  match ds,hd with
  |[d1,d2],_=>rfl
 ·intro W base args ds before hg hL hval hA
  have hA:DataW.TrodAll enc Tryz.prog W 0 (fun _=>true) true Tryz.f3.params.toList args.toList ds before:=hA;rw[Tryz.params3]at hA hval;obtain⟨v0,vs0,d0,ds0,p0,q0,hargs,rfl,rfl,h0,r0⟩:=trodAll_cons hA;obtain⟨v1,vs1,d1,ds1,p1,q1,rfl,rfl,rfl,h1,r1⟩:=trodAll_cons r0;obtain⟨rfl,rfl,rfl⟩:=trodAll_nil r1;obtain rfl:args=#[v0,v1]:=by cases args;simp_all
  obtain⟨a0,len0,cap0,rfl⟩:=okWide_slice Tryz.underlying22 (hval 0 22 v0 rfl rfl);obtain⟨fuel0,hf0⟩:=h0;obtain⟨A,c,bs,hcs0,hB,_,hle⟩:=Wk.open_byt Tryz.underlying22 Tryz.underlying5 (by kernel_rfl) hf0;simp[Value.cells]at hcs0;obtain⟨rfl,rfl,rfl⟩:=hcs0;obtain⟨dep,rfl⟩:=oU (hval 1 3 v1 rfl rfl);exact lz W (sQ (noHandle W hL)) _ _ bs hB hle dep
end Go.Proofs.YthffpbkndnhlfaaGreatDoor.tableReads

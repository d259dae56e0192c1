/- The row of TableBack lifted. No condition. -/
import Derived.Test.YthffpbkndnhlfaaGreatDoorTableBackA
import Derived.Test.YthffpbkndnhlfaaGreatDoorTbJM
import Derived.Test.YthffpbkndnhlfaaGreatDoorRows
import Derived.PinnedBridge
import Derived.LaidOnce
import Derived.ProofKit
import Derived.OpenShut
set_option maxRecDepth 100000
set_option maxHeartbeats 32000000
set_option linter.unusedVariables false
namespace Go.Proofs.YthffpbkndnhlfaaGreatDoor.tableBack
open Go Go.ChangeShapes Go.WideShapes Go.ChangeAt Go.RowKit
theorem own : ownKnob Tryz.prog.godebug = none := by kernel_rfl
theorem lifted (os : Os) (started : os.Started) (H : Type) (enc : TypeId × Value → H) (F : Stop.Interp) :
 ReturnsInHanded {} Tryz.checked os 4 .any ((Rows.OpenSpec.upto Rows.tableBackSpec).preRow enc Tryz.prog Tryz.f4 Rows.tableBackUptoRow.domain false Rows.tableBackUptoRow.laid) (((Rows.OpenSpec.upto Rows.tableBackSpec).at F).post enc Tryz.prog Tryz.f4 false true false false) := by
 refine Am.law_upto (C := Tryz.checked) (s := (Rows.OpenSpec.upto Rows.tableBackSpec)) started own (by as_aux_lemma => kernel_rfl) Tryz.func4 rfl rfl ?_ rfl Tryz.underlying4 (by as_aux_lemma => kernel_rfl) (by as_aux_lemma => kernel_rfl) (by as_aux_lemma => kernel_rfl)
  (Am.witness_upto (World.laidAll Tryz.prog os Rows.tableBackUptoRow.laid) #[.agg #[.int .i64 0, .int .i64 0, .slice none 0 0, .slice none 0 0, .slice none 0 0], .slice none 0 0] (World.laidAll_os _ _ _)
   (World.shaped_of_ZipB (by as_aux_lemma => kernel_rfl) (by as_aux_lemma => kernel_rfl)) (by as_aux_lemma => kernel_rfl)
   (OpenSpec.preRow_of_cond 8 (x := ([.agg [.lit (.int .i64 0), .lit (.int .i64 0), .nil, .nil, .nil], .nil], [], [])) (by as_aux_lemma => kernel_rfl) (by as_aux_lemma => kernel_rfl) (fun k hk => by cases hk; kernel_rfl) (by as_aux_lemma => kernel_rfl)
    (by rw [MakeChecks.laidMetH_plain _ _ _ (by as_aux_lemma => kernel_rfl)]; exact laidMet_laidAll _ (by as_aux_lemma => kernel_rfl) (by as_aux_lemma => kernel_rfl)))) ?_
 ·intro ds hd
  have h2 : Tryz.f4.params.size = 2 := by kernel_rfl
  rw [h2] at hd
  match ds, hd with
  | [d1, d2], _ => rfl
 ·intro W base args ds before hg hL hcond hval hA
  replace hcond := hcond _ rfl
  have hA : DataW.TrodAll enc Tryz.prog W 0 (fun _ => true) true Tryz.f4.params.toList args.toList ds before := hA
  rw [Tryz.params4] at hA hval
  obtain ⟨v0, vs0, d0, ds0, p0, q0, hargs, rfl, rfl, h0, r0⟩ := trodAll_cons hA
  obtain ⟨v1, vs1, d1, ds1, p1, q1, rfl, rfl, rfl, h1, r1⟩ := trodAll_cons r0
  obtain ⟨rfl, rfl, rfl⟩ := trodAll_nil r1
  obtain rfl : args = #[v0, v1] := by cases args; simp_all
  have s0 := (small_two hcond).1
  obtain ⟨o, vs, rfl, hob, hob2⟩ := open_ob (hval 0 32 v0 rfl rfl) h0
  obtain ⟨A, c, l, rfl, hl⟩ := open_rows (hval 1 38 v1 rfl rfl) h1
  exact tback_law W (tab_of (noHandle W hL)) o vs hob (by omega) A c l hl
end Go.Proofs.YthffpbkndnhlfaaGreatDoor.tableBack

/- The row of TableWrites lifted. No condition. -/
import Derived.Test.YthffpbkndnhlfaaGreatDoorTableWritesA
import Derived.Test.YthffpbkndnhlfaaGreatDoorPrJG
import Derived.Test.YthffpbkndnhlfaaGreatDoorRows
import Derived.PinnedBridge
import Derived.LaidOnce
import Derived.ProofKit
import Derived.OpenShut
set_option linter.unusedVariables false
namespace Go.Proofs.YthffpbkndnhlfaaGreatDoor.tableWrites
open Go Go.ChangeShapes Go.WideShapes Go.ChangeAt Go.RowKit
theorem own : ownKnob Tryz.prog.godebug = none := by kernel_rfl
set_option maxRecDepth 100000 in
theorem lifted (os : Os) (started : os.Started) (H : Type) (enc : TypeId × Value → H) (F : Stop.Interp) :
 ReturnsInHanded {} Tryz.checked os 6 .any ((Rows.OpenSpec.upto Rows.tableWritesSpec).preRow enc Tryz.prog Tryz.f6 Rows.tableWritesUptoRow.domain false Rows.tableWritesUptoRow.laid) (((Rows.OpenSpec.upto Rows.tableWritesSpec).at F).post enc Tryz.prog Tryz.f6 false true false false) := by
 refine Am.law_upto (C := Tryz.checked) (s := (Rows.OpenSpec.upto Rows.tableWritesSpec)) started own (by as_aux_lemma => kernel_rfl) Tryz.func6 rfl rfl ?_ rfl Tryz.underlying4 (by as_aux_lemma => kernel_rfl) (by as_aux_lemma => kernel_rfl) (by as_aux_lemma => kernel_rfl)
  (Am.witness_upto (World.laidAll Tryz.prog os Rows.tableWritesUptoRow.laid) #[.agg #[.int .i64 0, .int .i64 0, .slice none 0 0, .slice none 0 0, .slice none 0 0], .slice none 0 0, .int .i64 0] (World.laidAll_os _ _ _)
   (World.shaped_of_ZipB (by as_aux_lemma => kernel_rfl) (by as_aux_lemma => kernel_rfl)) (by as_aux_lemma => kernel_rfl)
   (OpenSpec.preRow_of_cond 8 (x := ([.agg [.lit (.int .i64 0), .lit (.int .i64 0), .nil, .nil, .nil], .nil, .lit (.int .i64 0)], [], [])) (by as_aux_lemma => kernel_rfl) (by as_aux_lemma => kernel_rfl) (fun k hk => by cases hk; kernel_rfl) (by as_aux_lemma => kernel_rfl)
    (by rw [MakeChecks.laidMetH_plain _ _ _ (by as_aux_lemma => kernel_rfl)]; exact laidMet_laidAll _ (by as_aux_lemma => kernel_rfl) (by as_aux_lemma => kernel_rfl)))) ?_
 ·intro ds hd
  have h2 : Tryz.f6.params.size = 3 := by kernel_rfl
  rw [h2] at hd
  match ds, hd with
  | [d1, d2, d3], _ => rfl
 ·intro W base args ds before hg hL hcond hval hA
  replace hcond := hcond _ rfl
  have hA : DataW.TrodAll enc Tryz.prog W 0 (fun _ => true) true Tryz.f6.params.toList args.toList ds before := hA
  rw [Tryz.params6] at hA hval
  obtain ⟨v0, vs0, d0, ds0, p0, q0, hargs, rfl, rfl, h0, r0⟩ := trodAll_cons hA
  obtain ⟨v1, vs1, d1, ds1, p1, q1, rfl, rfl, rfl, h1, r1⟩ := trodAll_cons r0
  obtain ⟨v2, vs2, d2, ds2, p2, q2, rfl, rfl, rfl, h2, r2⟩ := trodAll_cons r1
  obtain ⟨rfl, rfl, rfl⟩ := trodAll_nil r2
  obtain rfl : args = #[v0, v1, v2] := by cases args; simp_all
  have s0 := small_three hcond
  obtain ⟨o, vs, rfl, hob, hob2⟩ := open_ob (hval 0 32 v0 rfl rfl) h0
  obtain ⟨A, c, l, rfl, hl⟩ := open_rows (hval 1 38 v1 rfl rfl) h1
  obtain ⟨num, rfl, rfl, rfl, w2⟩ := open_int Tryz.underlying3 (hval 2 3 v2 rfl rfl) h2
  exact table_law W (tab_of (noHandle W hL)) (fun w1 hw1 => awakeG W hg hL w1 hw1) o vs hob (by omega) A c l hl num
end Go.Proofs.YthffpbkndnhlfaaGreatDoor.tableWrites

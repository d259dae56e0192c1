/- The row of PrintBack lifted. No condition. -/
import Derived.Test.YthacnnmlephkhaaGreatDoorPrintBackA
import Derived.Test.YthacnnmlephkhaaGreatDoorPrJM
import Derived.Test.YthacnnmlephkhaaGreatDoorRows
import Derived.PinnedBridge
import Derived.LaidOnce
import Derived.ProofKit
import Derived.OpenShut
set_option linter.unusedVariables false
namespace Go.Proofs.YthacnnmlephkhaaGreatDoor.printBack
open Go Go.ChangeShapes Go.WideShapes Go.ChangeAt Go.RowKit
theorem own : ownKnob Tryz.prog.godebug = none := by kernel_rfl
set_option maxRecDepth 100000 in
theorem lifted (os : Os) (started : os.Started) (H : Type) (enc : TypeId × Value → H) (F : Stop.Interp) :
 ReturnsInHanded {} Tryz.checked os 6 .any ((Rows.OpenSpec.upto Rows.printBackSpec).preRow enc Tryz.prog Tryz.f6 Rows.printBackUptoRow.domain false Rows.printBackUptoRow.laid) (((Rows.OpenSpec.upto Rows.printBackSpec).at F).post enc Tryz.prog Tryz.f6 false true false false) := by
 refine Am.law_upto (C := Tryz.checked) (s := (Rows.OpenSpec.upto Rows.printBackSpec)) started own (by as_aux_lemma => kernel_rfl) Tryz.func6 rfl rfl ?_ rfl Tryz.underlying4 (by as_aux_lemma => kernel_rfl) (by as_aux_lemma => kernel_rfl) (by as_aux_lemma => kernel_rfl)
  (Am.witness_upto (World.laidAll Tryz.prog os Rows.printBackUptoRow.laid) #[.agg #[.int .i64 0, .int .i64 0, .int .i64 0, .slice none 0 0, .slice none 0 0, .slice none 0 0]] (World.laidAll_os _ _ _)
   (World.shaped_of_ZipB (by as_aux_lemma => kernel_rfl) (by as_aux_lemma => kernel_rfl)) (by as_aux_lemma => kernel_rfl)
   (OpenSpec.preRow_of_cond 8 (x := ([.agg [.lit (.int .i64 0), .agg [.lit (.int .i64 0), .lit (.int .i64 0), .nil, .nil, .nil]]], [], [])) (by as_aux_lemma => kernel_rfl) (by as_aux_lemma => kernel_rfl) (fun k hk => by cases hk; kernel_rfl) (by as_aux_lemma => kernel_rfl)
    (by rw [MakeChecks.laidMetH_plain _ _ _ (by as_aux_lemma => kernel_rfl)]; exact laidMet_laidAll _ (by as_aux_lemma => kernel_rfl) (by as_aux_lemma => kernel_rfl)))) ?_
 ·intro ds hd
  have h2 : Tryz.f6.params.size = 1 := by kernel_rfl
  rw [h2] at hd
  match ds, hd with
  | [d1], _ => rfl
 ·intro W base args ds before hg hL hcond hval hA
  replace hcond := hcond _ rfl
  have hA : DataW.TrodAll enc Tryz.prog W 0 (fun _ => true) true Tryz.f6.params.toList args.toList ds before := hA
  rw [Tryz.params6] at hA hval
  obtain ⟨v0, vs0, d0, ds0, p0, q0, hargs, rfl, rfl, h0, r0⟩ := trodAll_cons hA
  obtain ⟨rfl, rfl, rfl⟩ := trodAll_nil r0
  obtain rfl : args = #[v0] := by cases args; simp_all
  obtain ⟨num, o, vs, rfl, hn, hob, hob2⟩ := open_item (hval 0 41 v0 rfl rfl) h0
  have s0 := small_one hcond
  exact back_law W (tab_of (noHandle W hL)) (fun w1 hw1 => awakeG W hg hL w1 hw1) num hn o vs hob (by omega)
end Go.Proofs.YthacnnmlephkhaaGreatDoor.printBack

/- The row of PrintUnlike lifted. No condition. -/
import Derived.Test.YthacnnmlephkhaaDoorPrintUnlikeA
import Derived.Test.YthacnnmlephkhaaDoorPrJD
import Derived.Test.YthacnnmlephkhaaDoorRows
import Derived.PinnedBridge
import Derived.LaidOnce
import Derived.ProofKit
import Derived.OpenShut
set_option linter.unusedVariables false
namespace Go.Proofs.YthacnnmlephkhaaDoor.printUnlike
open Go Go.ChangeShapes Go.WideShapes Go.ChangeAt Go.RowKit
theorem own : ownKnob Tryd.prog.godebug = none := by kernel_rfl
set_option maxRecDepth 100000 in
theorem lifted (os : Os) (started : os.Started) (H : Type) (enc : TypeId × Value → H) (F : Stop.Interp) :
    ReturnsInHanded {} Tryd.checked os 3 .any ((Rows.OpenSpec.upto Rows.printUnlikeSpec).preRow enc Tryd.prog Tryd.f3 Rows.printUnlikeUptoRow.domain false Rows.printUnlikeUptoRow.laid) (((Rows.OpenSpec.upto Rows.printUnlikeSpec).at F).post enc Tryd.prog Tryd.f3 false true false false) := by
  refine Am.law_upto (C := Tryd.checked) (s := (Rows.OpenSpec.upto Rows.printUnlikeSpec)) started own (by as_aux_lemma => kernel_rfl) Tryd.func3 rfl rfl ?_ rfl Tryd.underlying4 (by as_aux_lemma => kernel_rfl) (by as_aux_lemma => kernel_rfl) (by as_aux_lemma => kernel_rfl)
    (Am.witness_upto (World.laidAll Tryd.prog os Rows.printUnlikeUptoRow.laid) #[.agg #[.int .i64 0, .int .i64 0, .slice none 0 0, .slice none 0 0, .slice none 0 0], .agg #[.int .i64 0, .int .i64 0, .slice none 0 0, .slice none 0 0, .slice none 0 0]] (World.laidAll_os _ _ _)
      (World.shaped_of_ZipB (by as_aux_lemma => kernel_rfl) (by as_aux_lemma => kernel_rfl)) (by as_aux_lemma => kernel_rfl)
      (OpenSpec.preRow_of_cond 8 (x := ([.agg [.lit (.int .i64 0), .lit (.int .i64 0), .nil, .nil, .nil], .agg [.lit (.int .i64 0), .lit (.int .i64 0), .nil, .nil, .nil]], [], [])) (by as_aux_lemma => kernel_rfl) (by as_aux_lemma => kernel_rfl) (fun k hk => by cases hk; kernel_rfl) (by as_aux_lemma => kernel_rfl)
        (by rw [MakeChecks.laidMetH_plain _ _ _ (by as_aux_lemma => kernel_rfl)]; exact laidMet_laidAll _ (by as_aux_lemma => kernel_rfl) (by as_aux_lemma => kernel_rfl)))) ?_
  · intro ds hd
    have h2 : Tryd.f3.params.size = 2 := by kernel_rfl
    rw [h2] at hd
    match ds, hd with
    | [d1, d2], _ => rfl
  · intro W base args ds before hg hL hcond hval hA
    replace hcond := hcond _ rfl
    have hA : DataW.TrodAll enc Tryd.prog W 0 (fun _ => true) true Tryd.f3.params.toList args.toList ds before := hA
    rw [Tryd.params3] at hA hval
    obtain ⟨v0, vs0, d0, ds0, p0, q0, hargs, rfl, rfl, h0, r0⟩ := trodAll_cons hA
    obtain ⟨v1, vs1, d1, ds1, p1, q1, rfl, rfl, rfl, h1, r1⟩ := trodAll_cons r0
    obtain ⟨rfl, rfl, rfl⟩ := trodAll_nil r1
    obtain rfl : args = #[v0, v1] := by cases args; simp_all
    obtain ⟨o, vs, rfl, hob, hob2⟩ := open_ob (hval 0 26 v0 rfl rfl) h0
    obtain ⟨o', us, rfl, hob', hob2'⟩ := open_ob (hval 1 26 v1 rfl rfl) h1
    obtain ⟨s0, s1⟩ := small_two hcond
    exact unlike_law W (tab_of (noHandle W hL)) (fun w1 hw1 => awakeG W hg hL w1 hw1) o o' vs us hob hob' (by omega) (by omega)
end Go.Proofs.YthacnnmlephkhaaDoor.printUnlike

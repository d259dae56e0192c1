/- The row of XmpDates lifted. No condition. -/
import Derived.Test.YtkpikpaepgknnaaGreatDoorXmpDatesA
import Derived.Test.YtkpikpaepgknnaaGreatDoorXdOpen
import Derived.WideKeyArr2
import Derived.Test.YtkpikpaepgknnaaGreatDoorRows
import Derived.PinnedBridge
import Derived.LaidOnce
import Derived.ProofKit
import Derived.OpenShut
set_option linter.unusedVariables false
namespace Go.Proofs.YtkpikpaepgknnaaGreatDoor.xmpDates
open Go Go.ChangeShapes Go.WideShapes Go.ChangeAt Go.RowKit
theorem own : ownKnob Tryz.prog.godebug = none := by kernel_rfl
set_option maxRecDepth 100000 in
theorem lifted (os : Os) (started : os.Started) (H : Type) (enc : TypeId × Value → H) :
    ReturnsInHanded {} Tryz.checked os 5 .any (fun w args => (Rows.xmpDatesSpec.pre enc Tryz.prog Tryz.f5 [] false w args ∧ laidMetH Tryz.prog Rows.xmpDatesRow.laid w) ∧ sizedMet enc Tryz.prog Tryz.f5 (OpenSpec.ofChange Rows.xmpDatesSpec) false w args)
      (Rows.xmpDatesSpec.post enc Tryz.prog Tryz.f5 false true false false) := by
  refine Am.law_anyS (C := Tryz.checked) started own (by as_aux_lemma => kernel_rfl) Tryz.func5 (by as_aux_lemma => kernel_rfl) ?_ rfl Tryz.underlying4 (by as_aux_lemma => kernel_rfl) (by as_aux_lemma => kernel_rfl) (by as_aux_lemma => kernel_rfl)
    (ChangeSpec.witness_shaped (enc := enc) (C := Tryz.checked) (os := os) (X := fun w _ => laidMetH Tryz.prog Rows.xmpDatesRow.laid w) false (World.laidAll Tryz.prog os Rows.xmpDatesRow.laid) #[.agg #[.int .u16 0, .int .u16 0, .int .u16 0, .int .u16 0, .int .u16 0, .int .u16 0], .int .u16 0, .int .u8 0] 8 (World.laidAll_os _ _ _)
      (World.shaped_of_ZipB (by as_aux_lemma => kernel_rfl) (by as_aux_lemma => kernel_rfl)) (by as_aux_lemma => kernel_rfl) (by as_aux_lemma => kernel_rfl) (by as_aux_lemma => kernel_rfl)
      (by rw [MakeChecks.laidMetH_plain _ _ _ (by as_aux_lemma => kernel_rfl)]; exact laidMet_laidAll _ (by as_aux_lemma => kernel_rfl) (by as_aux_lemma => kernel_rfl))) ?_
  · intro ds hd
    have h2 : Tryz.f5.params.size = 3 := by kernel_rfl
    rw [h2] at hd
    match ds, hd with
    | [d1, d2, d3], _ => rfl
  · intro W base args ds before hsh hg hL hval hA
    have hA : DataW.TrodAll enc Tryz.prog W 0 (fun _ => true) true Tryz.f5.params.toList args.toList ds before := hA
    rw [Tryz.params5] at hA hval
    obtain ⟨v0, vs0, d0, ds0, p0, q0, hargs, rfl, rfl, h0, r0⟩ := trodAll_cons hA
    obtain ⟨v1, vs1, d1, ds1, p1, q1, rfl, rfl, rfl, h1, r1⟩ := trodAll_cons r0
    obtain ⟨v2, vs2, d2, ds2, p2, q2, rfl, rfl, rfl, h2, r2⟩ := trodAll_cons r1
    obtain ⟨rfl, rfl, rfl⟩ := trodAll_nil r2
    obtain rfl : args = #[v0, v1, v2] := by cases args; simp_all
    obtain ⟨cs0, rfl, _⟩ := okWide_array' Tryz.underlying47 (hval 0 47 v0 rfl rfl)
    obtain ⟨fuel0, hf0⟩ := h0
    obtain ⟨pp, hpp, rfl⟩ := open_parts6 (cs := cs0) hf0
    obtain ⟨a, rfl, rfl, rfl, w1⟩ := open_int Tryz.underlying46 (hval 1 46 v1 rfl rfl) h1
    obtain ⟨zn, hzn, rfl⟩ := u16_nat w1
    obtain ⟨b, rfl, rfl, rfl, w2⟩ := open_int Tryz.underlying5 (hval 2 5 v2 rfl rfl) h2
    obtain ⟨wg, hwg⟩ := Wk.wf_u8 w2
    subst hwg
    exact dates_law pp hpp zn hzn wg.toNat wg.toNat_lt W (awakeG W hsh hg hL)
end Go.Proofs.YtkpikpaepgknnaaGreatDoor.xmpDates

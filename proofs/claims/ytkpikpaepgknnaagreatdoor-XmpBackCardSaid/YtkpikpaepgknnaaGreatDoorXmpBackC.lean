/- The row of XmpBack lifted. No condition. -/
import Derived.Test.YtkpikpaepgknnaaGreatDoorXmpBackA
import Derived.Test.YtkpikpaepgknnaaGreatDoorXkJM
import Derived.Test.YtkpikpaepgknnaaGreatDoorRows
import Derived.PinnedBridge
import Derived.LaidOnce
import Derived.ProofKit
import Derived.OpenShut
set_option linter.unusedVariables false
namespace Go.Proofs.YtkpikpaepgknnaaGreatDoor.xmpBack
open Go Go.ChangeShapes Go.WideShapes Go.ChangeAt Go.RowKit
theorem own : ownKnob Tryz.prog.godebug = none := by kernel_rfl
set_option maxRecDepth 100000 in
theorem lifted (os : Os) (started : os.Started) (H : Type) (enc : TypeId × Value → H) :
    ReturnsInHanded {} Tryz.checked os 4 .any (fun w args => (Rows.xmpBackSpec.pre enc Tryz.prog Tryz.f4 [] false w args ∧ laidMetH Tryz.prog Rows.xmpBackRow.laid w) ∧ sizedMet enc Tryz.prog Tryz.f4 (OpenSpec.ofChange Rows.xmpBackSpec) false w args)
      (Rows.xmpBackSpec.post enc Tryz.prog Tryz.f4 false true false false) := by
  refine Am.law_anyS (C := Tryz.checked) started own (by as_aux_lemma => kernel_rfl) Tryz.func4 (by as_aux_lemma => kernel_rfl) ?_ rfl Tryz.underlying4 (by as_aux_lemma => kernel_rfl) (by as_aux_lemma => kernel_rfl) (by as_aux_lemma => kernel_rfl)
    (ChangeSpec.witness_shaped (enc := enc) (C := Tryz.checked) (os := os) (X := fun w _ => laidMetH Tryz.prog Rows.xmpBackRow.laid w) false (World.laidAll Tryz.prog os Rows.xmpBackRow.laid) #[.slice none 0 0] 8 (World.laidAll_os _ _ _)
      (World.shaped_of_ZipB (by as_aux_lemma => kernel_rfl) (by as_aux_lemma => kernel_rfl)) (by as_aux_lemma => kernel_rfl) (by as_aux_lemma => kernel_rfl) (by as_aux_lemma => kernel_rfl)
      (by rw [MakeChecks.laidMetH_plain _ _ _ (by as_aux_lemma => kernel_rfl)]; exact laidMet_laidAll _ (by as_aux_lemma => kernel_rfl) (by as_aux_lemma => kernel_rfl))) ?_
  · intro ds hd
    have h2 : Tryz.f4.params.size = 1 := by kernel_rfl
    rw [h2] at hd
    match ds, hd with
    | [d1], _ => rfl
  · intro W base args ds before hsh hg hL hval hA
    have hA : DataW.TrodAll enc Tryz.prog W 0 (fun _ => true) true Tryz.f4.params.toList args.toList ds before := hA
    rw [Tryz.params4] at hA hval
    obtain ⟨v0, vs0, d0, ds0, p0, q0, hargs, rfl, rfl, h0, r0⟩ := trodAll_cons hA
    obtain ⟨rfl, rfl, rfl⟩ := trodAll_nil r0
    obtain rfl : args = #[v0] := by cases args; simp_all
    obtain ⟨A, g, o, c, l, rfl, p1, p2, p3, p4, p5⟩ := open_props (hval 0 22 v0 rfl rfl) h0
    have hG : Tryz.checked.prog.globals.size = 3 := globs
    obtain ⟨mx, hmx⟩ := max_len W hsh
    exact back_law A g o c l W p1 p2 p3 p4 p5 (tabs_back (noHandle W hL)) (by omega) mx hmx (awake_walk (tabs_back (noHandle W hL)) (by omega) mx hmx)
end Go.Proofs.YtkpikpaepgknnaaGreatDoor.xmpBack

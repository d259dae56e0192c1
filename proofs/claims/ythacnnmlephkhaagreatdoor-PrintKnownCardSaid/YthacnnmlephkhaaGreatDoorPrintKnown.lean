/- It proves the statement PrintKnownCardSaid of this seat: the closed call answers true. No condition. -/
import Derived.Test.YthacnnmlephkhaaGreatDoorAmC
import Derived.Test.YthacnnmlephkhaaGreatDoorRows
import Derived.Test.YthacnnmlephkhaaGreatDoorCards
import Derived.Test.YthacnnmlephkhaaGreatDoorTie
import Derived.SevenTiedAt
import Derived.PinnedBridge
import Derived.LaidOnce
import Derived.ProofKit
import Derived.OpenShut
set_option linter.unusedVariables false
namespace Go.Proofs.YthacnnmlephkhaaGreatDoor.printKnown
open Go Go.ChangeShapes Go.WideShapes Go.ChangeAt Go.RowKit
def nmL : List Nat := [0, 0, 0, 263671, 373, 4479, 36893488147421218303, 7, 4722367063416213864911, 2063, 2063, 33571891, 536872765, 1073742909, 8693, 140737488355613, 51, 2216203124991, 2203318222911, 7, 4198583, 19, 614750145263706237, 332306999105807178144501361237059711, 541, 27, 541, 5, 5, 5, 7, 290340896522807, 9690296635621770751386495, 5, 1005, 13, 28677, 285, 5, 285, 539991, 16883, 5, 250039, 27, 5, 3885, 137439086835, 17527, 196002644665464931395739783135643847098487, 7, 68719738943, 967, 83, 13, 536870963, 604472133320093225452283, 36099166300045563, 72093337032863039, 69437, 5, 19, 1005, 5, 5, 7, 64426475695, 1, 19, 19, 2149585011, 17708878880335823391667, 67178351, 31, 32781, 5, 132173, 147573952589676953719, 36893488147557530655, 88893831294812528799973619, 17180393509, 16777287, 19, 17527, 1048589, 31, 71, 5, 19, 15, 23, 4227315, 39, 19, 15, 19, 21, 17188391667, 5491, 65555, 66109, 32915, 67240563, 0, 66483, 31, 31, 537399539, 21, 19, 65597, 199, 295148186654866408443, 17593293342707, 9671415789297370127142899, 4115, 19, 66483, 0, 0, 0, 21, 13, 2923003971560093291123168138537876760321514930163, 20426010943356750102455122975, 19, 281518060864637, 19, 19, 191564865612207667720391025139256626476870292903826035, 19, 5, 16661, 13, 5, 5, 5, 1037, 15663183516433892416764882583213662997805349754095402995, 0, 18014948267394301, 90147309247135869, 18033167554838781, 262387, 1037, 702342826256273603086707106465568295829491, 21, 21, 316912838952437276284744179709, 1037, 5, 0, 4198413, 3075958545628299453, 340287561874417531818397010382341292029, 151115727469970589747187, 1107300861, 0, 0, 0, 0, 0, 0, 0, 0, 0, 0, 0, 0, 0, 0, 0, 0, 0, 0, 0, 0, 0, 0, 0, 0, 0, 0, 0, 0]
def nm (f : Nat) : Nat := nmL.getD f 0
theorem mixed : Tryz.prog.follows .mixedOrders = true := by kernel_rfl
set_option maxRecDepth 1000000 in
theorem ran : Am.isTrue (Am.run0 Tryz.prog nm 10000 100 4 [] Rows.printKnownRow.laid) = true := by kernel_rfl
theorem own : ownKnob Tryz.prog.godebug = none := by kernel_rfl
theorem noHandle (w : World) (h : laidMetH Tryz.prog Rows.printKnownRow.laid w) : laidMet Tryz.prog Rows.printKnownRow.laid w := by
  rw [MakeChecks.laidMetH_plain _ _ _ (by kernel_rfl)] at h; exact h
theorem walk (w : World) (hw : Tryz.prog.globals.size < w.heap.size) (h : laidMetH Tryz.prog Rows.printKnownRow.laid w) : Calls Tryz.prog 4 #[] w fun e w' => e = .returned (.bool true) ∧ Below w.heap.size w w' :=
  Am.closed_true mixed ran Tryz.func4 (by kernel_rfl) w hw (noHandle w h)
set_option maxRecDepth 100000 in
theorem lifted (os : Os) (started : os.Started) (H : Type) (enc : TypeId × Value → H) :
    ReturnsInHanded {} Tryz.checked os 4 .any (fun w args => (Rows.printKnownSpec.pre enc Tryz.prog Tryz.f4 [] false w args ∧ laidMetH Tryz.prog Rows.printKnownRow.laid w) ∧ sizedMet enc Tryz.prog Tryz.f4 (OpenSpec.ofChange Rows.printKnownSpec) false w args)
      (Rows.printKnownSpec.post enc Tryz.prog Tryz.f4 false true false false) :=
  Am.law_closed (C := Tryz.checked) started own (by kernel_rfl) Tryz.func4 (by kernel_rfl) rfl rfl (by kernel_rfl) Tryz.underlying4 (by kernel_rfl)
    (ChangeSpec.witness_shaped (enc := enc) (C := Tryz.checked) (os := os) (X := fun w _ => laidMetH Tryz.prog Rows.printKnownRow.laid w) false (World.laidAll Tryz.prog os Rows.printKnownRow.laid) #[] 8 (World.laidAll_os _ _ _)
      (World.shaped_of_ZipB (by kernel_rfl) (by kernel_rfl)) (by kernel_rfl) (by kernel_rfl) (by kernel_rfl)
      (by rw [MakeChecks.laidMetH_plain _ _ _ (by kernel_rfl)]; exact laidMet_laidAll _ (by kernel_rfl) (by kernel_rfl)))
    walk
theorem holds : Rows.printKnownRow.holds Tryz.pinned (OpenSpec.ofChange Rows.printKnownSpec) :=
  OpenClaim.holds_of_wide 4 Tryz.f4 rfl rfl rfl rfl rfl rfl rfl ⟨rfl, rfl, rfl, rfl, rfl⟩ rfl rfl rfl rfl rfl (by kernel_rfl) Tryz.func4 (by kernel_rfl)
    (of_decide_eq_true (by kernel_rfl)) (by unfold Func.isWrapper; first | (rw [if_pos (by decide +kernel)]; kernel_rfl) | (rw [if_neg (by decide +kernel)]; exact ⟨rfl, rfl⟩))
    (fun os started H enc _ => lifted os started H enc)
theorem proved : Rows.PrintKnownCardSaid :=
  Claim7.holds_tied_plain_at .later [] [.data, .data, .data, .data, .pinned] true (true, "f05056fa1bdbaee4047459000588abd8856f5b0eedb14be6d6e12117c8d57a2a") false holds (fun _ h => by cases h) (by kernel_rfl) (fun _ h => by cases h) printKnown_row_tie rfl ⟨rfl, rfl⟩ (by kernel_rfl) rfl
    (fun f fn hf hfn => by
      obtain rfl : f = 4 := Option.some.inj ((show Tryz.prog.funcNamed Rows.printKnownRow.func = some 4 by kernel_rfl).symm.trans hf) |>.symm
      obtain rfl : fn = Tryz.f4 := (Option.some.inj (Tryz.func4.symm.trans hfn)).symm
      exact ⟨by kernel_rfl, fun j t ht => by
        rw [show Tryz.f4.params = #[] by kernel_rfl] at ht
        simp at ht⟩)
    (by kernel_rfl)
#print axioms proved
end Go.Proofs.YthacnnmlephkhaaGreatDoor.printKnown

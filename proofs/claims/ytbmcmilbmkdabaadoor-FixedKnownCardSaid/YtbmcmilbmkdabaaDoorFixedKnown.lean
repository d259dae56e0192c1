/- It proves the statement FixedKnownCardSaid of this seat: the closed call answers true. No condition. -/
import Derived.Test.YtbmcmilbmkdabaaDoorAmC
import Derived.Test.YtbmcmilbmkdabaaDoorRows
import Derived.Test.YtbmcmilbmkdabaaDoorCards
import Derived.Test.YtbmcmilbmkdabaaDoorTie
import Derived.SevenTiedAt
import Derived.PinnedBridge
import Derived.LaidOnce
import Derived.ProofKit
import Derived.OpenShut
set_option linter.unusedVariables false
namespace Go.Proofs.YtbmcmilbmkdabaaDoor.fixedKnown
open Go Go.ChangeShapes Go.WideShapes Go.ChangeAt Go.RowKit
def nmL : List Nat := [0, 0, 0, 9725, 83, 8389363, 73786976845680345047, 179791, 4611686018445410291, 9961415, 67502067, 15, 2533553965375485, 340287561874417531818397010382341292029, 16883, 137439086835, 5, 5, 51, 307, 4196317, 8243, 131123, 134218301, 5, 17179869203, 33587453, 537952509, 5, 19, 19, 2149585011, 32781, 72128031518365639, 68786587591, 32787, 141, 21, 21, 17188391667, 5491, 65555, 66109, 32915, 67240563, 16371, 21, 1339612589540973385843439843975626695, 303412064557473502461895, 21, 21, 13, 2923003971560093291123168138537876760321514930163, 20426010943356750102455122975, 19, 281518060864637, 19, 5, 5, 16661, 13, 5, 5, 5, 1037, 15663183516433892416764882583213662997805349754095402995, 21, 21, 316912838952437276284744179709, 19, 1037, 5, 0, 19, 0, 0, 0, 0, 0, 0, 0, 0, 0, 0, 0, 0, 0, 0, 0, 0, 0, 0, 0, 0, 0, 0, 0, 0, 0, 0, 0]
def nm (f : Nat) : Nat := nmL.getD f 0
theorem mixed : Tryd.prog.follows .mixedOrders = true := by kernel_rfl
set_option maxRecDepth 1000000 in
theorem ran : Am.isTrue (Am.run0 Tryd.prog nm 10000 40 7 [] Rows.fixedKnownRow.laid) = true := by kernel_rfl
theorem own : ownKnob Tryd.prog.godebug = none := by kernel_rfl
theorem noHandle (w : World) (h : laidMetH Tryd.prog Rows.fixedKnownRow.laid w) : laidMet Tryd.prog Rows.fixedKnownRow.laid w := by
  rw [MakeChecks.laidMetH_plain _ _ _ (by kernel_rfl)] at h; exact h
theorem walk (w : World) (hw : Tryd.prog.globals.size ≤ w.heap.size) (h : laidMetH Tryd.prog Rows.fixedKnownRow.laid w) : Calls Tryd.prog 7 #[] w fun e w' => e = .returned (.bool true) ∧ Below w.heap.size w w' :=
  Am.closed_true mixed ran Tryd.func7 (by kernel_rfl) w hw (noHandle w h)
set_option maxRecDepth 100000 in
theorem lifted (os : Os) (started : os.Started) (H : Type) (enc : TypeId × Value → H) :
    ReturnsInHanded {} Tryd.checked os 7 .any (fun w args => (Rows.fixedKnownSpec.pre enc Tryd.prog Tryd.f7 [] false w args ∧ laidMetH Tryd.prog Rows.fixedKnownRow.laid w) ∧ sizedMet enc Tryd.prog Tryd.f7 (OpenSpec.ofChange Rows.fixedKnownSpec) false w args)
      (Rows.fixedKnownSpec.post enc Tryd.prog Tryd.f7 false true false false) :=
  Am.law_closed (C := Tryd.checked) started own (by kernel_rfl) Tryd.func7 (by kernel_rfl) rfl rfl (by kernel_rfl) Tryd.underlying4 (by kernel_rfl)
    (ChangeSpec.witness_shaped (enc := enc) (C := Tryd.checked) (os := os) (X := fun w _ => laidMetH Tryd.prog Rows.fixedKnownRow.laid w) false (World.laidAll Tryd.prog os Rows.fixedKnownRow.laid) #[] 8 (World.laidAll_os _ _ _)
      (World.shaped_of_ZipB (by kernel_rfl) (by kernel_rfl)) (by kernel_rfl) (by kernel_rfl) (by kernel_rfl)
      (by rw [MakeChecks.laidMetH_plain _ _ _ (by kernel_rfl)]; exact laidMet_laidAll _ (by kernel_rfl) (by kernel_rfl)))
    walk
theorem holds : Rows.fixedKnownRow.holds Tryd.pinned (OpenSpec.ofChange Rows.fixedKnownSpec) :=
  OpenClaim.holds_of_wide 7 Tryd.f7 rfl rfl rfl rfl rfl rfl rfl ⟨rfl, rfl, rfl, rfl, rfl⟩ rfl rfl rfl rfl rfl (by kernel_rfl) Tryd.func7 (by kernel_rfl)
    (of_decide_eq_true (by kernel_rfl)) (by unfold Func.isWrapper; first | (rw [if_pos (by decide +kernel)]; kernel_rfl) | (rw [if_neg (by decide +kernel)]; exact ⟨rfl, rfl⟩))
    (fun os started H enc _ => lifted os started H enc)
theorem proved : Rows.FixedKnownCardSaid :=
  Claim7.holds_tied_plain_at .later [] [.data, .data, .data, .data, .pinned] true (true, "aaaa74c41fd0538a381ef2aa4a8f7f22568c1ec63d32b6b3b2e9fc9938ad1ebe") false holds (fun _ h => by cases h) (by kernel_rfl) (fun _ h => by cases h) fixedKnown_row_tie rfl ⟨rfl, rfl⟩ (by kernel_rfl) rfl
    (fun f fn hf hfn => by
      obtain rfl : f = 7 := Option.some.inj ((show Tryd.prog.funcNamed Rows.fixedKnownRow.func = some 7 by kernel_rfl).symm.trans hf) |>.symm
      obtain rfl : fn = Tryd.f7 := (Option.some.inj (Tryd.func7.symm.trans hfn)).symm
      exact ⟨by kernel_rfl, fun j t ht => by
        rw [show Tryd.f7.params = #[] by kernel_rfl] at ht
        simp at ht⟩)
    (by kernel_rfl)
#print axioms proved
end Go.Proofs.YtbmcmilbmkdabaaDoor.fixedKnown

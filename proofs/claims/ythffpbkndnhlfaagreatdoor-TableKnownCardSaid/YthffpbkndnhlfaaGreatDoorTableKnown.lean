/- It proves the statement TableKnownCardSaid of this seat: the closed call answers true. No condition. -/
import Derived.Test.YthffpbkndnhlfaaGreatDoorAmC
import Derived.Test.YthffpbkndnhlfaaGreatDoorRows
import Derived.Test.YthffpbkndnhlfaaGreatDoorCards
import Derived.Test.YthffpbkndnhlfaaGreatDoorTie
import Derived.SevenTiedAt
import Derived.PinnedBridge
import Derived.LaidOnce
import Derived.ProofKit
import Derived.OpenShut
set_option linter.unusedVariables false
namespace Go.Proofs.YthffpbkndnhlfaaGreatDoor.tableKnown
open Go Go.ChangeShapes Go.WideShapes Go.ChangeAt Go.RowKit
def nmL : List Nat := [0, 0, 0, 38899, 268962807, 5975, 16875471, 31, 19, 19, 2493409503522538389506045, 24114777015965215062660861727135082570206826217469, 73786976294838223923, 332306999105807178144501361237059711, 21, 7, 141671266953867357503415, 285, 541, 5, 135091, 4723519404378614145015, 525427, 33571891, 5, 91, 1073742131, 1247611449878648474864984061, 34368129061, 1048893, 524307, 83, 536870963, 967, 5, 4115, 74075206670989918461, 17180393509, 13, 196002644665464931395739783135643847098487, 7, 1099578738685, 2063, 51, 79, 36099166300045563, 37778931862957161710707, 134218013, 2099, 2063, 5, 17214473459, 15, 5, 17179869203, 5, 32787, 1015, 5, 5, 141, 262259, 4398046513149, 5, 75876079213660214920179, 36893488147557530655, 16777287, 28677, 19, 4194589, 88893831294812528799973619, 7, 5, 132173, 147573952589676953719, 7, 290340896522807, 5, 10404955393597153145976807980556275, 68719738943, 137439086835, 9690296635621770751386495, 16777853, 71, 19, 31, 21, 21, 264157, 2361184367335803192307, 5, 5, 5, 317, 4503617344112627, 151118033303651410262003, 65597, 199, 295148186654866408443, 17593293342707, 9671415789297370127142899, 72093337032863039, 1005, 16883, 8693, 536872765, 69437, 3885, 5, 1011, 19, 2097283, 51, 5, 5, 285, 32781, 140737488355613, 1073742909, 2601219032272937251668801613760573, 19, 5, 5, 29, 1, 5, 191564865612207667720391025139256626476870292903826035, 31, 71, 5, 19, 15, 23, 4227315, 39, 19, 15, 19, 19, 2149585011, 5, 13, 5, 17188391667, 115, 16371, 19, 524353, 19, 285, 1807, 2305878193586311293, 290375324407869, 281629730947197, 16509, 4125, 0, 250039, 18014948267394301, 90147309247135869, 18033167554838781, 262387, 1037, 7, 19, 66483, 0, 0, 66483, 5491, 65555, 66109, 32915, 67240563, 1005, 17708878880335823391667, 21, 13, 2923003971560093291123168138537876760321514930163, 20426010943356750102455122975, 0, 0, 5, 4198413, 16403, 134305139, 35, 2533553965375485, 64426475695, 67178351, 27, 31, 4198413, 3075958545628299453, 1048589, 340287561874417531818397010382341292029, 19, 19, 281518060864637, 19, 5, 16661, 13, 5, 5, 67108979, 33587453, 537952509, 31, 31, 537399539, 21, 19, 702342826256273603086707106465568295829491, 5, 1037, 15663183516433892416764882583213662997805349754095402995, 21, 21, 19, 0, 5, 151115727469970589747187, 316912838952437276284744179709, 1037, 0, 1107300861, 0, 0, 0, 0, 0, 0, 0, 0, 0, 0, 0, 0, 0, 0, 0, 0, 0, 0, 0, 0, 0, 0, 0, 0, 0, 0, 0, 0, 0]
def nm (f : Nat) : Nat := nmL.getD f 0
theorem mixed : Tryz.prog.follows .mixedOrders = true := by kernel_rfl
set_option maxRecDepth 1000000 in
theorem ran : Am.isTrue (Am.run0 Tryz.prog nm 10000 100 5 [] Rows.tableKnownRow.laid) = true := by kernel_rfl
theorem own : ownKnob Tryz.prog.godebug = none := by kernel_rfl
theorem noHandle (w : World) (h : laidMetH Tryz.prog Rows.tableKnownRow.laid w) : laidMet Tryz.prog Rows.tableKnownRow.laid w := by
  rw [MakeChecks.laidMetH_plain _ _ _ (by kernel_rfl)] at h; exact h
theorem walk (w : World) (hw : Tryz.prog.globals.size < w.heap.size) (h : laidMetH Tryz.prog Rows.tableKnownRow.laid w) : Calls Tryz.prog 5 #[] w fun e w' => e = .returned (.bool true) ∧ Below w.heap.size w w' :=
  Am.closed_true mixed ran Tryz.func5 (by kernel_rfl) w hw (noHandle w h)
set_option maxRecDepth 100000 in
theorem lifted (os : Os) (started : os.Started) (H : Type) (enc : TypeId × Value → H) :
    ReturnsInHanded {} Tryz.checked os 5 .any (fun w args => (Rows.tableKnownSpec.pre enc Tryz.prog Tryz.f5 [] false w args ∧ laidMetH Tryz.prog Rows.tableKnownRow.laid w) ∧ sizedMet enc Tryz.prog Tryz.f5 (OpenSpec.ofChange Rows.tableKnownSpec) false w args)
      (Rows.tableKnownSpec.post enc Tryz.prog Tryz.f5 false true false false) :=
  Am.law_closed (C := Tryz.checked) started own (by kernel_rfl) Tryz.func5 (by kernel_rfl) rfl rfl (by kernel_rfl) Tryz.underlying4 (by kernel_rfl)
    (ChangeSpec.witness_shaped (enc := enc) (C := Tryz.checked) (os := os) (X := fun w _ => laidMetH Tryz.prog Rows.tableKnownRow.laid w) false (World.laidAll Tryz.prog os Rows.tableKnownRow.laid) #[] 8 (World.laidAll_os _ _ _)
      (World.shaped_of_ZipB (by kernel_rfl) (by kernel_rfl)) (by kernel_rfl) (by kernel_rfl) (by kernel_rfl)
      (by rw [MakeChecks.laidMetH_plain _ _ _ (by kernel_rfl)]; exact laidMet_laidAll _ (by kernel_rfl) (by kernel_rfl)))
    walk
theorem holds : Rows.tableKnownRow.holds Tryz.pinned (OpenSpec.ofChange Rows.tableKnownSpec) :=
  OpenClaim.holds_of_wide 5 Tryz.f5 rfl rfl rfl rfl rfl rfl rfl ⟨rfl, rfl, rfl, rfl, rfl⟩ rfl rfl rfl rfl rfl (by kernel_rfl) Tryz.func5 (by kernel_rfl)
    (of_decide_eq_true (by kernel_rfl)) (by unfold Func.isWrapper; first | (rw [if_pos (by decide +kernel)]; kernel_rfl) | (rw [if_neg (by decide +kernel)]; exact ⟨rfl, rfl⟩))
    (fun os started H enc _ => lifted os started H enc)
theorem proved : Rows.TableKnownCardSaid :=
  Claim7.holds_tied_plain_at .later [] [.data, .data, .data, .data, .pinned] true (true, "191f9556f04855ab3043c5d234e31cc6c6fb91b2a5b72cf1cbe3ca997f50596e") false holds (fun _ h => by cases h) (by kernel_rfl) (fun _ h => by cases h) tableKnown_row_tie rfl ⟨rfl, rfl⟩ (by kernel_rfl) rfl
    (fun f fn hf hfn => by
      obtain rfl : f = 5 := Option.some.inj ((show Tryz.prog.funcNamed Rows.tableKnownRow.func = some 5 by kernel_rfl).symm.trans hf) |>.symm
      obtain rfl : fn = Tryz.f5 := (Option.some.inj (Tryz.func5.symm.trans hfn)).symm
      exact ⟨by kernel_rfl, fun j t ht => by
        rw [show Tryz.f5.params = #[] by kernel_rfl] at ht
        simp at ht⟩)
    (by kernel_rfl)
#print axioms proved
end Go.Proofs.YthffpbkndnhlfaaGreatDoor.tableKnown

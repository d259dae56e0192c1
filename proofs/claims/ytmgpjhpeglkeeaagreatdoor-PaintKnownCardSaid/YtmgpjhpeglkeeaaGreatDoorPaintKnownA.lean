/- The closed call PaintKnown answers true: its run. No condition. -/
import Derived.Test.YtmgpjhpeglkeeaaGreatDoorAmD
import Derived.Test.YtmgpjhpeglkeeaaGreatDoorAmD
import Derived.Test.YtmgpjhpeglkeeaaGreatDoorAmD
import Derived.Test.YtmgpjhpeglkeeaaGreatDoorRiseP
import Derived.Test.YtmgpjhpeglkeeaaGreatDoorRows
import Derived.MakeChecks
import Derived.ProofKit
import Derived.OpenShut
set_option linter.unusedVariables false
namespace Go.Proofs.YtmgpjhpeglkeeaaGreatDoor.paintKnown
open Go Go.ChangeShapes Go.WideShapes Go.ChangeAt Go.RowKit
def nmL : List Nat := [0, 0, 0, 17592203605983, 31, 253, 35184374194143, 7, 35184372629503, 4398046519247, 541, 27, 5, 5, 51, 33915359, 1, 272434035, 65970714451797, 261151, 36099166300045563, 68719738943, 285, 61791, 281733243606775, 281629662904271, 35783165, 6957193695295248522665392860363243313969145378261394484951171203323, 13, 5, 5, 5, 51, 4196317, 16781375, 539991, 35186318256127, 7, 21, 282583111894479, 13, 79382905019249321789500691453, 18479395172081860863, 528365, 144117404278980659, 13, 1073742075, 262227, 562967699530183, 274877907123, 71, 581091895410919, 1073742670, 36046389221786583, 69, 20322024895015218336225738903767, 2305984953587861499, 4210811, 131099, 13, 7, 13, 7, 7, 72128031518365639, 5, 4223, 1, 64426475695, 7, 35696767, 8390655, 19, 332059407725300301811, 17593268700147, 9548758210047903731, 578713686292562931, 576479505221193715, 69321929951783677943, 19, 9, 5, 21, 16777853, 15, 18142480830423, 524307, 1048893, 4357881901, 10404955393597153145976807980556275, 70936232059, 2159, 103, 2199023521735, 37813519508645122936307, 21, 19, 11, 51, 1049031, 2305843147193585619, 9507418189699131420794761020147, 42501298345964246009831, 2103, 349, 5, 5, 8363, 5, 5, 8363, 8363, 16371, 21, 1339612589540973385843439843975626695, 66483, 15, 799, 16847, 15, 66483, 5, 125896179, 10486771, 1005, 503316541, 604467814227583671730419, 19, 2061, 4198413, 131091, 152048243, 1073811399, 1139, 4303360783, 23, 5, 5, 34368129061, 2601219032272937251668801613760573, 4722654858385760980477, 41538374868278621032184620326584829, 5, 75876079213660214920179, 319388530210577016060112871421, 1011, 19, 2097283, 51, 5, 5, 19, 21, 19807040663154013211128295419, 247, 10384593871817177683247510831234831, 5, 247, 10384593871817177683247510831234831, 5, 262259, 5, 144396965848811517, 491891, 589, 16403, 2149318855, 141, 5, 5, 7, 7, 7, 275012124799, 32787, 17179869203, 1807, 2305878193586311293, 290375324407869, 281629730947197, 16509, 5, 4125, 5, 5, 71, 2361184367335803192307, 5, 5, 5, 317, 4503617344112627, 151118033303651410262003, 2111139645345779, 229, 115, 19, 524353, 19, 66483, 1073746119, 1074268103, 8804682991559, 20829169751433159, 8391, 83087207854311395603287443752634311, 19, 19023213622105999119, 22458641409078797123448399039441150152463, 277, 16661, 1073746119, 1074268103, 8804682991559, 20829169751433159, 8391, 83087207854311395603287443752634311, 19, 19023213622105999119, 22458641409078797123448399039441150152463, 2163, 146371119652274429, 23, 138047128055, 20282409641435216224851570457597, 19, 16403, 134305139, 35, 2533553965375485, 19, 250039, 21, 5, 5, 29, 18014402804449523, 0, 0, 4503668346913551, 5, 5, 71, 1055, 5, 4503668346913551, 71, 1055, 5, 74168656363257971, 9, 16403, 289790033985405, 58349, 4295235579, 590304256816694167527, 146037801981, 528040593530839, 67108979, 33587453, 537952509, 19, 67178351, 27, 31, 1298074253319337746486915690530803, 39614383488875302838941755379, 262927, 262927, 5, 691, 73487, 2252074692771783, 0, 66483, 31, 31, 537399539, 21, 19, 19, 0, 0, 0, 0, 0, 0, 0, 0, 0, 0, 0, 0, 0, 0, 0, 0, 0, 0, 0, 0, 0, 0, 0, 0, 0, 0, 0, 0]
def nm (f : Nat) : Nat := nmL.getD f 0
/-- paint.rising at its three instances, and strings.Repeat, are known by their contracts -/
def kn (f : Nat) : Option Am.Kn := bif Nat.beq f 29 then some (.rise .i64 3) else bif Nat.beq f 30 then some (.rise .u8 5) else bif Nat.beq f 31 then some (.rise .i64 3) else bif Nat.beq f 89 then some .rep else none
theorem knOk : Am.KnOk Tryz.prog kn := by
  refine ⟨by kernel_rfl, fun f p h => ?_⟩
  by_cases h1 : f = 29
  · subst h1
    have e : kn 29 = some (.rise .i64 3) := by kernel_rfl
    rw [e] at h
    cases h
    exact ⟨Go.Proofs.enters_of Tryz.func29 (by kernel_rfl) rfl, rise_a⟩
  by_cases h2 : f = 30
  · subst h2
    have e : kn 30 = some (.rise .u8 5) := by kernel_rfl
    rw [e] at h
    cases h
    exact ⟨Go.Proofs.enters_of Tryz.func30 (by kernel_rfl) rfl, rise_b⟩
  by_cases h3 : f = 31
  · subst h3
    have e : kn 31 = some (.rise .i64 3) := by kernel_rfl
    rw [e] at h
    cases h
    exact ⟨Go.Proofs.enters_of Tryz.func31 (by kernel_rfl) rfl, rise_c⟩
  by_cases h4 : f = 89
  · subst h4
    have e : kn 89 = some (.rep) := by kernel_rfl
    rw [e] at h
    cases h
    exact ⟨Go.Proofs.enters_of Tryz.func89 (by kernel_rfl) rfl, rep_c⟩
  have h1e : Nat.beq f 29 = false := by cases hb : Nat.beq f 29 with
    | false => rfl
    | true => exact absurd (Nat.eq_of_beq_eq_true hb) h1
  have h2e : Nat.beq f 30 = false := by cases hb : Nat.beq f 30 with
    | false => rfl
    | true => exact absurd (Nat.eq_of_beq_eq_true hb) h2
  have h3e : Nat.beq f 31 = false := by cases hb : Nat.beq f 31 with
    | false => rfl
    | true => exact absurd (Nat.eq_of_beq_eq_true hb) h3
  have h4e : Nat.beq f 89 = false := by cases hb : Nat.beq f 89 with
    | false => rfl
    | true => exact absurd (Nat.eq_of_beq_eq_true hb) h4
  unfold kn at h
  rw [h1e, h2e, h3e, h4e] at h
  cases h
theorem mixed : Tryz.prog.follows .mixedOrders = true := by kernel_rfl
/-- the code of the law, in parts -/
noncomputable def sl : Code → Code | .seq a _ => a | c => c
noncomputable def sr : Code → Code | .seq _ b => b | c => c
noncomputable def c0 : Code := (Tryz.f3.body).getD .skip
theorem cut : Tryz.f3.body = some (.seq (sl c0) (.seq (sl (sr c0)) (.seq (sl (sr (sr c0))) (.seq (sl (sr (sr (sr c0)))) (sr (sr (sr (sr c0)))))))) := by kernel_rfl
set_option maxRecDepth 1000000 in
theorem ran1 : Am.isTrue (Am.pairO Tryz.prog nm kn 10000 100 (nm 3) Tryz.f3.ntmps (sl c0) (sl (sr c0)) Rows.paintKnownRow.laid) = true := by kernel_rfl
set_option maxRecDepth 1000000 in
theorem ran2 : Am.isTrue (Am.pairO Tryz.prog nm kn 10000 100 (nm 3) Tryz.f3.ntmps (sl (sr (sr c0))) (sl (sr (sr (sr c0)))) Rows.paintKnownRow.laid) = true := by kernel_rfl
set_option maxRecDepth 1000000 in
theorem ran3 : Am.isTrue (Am.partO Tryz.prog nm kn 10000 100 (nm 3) Tryz.f3.ntmps (sr (sr (sr (sr c0)))) Rows.paintKnownRow.laid Am.retE) = true := by kernel_rfl
theorem noHandle (w : World) (h : laidMetH Tryz.prog Rows.paintKnownRow.laid w) : laidMet Tryz.prog Rows.paintKnownRow.laid w := by
  rw [MakeChecks.laidMetH_plain _ _ _ (by kernel_rfl)] at h; exact h
theorem walk (w : World) (hw : Tryz.prog.globals.size < w.heap.size) (h : laidMetH Tryz.prog Rows.paintKnownRow.laid w) : Calls Tryz.prog 3 #[] w fun e w' => e = .returned (.bool true) ∧ Below w.heap.size w w' :=
  Am.three_ok mixed knOk Tryz.func3 (by kernel_rfl) cut (by kernel_rfl) ran1 ran2 ran3 w hw (noHandle w h)
end Go.Proofs.YtmgpjhpeglkeeaaGreatDoor.paintKnown

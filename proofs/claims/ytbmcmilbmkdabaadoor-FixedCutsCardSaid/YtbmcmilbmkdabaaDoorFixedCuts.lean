/- It proves the statement FixedCutsCardSaid of this seat. No condition. -/
import Derived.Test.YtbmcmilbmkdabaaDoorFxCuts
import Derived.Test.YtbmcmilbmkdabaaDoorRows
import Derived.Test.YtbmcmilbmkdabaaDoorCards
import Derived.Test.YtbmcmilbmkdabaaDoorTie
import Derived.SevenTiedAt
import Derived.PinnedBridge
import Derived.LaidOnce
import Derived.ProofKit
import Derived.OpenShut
set_option linter.unusedVariables false
namespace Go.Proofs.YtbmcmilbmkdabaaDoor.fixedCuts
open Go Go.ChangeShapes Go.WideShapes Go.ChangeAt Go.RowKit
def nmL : List Nat := [0, 0, 0, 9725, 83, 8389363, 73786976845680345047, 179791, 4611686018445410291, 9961415, 67502067, 15, 2533553965375485, 340287561874417531818397010382341292029, 16883, 137439086835, 5, 5, 51, 307, 4196317, 8243, 131123, 134218301, 5, 17179869203, 33587453, 537952509, 5, 19, 19, 2149585011, 32781, 72128031518365639, 68786587591, 32787, 141, 21, 21, 17188391667, 5491, 65555, 66109, 32915, 67240563, 16371, 21, 1339612589540973385843439843975626695, 303412064557473502461895, 21, 21, 13, 2923003971560093291123168138537876760321514930163, 20426010943356750102455122975, 19, 281518060864637, 19, 5, 5, 16661, 13, 5, 5, 5, 1037, 15663183516433892416764882583213662997805349754095402995, 21, 21, 316912838952437276284744179709, 19, 1037, 5, 0, 19, 0, 0, 0, 0, 0, 0, 0, 0, 0, 0, 0, 0, 0, 0, 0, 0, 0, 0, 0, 0, 0, 0, 0, 0, 0, 0, 0]
def nm (f : Nat) : Nat := nmL.getD f 0
theorem mixed : Tryd.prog.follows .mixedOrders = true := by kernel_rfl
set_option maxRecDepth 1000000 in
theorem ran : Am.isTrue (Am.run0 Tryd.prog nm 10000 40 11 [] Rows.fixedCutsRow.laid) = true := by kernel_rfl
theorem own : ownKnob Tryd.prog.godebug = none := by kernel_rfl
theorem noHandle (w : World) (h : laidMetH Tryd.prog Rows.fixedCutsRow.laid w) : laidMet Tryd.prog Rows.fixedCutsRow.laid w := by
  rw [MakeChecks.laidMetH_plain _ _ _ (by kernel_rfl)] at h; exact h
theorem awake (w : World) (hw : Tryd.prog.globals.size < w.heap.size) (h : laidMetH Tryd.prog Rows.fixedCutsRow.laid w) : Calls Tryd.prog 11 #[] w fun e w' => e = .returned (.bool true) ∧ Below w.heap.size w w' :=
  Am.closed_true mixed ran Tryd.func11 (by kernel_rfl) w hw (noHandle w h)
set_option maxRecDepth 100000 in
theorem lifted (os : Os) (started : os.Started) (H : Type) (enc : TypeId × Value → H) :
    ReturnsInHanded {} Tryd.checked os 6 .any (fun w args => (Rows.fixedCutsSpec.pre enc Tryd.prog Tryd.f6 [] false w args ∧ laidMetH Tryd.prog Rows.fixedCutsRow.laid w) ∧ sizedMet enc Tryd.prog Tryd.f6 (OpenSpec.ofChange Rows.fixedCutsSpec) false w args)
      (Rows.fixedCutsSpec.post enc Tryd.prog Tryd.f6 false true false false) := by
  refine Am.law_any (C := Tryd.checked) started own (by kernel_rfl) Tryd.func6 (by kernel_rfl) ?_ rfl Tryd.underlying4 (by kernel_rfl) (by kernel_rfl) (by kernel_rfl)
    (ChangeSpec.witness_shaped (enc := enc) (C := Tryd.checked) (os := os) (X := fun w _ => laidMetH Tryd.prog Rows.fixedCutsRow.laid w) false (World.laidAll Tryd.prog os Rows.fixedCutsRow.laid) #[.int .u32 0, .agg #[.int .u8 0, .int .u8 0, .int .u8 0, .int .u8 0, .int .u8 0], .slice none 0 0] 8 (World.laidAll_os _ _ _)
      (World.shaped_of_ZipB (by kernel_rfl) (by kernel_rfl)) (by kernel_rfl) (by kernel_rfl) (by kernel_rfl)
      (by rw [MakeChecks.laidMetH_plain _ _ _ (by kernel_rfl)]; exact laidMet_laidAll _ (by kernel_rfl) (by kernel_rfl))) ?_
  · intro ds hd
    have h2 : Tryd.f6.params.size = 3 := by kernel_rfl
    rw [h2] at hd
    match ds, hd with
    | [d1, d2, d3], _ => rfl
  · intro W base args ds before hg hL hval hA
    have hA : DataW.TrodAll enc Tryd.prog W 0 (fun _ => true) true Tryd.f6.params.toList args.toList ds before := hA
    rw [Tryd.params6] at hA hval
    obtain ⟨v0, vs0, d0, ds0, p0, q0, hargs, rfl, rfl, h0, r0⟩ := trodAll_cons hA
    obtain ⟨v1, vs1, d1, ds1, p1, q1, rfl, rfl, rfl, h1, r1⟩ := trodAll_cons r0
    obtain ⟨v2, vs2, d2, ds2, p2, q2, rfl, rfl, rfl, h2, r2⟩ := trodAll_cons r1
    obtain ⟨rfl, rfl, rfl⟩ := trodAll_nil r2
    obtain rfl : args = #[v0, v1, v2] := by cases args; simp_all
    obtain ⟨n, rfl, rfl, rfl, w0⟩ := open_int Tryd.underlying33 (hval 0 33 v0 rfl rfl) h0
    have hn : 0 ≤ n ∧ n ≤ 4294967295 := by simpa [Lit.wf, IntKind.min, IntKind.max, IntKind.signed, IntKind.bits] using w0
    obtain ⟨cs1, rfl, _⟩ := okWide_array' Tryd.underlying34 (hval 1 34 v1 rfl rfl)
    obtain ⟨fuel1, hf1⟩ := h1
    obtain ⟨ds, hds, hcs1⟩ := open_arr5 hf1
    have hcs1 : cs1.toList = ds.map (fun b => Value.int .u8 (b.toNat : Int)) := hcs1
    obtain ⟨a2, len2, cap2, rfl⟩ := okWide_slice Tryd.underlying22 (hval 2 22 v2 rfl rfl)
    obtain ⟨fuel2, hf2⟩ := h2
    obtain ⟨A, c, bs, hcs2, hB, _, hle⟩ := Wk.open_byt Tryd.underlying22 Tryd.underlying5 (by kernel_rfl) hf2
    simp [Value.cells] at hcs2
    obtain ⟨rfl, rfl, rfl⟩ := hcs2
    obtain ⟨m, rfl⟩ : ∃ m : Nat, n = (m : Int) := ⟨n.toNat, by omega⟩
    match ds, hds, hcs1 with
    | [b0, b1, b2, b3, b4], _, hcs1 =>
    obtain rfl : cs1 = #[.int .u8 (b0.toNat : Int), .int .u8 (b1.toNat : Int), .int .u8 (b2.toNat : Int), .int .u8 (b3.toNat : Int), .int .u8 (b4.toNat : Int)] := by
      apply Array.toList_inj.1; rw [hcs1]; rfl
    exact cuts_law m (by omega) b0 b1 b2 b3 b4 _ _ bs W hB hle fun w1 hw1 => Am.closed_trueG mixed ran Tryd.func11 (by kernel_rfl) W w1 hg (noHandle W hL) hw1
theorem holds : Rows.fixedCutsRow.holds Tryd.pinned (OpenSpec.ofChange Rows.fixedCutsSpec) :=
  OpenClaim.holds_of_wide 6 Tryd.f6 rfl rfl rfl rfl rfl rfl rfl ⟨rfl, rfl, rfl, rfl, rfl⟩ rfl rfl rfl rfl rfl (by kernel_rfl) Tryd.func6 (by kernel_rfl)
    (of_decide_eq_true (by kernel_rfl)) (by unfold Func.isWrapper; first | (rw [if_pos (by decide +kernel)]; kernel_rfl) | (rw [if_neg (by decide +kernel)]; exact ⟨rfl, rfl⟩))
    (fun os started H enc _ => lifted os started H enc)
theorem proved : Rows.FixedCutsCardSaid :=
  Claim7.holds_tied_plain_at .later [] [.data, .data, .data, .data, .pinned] true (true, "aaaa74c41fd0538a381ef2aa4a8f7f22568c1ec63d32b6b3b2e9fc9938ad1ebe") false holds (fun _ h => by cases h) (by kernel_rfl) (fun _ h => by cases h) fixedCuts_row_tie rfl ⟨rfl, rfl⟩ (by kernel_rfl) rfl
    (fun f fn hf hfn => by
      obtain rfl : f = 6 := Option.some.inj ((show Tryd.prog.funcNamed Rows.fixedCutsRow.func = some 6 by kernel_rfl).symm.trans hf) |>.symm
      obtain rfl : fn = Tryd.f6 := (Option.some.inj (Tryd.func6.symm.trans hfn)).symm
      exact ⟨by kernel_rfl, fun j t ht => by
        have hall : (Tryd.f6.params.toList.all fun t => !(Tryd.prog.wantsStandIn t)) = true := by kernel_rfl
        have hm : t ∈ Tryd.f6.params.toList := by simpa using Array.mem_of_getElem? ht
        have h3 : (!(Tryd.prog.wantsStandIn t)) = true := List.all_eq_true.1 hall t hm
        show Tryd.prog.wantsStandIn t = false
        simpa using h3⟩)
    (by kernel_rfl)
#print axioms proved
end Go.Proofs.YtbmcmilbmkdabaaDoor.fixedCuts

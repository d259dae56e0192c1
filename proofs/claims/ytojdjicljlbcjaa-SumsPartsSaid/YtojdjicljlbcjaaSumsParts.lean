/- It proves the statement SumsPartsSaid of this seat. No condition. -/
import Derived.Test.YtojdjicljlbcjaaSumsW
namespace Go.Proofs.Ytojdjicljlbcjaa.sumsParts
open Go Go.ChangeShapes Go.WideShapes Go.ChangeAt Go.RowKit Go.Wk
def nmL : List Nat := [0, 0, 0, 5, 17592253425139, 263623, 1, 1005, 491891, 131315, 5, 285, 0, 0, 0, 0, 0, 0, 0, 0, 0, 0, 0, 0, 0, 0, 0, 0]
def nm (f : Nat) : Nat := nmL.getD f 0
theorem mixed : Try.prog.follows .mixedOrders = true := by kernel_rfl
theorem ran : Am.isTrue (Am.run0 Try.prog nm 1000 20 6 [] []) = true := by kernel_rfl
theorem own : ownKnob Try.prog.godebug = none := by kernel_rfl
theorem awake (w : World) (hw : Try.prog.globals.size < w.heap.size) : Calls Try.prog 6 #[] w fun e w' => e = .returned (.bool true) ∧ Below w.heap.size w w' :=
  Am.closed_true mixed ran Try.func6 (by kernel_rfl) w hw Am.laid_none
set_option maxRecDepth 100000 in
theorem lifted (os : Os) (started : os.Started) (H : Type) (enc : TypeId × Value → H) :
    ReturnsInHanded {} Try.checked os 4 .any (Rows.sumsPartsSpec.pre6 enc Try.prog Try.f4 Rows.sumsPartsRow.domain false) (Rows.sumsPartsSpec.post enc Try.prog Try.f4 false true false false) := by
  refine Am.law_plain (C := Try.checked) started own (by kernel_rfl) Try.func4 rfl ?_ (by kernel_rfl) Try.underlying4 (by kernel_rfl) (by kernel_rfl) (by kernel_rfl)
    (ChangeSpec.witness6 (enc := enc) (C := Try.checked) false ⟨#[], #[.slice none 0 0, .int .u32 0], []⟩ 8 (by kernel_rfl) (by kernel_rfl) (by kernel_rfl) (by kernel_rfl)) ?_
  · intro ds hd
    have h2 : Try.f4.params.size = 2 := by kernel_rfl
    rw [h2] at hd
    match ds, hd with
    | [d1, d2], _ => rfl
  · intro W base args ds before hg hval hA
    have hA : DataW.TrodAll enc Try.prog W 0 (fun _ => true) true Try.f4.params.toList args.toList ds before := hA
    rw [Try.params4] at hA hval
    obtain ⟨v0, vs0, d0, ds0, p0, q0, hargs, rfl, rfl, h0, r0⟩ := trodAll_cons hA
    obtain ⟨v1, vs1, d1, ds1, p1, q1, rfl, rfl, rfl, h1, r1⟩ := trodAll_cons r0
    obtain ⟨rfl, rfl, rfl⟩ := trodAll_nil r1
    obtain rfl : args = #[v0, v1] := by cases args; simp_all
    obtain ⟨a0, len0, cap0, rfl⟩ := okWide_slice Try.underlying27 (hval 0 27 v0 rfl rfl)
    obtain ⟨n, rfl, rfl, rfl, w1⟩ := open_int Try.underlying23 (hval 1 23 v1 rfl rfl) h1
    obtain ⟨fuel, hf⟩ := h0
    obtain ⟨A, c, ps, hcs, hP⟩ := open_parts Try.underlying27 Try.underlying25 Try.underlying5 (by kernel_rfl) (by kernel_rfl) hf
    simp [Value.cells] at hcs
    obtain ⟨rfl, rfl, rfl⟩ := hcs
    have hn : 0 ≤ n ∧ n ≤ 4294967295 := by simpa [Lit.wf, IntKind.min, IntKind.max, IntKind.signed, IntKind.bits] using w1
    obtain ⟨s, rfl⟩ : ∃ s : Nat, n = s := ⟨n.toNat, by omega⟩
    exact parts_law a0 cap0 ps s (by omega) W hP (awake W hg)
theorem over : Rows.sumsPartsRow.holds Try.pinned (OpenSpec.ofChange Rows.sumsPartsSpec) :=
  OpenClaim.holds_of_wide 4 Try.f4 rfl rfl rfl rfl rfl rfl rfl ⟨rfl, rfl, rfl, rfl, rfl⟩ rfl rfl rfl rfl rfl (by kernel_rfl) Try.func4 (by kernel_rfl)
    (of_decide_eq_true (by kernel_rfl)) (by unfold Func.isWrapper; first | (rw [if_pos (by decide +kernel)]; kernel_rfl) | (rw [if_neg (by decide +kernel)]; exact ⟨rfl, rfl⟩))
    (fun os started H enc _ => lifted os started H enc)
theorem proved : Rows.SumsPartsSaid := over
#print axioms proved
end Go.Proofs.Ytojdjicljlbcjaa.sumsParts

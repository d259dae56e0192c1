/- It proves the statement SumsOneSaid of this seat. No condition. -/
import Derived.Test.YtdeomolfbfplpaaSumsO2
namespace Go.Proofs.Ytdeomolfbfplpaa.sumsOne
open Go Go.ChangeShapes Go.WideShapes Go.ChangeAt Go.RowKit Go.Wk
def nmL : List Nat := [0, 0, 0, 5, 17592253425139, 263623, 1, 1005, 491891, 131315, 5, 285, 0, 0, 0, 0, 0, 0, 0, 0, 0, 0, 0, 0, 0, 0, 0, 0]
def nm (f : Nat) : Nat := nmL.getD f 0
theorem mixed : Try.prog.follows .mixedOrders = true := by kernel_rfl
theorem ran : Am.isTrue (Am.run0 Try.prog nm 1000 20 6 [] []) = true := by kernel_rfl
theorem own : ownKnob Try.prog.godebug = none := by kernel_rfl
theorem awake (w : World) (hw : Try.prog.globals.size < w.heap.size) : Calls Try.prog 6 #[] w fun e w' => e = .returned (.bool true) ∧ Below w.heap.size w w' :=
  Am.closed_true mixed ran Try.func6 (by kernel_rfl) w hw Am.laid_none
set_option maxRecDepth 100000 in
theorem lifted (os : Os) (started : os.Started) (H : Type) (enc : TypeId × Value → H) :
    ReturnsInHanded {} Try.checked os 5 .any (Rows.sumsOneSpec.pre6 enc Try.prog Try.f5 Rows.sumsOneRow.domain false) (Rows.sumsOneSpec.post enc Try.prog Try.f5 false true false false) := by
  refine Am.law_plain (C := Try.checked) started own (by kernel_rfl) Try.func5 rfl ?_ (by kernel_rfl) Try.underlying4 (by kernel_rfl) (by kernel_rfl) (by kernel_rfl)
    (ChangeSpec.witness6 (enc := enc) (C := Try.checked) false ⟨#[], #[.slice none 0 0, .int .u16 0, .int .u8 0], []⟩ 8 (by kernel_rfl) (by kernel_rfl) (by kernel_rfl) (by kernel_rfl)) ?_
  · intro ds hd
    have h2 : Try.f5.params.size = 3 := by kernel_rfl
    rw [h2] at hd
    match ds, hd with
    | [d1, d2, d3], _ => rfl
  · intro W base args ds before hg hval hA
    have hA : DataW.TrodAll enc Try.prog W 0 (fun _ => true) true Try.f5.params.toList args.toList ds before := hA
    rw [Try.params5] at hA hval
    obtain ⟨v0, vs0, d0, ds0, p0, q0, hargs, rfl, rfl, h0, r0⟩ := trodAll_cons hA
    obtain ⟨v1, vs1, d1, ds1, p1, q1, rfl, rfl, rfl, h1, r1⟩ := trodAll_cons r0
    obtain ⟨v2, vs2, d2, ds2, p2, q2, rfl, rfl, rfl, h2, r2⟩ := trodAll_cons r1
    obtain ⟨rfl, rfl, rfl⟩ := trodAll_nil r2
    obtain rfl : args = #[v0, v1, v2] := by cases args; simp_all
    obtain ⟨a0, len0, cap0, rfl⟩ := okWide_slice Try.underlying25 (hval 0 25 v0 rfl rfl)
    obtain ⟨n, rfl, rfl, rfl, w1⟩ := open_int Try.underlying30 (hval 1 30 v1 rfl rfl) h1
    obtain ⟨y, rfl, rfl, rfl, w2⟩ := open_int Try.underlying5 (hval 2 5 v2 rfl rfl) h2
    obtain ⟨fuel, hf⟩ := h0
    obtain ⟨A, c, bs, hcs, hP, _, hle⟩ := open_byt Try.underlying25 Try.underlying5 (by kernel_rfl) hf
    simp [Value.cells] at hcs
    obtain ⟨rfl, rfl, rfl⟩ := hcs
    have hn : 0 ≤ n ∧ n ≤ 65535 := by simpa [Lit.wf, IntKind.min, IntKind.max, IntKind.signed, IntKind.bits] using w1
    obtain ⟨s, rfl⟩ : ∃ s : Nat, n = s := ⟨n.toNat, by omega⟩
    obtain ⟨u, rfl⟩ := wf_u8 w2
    exact one_law a0 cap0 bs s (by omega) u W hP hle (awake W hg)
theorem over : Rows.sumsOneRow.holds Try.pinned (OpenSpec.ofChange Rows.sumsOneSpec) :=
  OpenClaim.holds_of_wide 5 Try.f5 rfl rfl rfl rfl rfl rfl rfl ⟨rfl, rfl, rfl, rfl, rfl⟩ rfl rfl rfl rfl rfl (by kernel_rfl) Try.func5 (by kernel_rfl)
    (of_decide_eq_true (by kernel_rfl)) (by unfold Func.isWrapper; first | (rw [if_pos (by decide +kernel)]; kernel_rfl) | (rw [if_neg (by decide +kernel)]; exact ⟨rfl, rfl⟩))
    (fun os started H enc _ => lifted os started H enc)
theorem proved : Rows.SumsOneSaid := over
#print axioms proved
end Go.Proofs.Ytdeomolfbfplpaa.sumsOne

/- The arguments of the law of dates, opened. No condition. -/
import Derived.Test.YtkpikpaepgknnaaGreatDoorXdLaw
import Derived.WideKeyArr2
import Derived.ProofKit
import Derived.OpenShut
import Derived.ChangeSlices
namespace Go.Proofs.YtkpikpaepgknnaaGreatDoor
open Go Go.RowKit Go.Wk Go.ChangeShapes Go.WideShapes
theorem okWide_array' {P : Program} {w : World} {r : Reach} {base t n e : Nat} {v : Value} (ht : P.underlying t = some (.array n e)) (h : Value.okWide P w r base t v) : ∃ cs, v = .agg cs ∧ cs.size = P.cellsOf t := by
  simp only [Value.okWide, ht] at h
  obtain ⟨cs, h1, h2, _⟩ := h
  exact ⟨cs, h1, h2⟩
theorem open_arrK {H : Type} {enc : TypeId × Value → H} {P : Program} {W : World} {base : Nat} {sp : Nat → Bool} {held : Bool} {t n e fuel : Nat} {kd : IntKind} {cs : List Value} {x : DataW H × List MemPlace}
    (ht : P.underlying t = some (.array n e)) (hc : P.cellsOf t = n) (he : P.underlying e = some (.int kd)) (hc1 : P.cellsOf e = 1) (h : DataW.trod enc P W base sp held fuel t cs = some x) :
    cs.length = n ∧ ∀ (i : Nat) (v : Value), cs[i]? = some v → ∃ z : Int, (Lit.int kd z).wf = true ∧ v = .int kd z := by
  cases fuel with
  | zero => simp [DataW.trod] at h
  | succ m =>
    rw [DataW.trod_step] at h
    unfold DataW.trodStep at h
    simp only [ht, hc, hc1] at h
    split at h
    · rename_i hl
      refine ⟨hl, fun i v hv => ?_⟩
      simp only [Option.map_eq_some_iff] at h
      obtain ⟨ys, hy, _⟩ := h
      have hi : i < n := by have := (List.getElem?_eq_some_iff.1 hv).1; omega
      have key : ∀ (l : List Nat) (ys : List (DataW H × List MemPlace)), (l.mapM fun i => DataW.trod enc P W base sp held m e ((cs.drop (i * 1)).take 1)) = some ys → ∀ i ∈ l, ∃ y, DataW.trod enc P W base sp held m e ((cs.drop (i * 1)).take 1) = some y := by
        intro l
        induction l with
        | nil => intro _ _ i hi; cases hi
        | cons a l ih =>
          intro ys hys i hi
          rw [List.mapM_cons] at hys
          simp only [bind, Option.bind_eq_some_iff] at hys
          obtain ⟨y, hy, zs, hzs, _⟩ := hys
          rcases List.mem_cons.1 hi with rfl | hi
          · exact ⟨y, hy⟩
          · exact ih zs hzs i hi
      obtain ⟨y, hy⟩ := key _ _ hy i (List.mem_range.2 hi)
      have e1 : (cs.drop (i * 1)).take 1 = [v] := by
        rw [Nat.mul_one]
        have hi2 : i < cs.length := by omega
        rw [List.drop_eq_getElem_cons hi2, List.take_succ_cons, List.take_zero]
        congr 1
        have := List.getElem?_eq_getElem hi2
        rw [hv] at this
        exact (Option.some.inj this).symm
      rw [e1] at hy
      obtain ⟨a, ea, _, wa⟩ := DataW.trod_int he hy
      exact ⟨a, wa, (List.cons.inj ea).1⟩
    · cases h
theorem u16_nat {z : Int} (h : (Lit.int .u16 z).wf = true) : ∃ n : Nat, n < 65536 ∧ z = (n : Int) := by
  have : 0 ≤ z ∧ z ≤ 65535 := by simpa [Lit.wf, IntKind.min, IntKind.max, IntKind.signed, IntKind.bits] using h
  exact ⟨z.toNat, by omega, by omega⟩
theorem open_parts6 {H : Type} {enc : TypeId × Value → H} {W : World} {base : Nat} {sp : Nat → Bool} {held : Bool} {fuel : Nat} {cs : Array Value} {x : DataW H × List MemPlace}
    (h : DataW.trod enc Tryz.prog W base sp held fuel 47 cs.toList = some x) : ∃ p : Nat → Nat, (∀ i, p i < 65536) ∧ cs = partU p := by
  obtain ⟨hl, hv⟩ := open_arrK Tryz.underlying47 (by kernel_rfl) Tryz.underlying46 (by kernel_rfl) h
  obtain ⟨l⟩ := cs
  match l, hl, hv with
  | [c0, c1, c2, c3, c4, c5], _, hv =>
    obtain ⟨z0, b0, rfl⟩ := hv 0 c0 rfl
    obtain ⟨z1, b1, rfl⟩ := hv 1 c1 rfl
    obtain ⟨z2, b2, rfl⟩ := hv 2 c2 rfl
    obtain ⟨z3, b3, rfl⟩ := hv 3 c3 rfl
    obtain ⟨z4, b4, rfl⟩ := hv 4 c4 rfl
    obtain ⟨z5, b5, rfl⟩ := hv 5 c5 rfl
    obtain ⟨n0, m0, rfl⟩ := u16_nat b0
    obtain ⟨n1, m1, rfl⟩ := u16_nat b1
    obtain ⟨n2, m2, rfl⟩ := u16_nat b2
    obtain ⟨n3, m3, rfl⟩ := u16_nat b3
    obtain ⟨n4, m4, rfl⟩ := u16_nat b4
    obtain ⟨n5, m5, rfl⟩ := u16_nat b5
    refine ⟨fun | 0 => n0 | 1 => n1 | 2 => n2 | 3 => n3 | 4 => n4 | _ => n5, fun i => ?_, rfl⟩
    match i with
    | 0 => exact m0
    | 1 => exact m1
    | 2 => exact m2
    | 3 => exact m3
    | 4 => exact m4
    | _ + 5 => exact m5
end Go.Proofs.YtkpikpaepgknnaaGreatDoor

/- Paint: arrays of numbers, opened. No condition. -/
import Derived.Test.YtjlomalpmlgjbaaGreatDoorPmLaw
import Derived.WideKeyArr2
import Derived.ProofKit
import Derived.OpenShut
import Derived.ChangeSlices
namespace Go.Proofs.YtjlomalpmlgjbaaGreatDoor
open Go Go.RowKit Go.Wk Go.ChangeShapes Go.WideShapes
theorem okWide_array' {P : Program} {w : World} {r : Reach} {base t n e : Nat} {v : Value} (ht : P.underlying t = some (.array n e)) (h : Value.okWide P w r base t v) : ∃ cs, v = .agg cs ∧ cs.size = P.cellsOf t := by
  simp only [Value.okWide, ht] at h
  obtain ⟨cs, h1, h2, _⟩ := h
  exact ⟨cs, h1, h2⟩
theorem open_arr {H : Type} {enc : TypeId × Value → H} {P : Program} {W : World} {base : Nat} {sp : Nat → Bool} {held : Bool} {t n e fuel : Nat} {cs : List Value} {x : DataW H × List MemPlace}
    (ht : P.underlying t = some (.array n e)) (hc : P.cellsOf t = n) (he : P.underlying e = some (.int .i64)) (hc1 : P.cellsOf e = 1) (h : DataW.trod enc P W base sp held fuel t cs = some x) :
    cs.length = n ∧ ∀ (i : Nat) (v : Value), cs[i]? = some v → ∃ z : Int, i64 z ∧ v = .int .i64 z := by
  cases fuel with
  | zero => simp [DataW.trod] at h
  | succ m =>
    rw [DataW.trod_step] at h
    unfold DataW.trodStep at h
    simp only [ht, hc, hc1] at h
    split at h
    · rename_i hl
      refine ⟨hl, fun i v hv => ?_⟩
      simp only [Option.map_eq_some_iff] at h
      obtain ⟨ys, hy, _⟩ := h
      have hi : i < n := by have := (List.getElem?_eq_some_iff.1 hv).1; omega
      have key : ∀ (l : List Nat) (ys : List (DataW H × List MemPlace)), (l.mapM fun i => DataW.trod enc P W base sp held m e ((cs.drop (i * 1)).take 1)) = some ys → ∀ i ∈ l, ∃ y, DataW.trod enc P W base sp held m e ((cs.drop (i * 1)).take 1) = some y := by
        intro l
        induction l with
        | nil => intro _ _ i hi; cases hi
        | cons a l ih =>
          intro ys hys i hi
          rw [List.mapM_cons] at hys
          simp only [bind, Option.bind_eq_some_iff] at hys
          obtain ⟨y, hy, zs, hzs, _⟩ := hys
          rcases List.mem_cons.1 hi with rfl | hi
          · exact ⟨y, hy⟩
          · exact ih zs hzs i hi
      obtain ⟨y, hy⟩ := key _ _ hy i (List.mem_range.2 hi)
      have e1 : (cs.drop (i * 1)).take 1 = [v] := by
        rw [Nat.mul_one]
        have hi2 : i < cs.length := by omega
        rw [List.drop_eq_getElem_cons hi2, List.take_succ_cons, List.take_zero]
        congr 1
        have := List.getElem?_eq_getElem hi2
        rw [hv] at this
        exact (Option.some.inj this).symm
      rw [e1] at hy
      obtain ⟨a, ea, _, wa⟩ := DataW.trod_int he hy
      refine ⟨a, ?_, (List.cons.inj ea).1⟩
      simpa [i64, Lit.wf, IntKind.min, IntKind.max, IntKind.signed, IntKind.bits] using wa
    · cases h
theorem open_mat {H : Type} {enc : TypeId × Value → H} {W : World} {base : Nat} {sp : Nat → Bool} {held : Bool} {fuel : Nat} {cs : Array Value} {x : DataW H × List MemPlace}
    (h : DataW.trod enc Tryz.prog W base sp held fuel 23 cs.toList = some x) : ∃ a : Nat → Int, (∀ i, i64 (a i)) ∧ cs = mat a := by
  obtain ⟨hl, hv⟩ := open_arr Tryz.underlying23 (by kernel_rfl) Tryz.underlying2 (by kernel_rfl) h
  obtain ⟨l⟩ := cs
  match l, hl, hv with
  | [c0, c1, c2, c3, c4, c5], _, hv =>
    obtain ⟨z0, b0, rfl⟩ := hv 0 c0 rfl
    obtain ⟨z1, b1, rfl⟩ := hv 1 c1 rfl
    obtain ⟨z2, b2, rfl⟩ := hv 2 c2 rfl
    obtain ⟨z3, b3, rfl⟩ := hv 3 c3 rfl
    obtain ⟨z4, b4, rfl⟩ := hv 4 c4 rfl
    obtain ⟨z5, b5, rfl⟩ := hv 5 c5 rfl
    refine ⟨fun | 0 => z0 | 1 => z1 | 2 => z2 | 3 => z3 | 4 => z4 | _ => z5, fun i => ?_, rfl⟩
    match i with
    | 0 => exact b0
    | 1 => exact b1
    | 2 => exact b2
    | 3 => exact b3
    | 4 => exact b4
    | _ + 5 => exact b5
theorem open_two {H : Type} {enc : TypeId × Value → H} {W : World} {base : Nat} {sp : Nat → Bool} {held : Bool} {fuel : Nat} {cs : Array Value} {x : DataW H × List MemPlace}
    (h : DataW.trod enc Tryz.prog W base sp held fuel 24 cs.toList = some x) : ∃ a b : Int, i64 a ∧ i64 b ∧ cs = #[.int .i64 a, .int .i64 b] := by
  obtain ⟨hl, hv⟩ := open_arr Tryz.underlying24 (by kernel_rfl) Tryz.underlying2 (by kernel_rfl) h
  obtain ⟨l⟩ := cs
  match l, hl, hv with
  | [c0, c1], _, hv =>
    obtain ⟨z0, b0, rfl⟩ := hv 0 c0 rfl
    obtain ⟨z1, b1, rfl⟩ := hv 1 c1 rfl
    exact ⟨z0, z1, b0, b1, rfl⟩
end Go.Proofs.YtjlomalpmlgjbaaGreatDoor

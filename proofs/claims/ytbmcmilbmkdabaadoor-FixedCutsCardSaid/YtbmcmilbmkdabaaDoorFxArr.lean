/- Fixed: an array of five bytes, opened. -/
import Derived.Test.YtbmcmilbmkdabaaDoorFxCutp
import Derived.WideKeyArr2
namespace Go.Proofs.YtbmcmilbmkdabaaDoor
open Go Go.RowKit Go.Wk
theorem open_arr5 {H : Type} {enc : TypeId × Value → H} {W : World} {base : Nat} {sp : Nat → Bool} {held : Bool} {fuel : Nat} {cs : List Value} {x : DataW H × List MemPlace} (h : DataW.trod enc Tryd.prog W base sp held fuel 34 cs = some x) :
    ∃ ds : List UInt8, ds.length = 5 ∧ cs = ds.map (fun b => Value.int .u8 (b.toNat : Int)) := by
  cases fuel with
  | zero => simp [DataW.trod] at h
  | succ m =>
    rw [DataW.trod_step] at h
    unfold DataW.trodStep at h
    have hc : Tryd.prog.cellsOf 34 = 5 := by kernel_rfl
    have hc1 : Tryd.prog.cellsOf 5 = 1 := by kernel_rfl
    simp only [Tryd.underlying34, hc, hc1] at h
    split at h
    · rename_i hl
      match cs, hl with
      | [c0, c1, c2, c3, c4], _ =>
        simp only [Option.map_eq_some_iff] at h
        obtain ⟨ys, hy, _⟩ := h
        rw [show List.range 5 = [0, 1, 2, 3, 4] from rfl] at hy
        simp only [List.mapM_cons, List.mapM_nil, bind, Option.bind_eq_some_iff, pure] at hy
        obtain ⟨y0, h0, _, ⟨y1, h1, _, ⟨y2, h2, _, ⟨y3, h3, _, ⟨y4, h4, _⟩, _⟩, _⟩, _⟩, _⟩ := hy
        have one : ∀ {c : Value} {y : DataW H × List MemPlace}, DataW.trod enc Tryd.prog W base sp held m 5 [c] = some y → ∃ b : UInt8, c = .int .u8 (b.toNat : Int) := by
          intro c y hh
          obtain ⟨a, ea, _, wa⟩ := DataW.trod_int Tryd.underlying5 hh
          obtain ⟨b, hb⟩ := wf_u8 wa
          have e1 := (List.cons.inj ea).1
          exact ⟨b, e1.trans (congrArg (Value.int .u8) hb)⟩
        obtain ⟨b0, rfl⟩ := one h0
        obtain ⟨b1, rfl⟩ := one h1
        obtain ⟨b2, rfl⟩ := one h2
        obtain ⟨b3, rfl⟩ := one h3
        obtain ⟨b4, rfl⟩ := one h4
        exact ⟨[b0, b1, b2, b3, b4], rfl, rfl⟩
    · cases h
end Go.Proofs.YtbmcmilbmkdabaaDoor

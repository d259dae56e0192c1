/- Fixed: the law of reckonings, walked. No condition. -/
import Derived.Test.YtbmcmilbmkdabaaDoorFxRef
namespace Go.Proofs.YtbmcmilbmkdabaaDoor
open Go Go.RowKit Go.Wk
open Go.ChangeShapes in
theorem open_nums {H : Type} {enc : TypeId × Value → H} {P : Program} {w : World} {base : Nat} {sp : Nat → Bool} {held : Bool} {t e fuel : Nat} {cs : List Value} {x : DataW H × List MemPlace} (ht : P.underlying t = some (.slice e)) (he : P.underlying e = some (.int .i64)) (hc : P.cellsOf e = 1) (h : DataW.trod enc P w base sp held fuel t cs = some x) :
    ∃ A c zs, cs = [.slice A (zs : List Int).length c] ∧ Nums w A zs := by
  rcases open_ints ht he hc h with ⟨rfl, _⟩ | ⟨a, len, cap, zs, rfl, _, hlc, hcm, hz, _, hcell, hwf⟩
  · exact ⟨none, 0, [], rfl, Nat.zero_le _, fun h => by simp at h⟩
  · have hlz : len ≤ zs.length := by rw [hz]; split <;> omega
    have hl : (zs.take len).length = len := by simp; omega
    refine ⟨some a, cap, zs.take len, by rw [hl], by rw [hl]; omega, fun h0 => ?_⟩
    rw [hl] at h0
    obtain ⟨b, o, spot⟩ := a
    have h1 := hcell 0 (by omega)
    have hspot : spot = none := by simpa [Addr.add] using World.cell?_spot h1
    subst hspot
    refine ⟨b, o, rfl, fun i hi => ?_⟩
    have hil : i < len := by rw [hl] at hi; exact hi
    have := hcell i (by omega)
    rw [add_none] at this
    rw [this, List.getElem_take, List.getD_eq_getElem?_getD, List.getElem?_eq_getElem (by omega), Option.getD_some]
set_option maxHeartbeats 1000000 in
theorem reckons_law (a b : Int) (A : Option Addr) (c : Nat) (zs : List Int) (ha : i64 a) (hb : i64 b) (w : World) (hN : Nums w A zs)
    (haw : Calls Tryd.prog 11 #[] w fun e w' => e = .returned (.bool true) ∧ Below w.heap.size w w') :
    Calls Tryd.prog 9 #[.int .i64 a, .int .i64 b, .slice A zs.length c] w fun e w' => e = .returned (.bool true) ∧ Below w.heap.size w w' := by
  have hm := hN.1
  unfold maxLen at hm
  by_cases h50 : zs.length ≤ 50
  · have c1 := fun w => fixed_Mul a b ha hb w
    have c2 := fun w => ref_Mul a b w
    have c3 := fun w => fixed_Div a b ha hb w
    have c4 := fun w => ref_Div a b w
    have c5 := Lib.hid fun (w1 : World) (h : Below w.heap.size w w1) => fixed_Add A c zs w1 (hN.below h)
    have c6 := Lib.hid fun (w1 : World) (h : Below w.heap.size w w1) => ref_Add A c zs w1 (hN.below h)
    generalize scaledS a b 100000 = S at *
    generalize divS a b = D at *
    generalize addF 0 zs = T at *
    obtain ⟨s1, s2⟩ := S
    obtain ⟨d1, d2⟩ := D
    obtain ⟨t1, t2⟩ := T
    simp only at c1 c2 c3 c4
    clear hN ha hb
    go_enter Tryd.func9, Tryd.ntmps9
    go_wp2_with (first
      | (go_at_call 11; (with_reducible refine haw.mono ?_); rintro e w1 ⟨rfl, hw1⟩)
      | (go_at_call 18; (with_reducible refine (c1 _).mono ?_); rintro e w2 ⟨rfl, hw2⟩; have hw12 := bthen hw1 hw2)
      | (go_at_call 21; (with_reducible refine (c2 _).mono ?_); rintro e w1 ⟨rfl, rfl⟩)
      | (go_at_call 19; (with_reducible refine (c3 _).mono ?_); rintro e w3 ⟨rfl, hw3⟩; have hw13 := bthen hw12 hw3; have k5 := c5.out _ hw13; have k6 := c6.out _ hw13)
      | (go_at_call 22; (with_reducible refine (c4 _).mono ?_); rintro e w1 ⟨rfl, rfl⟩)
      | (go_at_call 20; (with_reducible refine k5.mono ?_); rintro e w1 ⟨rfl, rfl⟩)
      | (go_at_call 23; (with_reducible refine k6.mono ?_); rintro e w1 ⟨rfl, rfl⟩))
    go_ret
    exact ⟨rfl, hw13⟩
  · clear hN ha hb
    go_enter Tryd.func9, Tryd.ntmps9
    go_wp2_with (go_at_call 11; (with_reducible refine haw.mono ?_); rintro e w1 ⟨rfl, hw1⟩)
    go_ret
    exact ⟨rfl, hw1⟩
end Go.Proofs.YtbmcmilbmkdabaaDoor

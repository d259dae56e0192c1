/- Fixed: the law of the reading of bytes, walked. No condition. -/
import Derived.Test.YtbmcmilbmkdabaaDoorFxRparse
namespace Go.Proofs.YtbmcmilbmkdabaaDoor
open Go Go.RowKit Go.Wk
set_option maxHeartbeats 1000000 in
theorem parses_law (A : Option Addr) (c : Nat) (bs : List UInt8) (w : World) (hB : Byt w A bs) (hc : bs.length ≤ c)
    (haw : Calls Tryd.prog 11 #[] w fun e w' => e = .returned (.bool true) ∧ Below w.heap.size w w') :
    Calls Tryd.prog 3 #[.slice A bs.length c] w fun e w' => e = .returned (.bool true) ∧ Below w.heap.size w w' := by
  by_cases hs : 200 < bs.length
  · go_enter Tryd.func3, Tryd.ntmps3
    go_wp2_with (go_at_call 11; (with_reducible refine haw.mono ?_); rintro e w1 ⟨rfl, hw1⟩)
    go_ret
    exact ⟨rfl, hw1⟩
  · have c1 : Hid (∀ w, Byt w A bs → Calls Tryd.prog 12 #[.slice A bs.length c] w fun e w' => e = .returned (.tuple #[.int .i64 (parseS bs).1, .bool (parseS bs).2.1, .int .i64 (parseS bs).2.2]) ∧ Below w.heap.size w w') := Lib.hid fun w h => fx_parse h hc (by omega)
    have c2 : Hid (∀ w, Byt w A bs → Calls Tryd.prog 13 #[.slice A bs.length c] w fun e w' => e = .returned (.tuple #[.int .i64 (parseS bs).1, .bool (parseS bs).2.1, .int .i64 (parseS bs).2.2]) ∧ Below w.heap.size w w') := Lib.hid fun w h => ref_parse h hc (by omega)
    generalize (parseS bs) = T at *
    obtain ⟨n, b, k⟩ := T
    simp only at c1 c2
    replace hB := Lib.hid hB
    go_enter Tryd.func3, Tryd.ntmps3
    go_wp2_with (first
      | (go_at_call 11; (with_reducible refine haw.mono ?_); rintro e w1 ⟨rfl, hw1⟩; have hB1 := Lib.hid (hB.out.below hw1))
      | (go_at_call 12; (with_reducible refine (c1.out _ hB1.out).mono ?_); rintro e w2 ⟨rfl, hw2⟩; have hB2 := Lib.hid (hB1.out.below hw2))
      | (go_at_call 13; (with_reducible refine (c2.out _ hB2.out).mono ?_); rintro e w3 ⟨rfl, hw3⟩))
    go_ret
    have b2 := hw1.trans (hw2.mono hw1.size)
    exact ⟨by simp, b2.trans (hw3.mono b2.size)⟩
end Go.Proofs.YtbmcmilbmkdabaaDoor

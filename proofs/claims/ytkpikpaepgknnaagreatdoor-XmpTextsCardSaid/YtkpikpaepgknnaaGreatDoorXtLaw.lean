/- The law of texts: any string of a document as a text, as a date; any name's kind. No condition. -/
import Derived.Test.YtkpikpaepgknnaaGreatDoorXtRplain
import Derived.Test.YtkpikpaepgknnaaGreatDoorXtRdate
import Derived.Test.YtkpikpaepgknnaaGreatDoorXtKnown
import Derived.Test.YtkpikpaepgknnaaGreatDoorXdDate
import Derived.Lib.LaidU8T
import Derived.ProofKit
import Derived.OpenShut
import Derived.ChangeSlices
set_option linter.unusedVariables false
namespace Go.Proofs.YtkpikpaepgknnaaGreatDoor
open Go Go.RowKit Go.Wk Go.Xt
set_option maxHeartbeats 4000000 in
set_option maxRecDepth 100000 in
theorem texts_law (A : Option Addr) (c : Nat) (bs : List UInt8) (s n : ByteArray) (w : World) (hb : Byt w A bs) (hc : bs.length ≤ c) (hs63 : s.size ≤ 9223372036854775807) (hn63 : n.size ≤ 9223372036854775807) (hT : Lib.Utf8Tabs 0 1 w) (h2 : 2 ≤ w.heap.size)
    (haw : Calls Tryz.prog 8 #[] w fun e w' => e = .returned (.bool true) ∧ Below w.heap.size w w') :
    Calls Tryz.prog 7 #[.slice A bs.length c, .string s, .string n] w fun e w' => e = .returned (.bool true) ∧ Below w.heap.size w w' := by
  have hm := hb.1
  unfold maxLen at hm
  by_cases hl : bs.length ≤ 500
  · by_cases hs : s.size ≤ 200
    · by_cases hn : n.size ≤ 200
      · have cK1 := fun (w : World) => prog_Known (w := w) s n hs hn
        have cK2 := fun (w : World) => ref_Known (w := w) s n
        simp only [kn_same] at cK1
        have cP : ∀ w1, Below w.heap.size w w1 → Calls Tryz.prog 20 #[.slice A bs.length c] w1 fun e w' => e = .returned (.tuple #[.string ⟨((plainS bs).getD []).toArray⟩, .bool (plainS bs).isSome]) ∧ Below w1.heap.size w1 w' := fun w1 h =>
          xmp_Plain c (hb.below h) hc (by omega) (tabs_kept hT (h.block 0 (by omega)) (h.block 1 (by omega))) (by have := h.size; omega)
        have cR : ∀ w1, Below w.heap.size w w1 → Calls Tryz.prog 22 #[.slice A bs.length c] w1 fun e w' => e = .returned (.tuple #[.string ⟨((plainS bs).getD []).toArray⟩, .bool (plainS bs).isSome]) ∧ Below w1.heap.size w1 w' := fun w1 h =>
          ref_Plain c (hb.below h) hc (by omega)
        have cD : ∀ w1, Below w.heap.size w w1 → Calls Tryz.prog 19 #[.slice A bs.length c] w1 fun e w' => e = .returned (.tuple #[.string ⟨(dateS bs).1.toArray⟩, .bool (dateS bs).2]) ∧ Below w1.heap.size w1 w' := fun w1 h =>
          xmp_Date A c bs w1 (hb.below h) hc (by omega)
        have cE : ∀ w1, Below w.heap.size w w1 → Calls Tryz.prog 23 #[.slice A bs.length c] w1 fun e w' => e = .returned (.tuple #[.string ⟨(dateS bs).1.toArray⟩, .bool (dateS bs).2]) ∧ Below w1.heap.size w1 w' := fun w1 h =>
          ref_Date c (hb.below h) hc (by omega)
        replace cP := Lib.hid cP
        replace cR := Lib.hid cR
        replace cD := Lib.hid cD
        replace cE := Lib.hid cE
        replace hb := Lib.hid hb
        replace hT := Lib.hid hT
        generalize (⟨((plainS bs).getD []).toArray⟩ : ByteArray) = S1 at *
        generalize (plainS bs).isSome = B1 at *
        generalize (⟨(dateS bs).1.toArray⟩ : ByteArray) = S2 at *
        generalize (dateS bs).2 = B2 at *
        generalize knR s.data.toList n.data.toList = N at *
        go_enter Tryz.func7, Tryz.ntmps7
        go_wp2_with (first
          | (go_at_call 8; (with_reducible refine haw.mono ?_); rintro e w1 ⟨rfl, b1⟩; have k1 := cP.out w1 b1; replace b1 := Lib.hid b1)
          | (go_at_call 20; (with_reducible refine k1.mono ?_); rintro e w2 ⟨rfl, b2⟩; have b2' := bthen b1.out b2; have k2 := cR.out w2 b2'; replace b2' := Lib.hid b2'; replace b2 := Lib.hid b2)
          | (go_at_call 22; (with_reducible refine k2.mono ?_); rintro e w3 ⟨rfl, b3⟩; have b3' := bthen b2'.out b3; have k3 := cD.out w3 b3'; replace b3' := Lib.hid b3'; replace b3 := Lib.hid b3)
          | (go_at_call 19; (with_reducible refine k3.mono ?_); rintro e w4 ⟨rfl, b4⟩; have b4' := bthen b3'.out b4; have k4 := cE.out w4 b4'; replace b4' := Lib.hid b4'; replace b4 := Lib.hid b4)
          | (go_at_call 23; (with_reducible refine k4.mono ?_); rintro e w5 ⟨rfl, b5⟩; have b5' := bthen b4'.out b5; replace b5' := Lib.hid b5'; replace b5 := Lib.hid b5)
          | (go_at_call 21; (with_reducible refine (cK1 _).mono ?_); rintro e w6 ⟨rfl, rfl⟩)
          | (go_at_call 24; (with_reducible refine (cK2 _).mono ?_); rintro e w6 ⟨rfl, rfl⟩))
        go_ret
        exact ⟨rfl, b5'.out⟩
      · replace hb := Lib.hid hb
        replace hT := Lib.hid hT
        go_enter Tryz.func7, Tryz.ntmps7
        go_wp2_with (go_at_call 8; (with_reducible refine haw.mono ?_); rintro e w1 ⟨rfl, b1⟩; replace b1 := Lib.hid b1)
        go_ret
        exact ⟨rfl, b1.out⟩
    · replace hb := Lib.hid hb
      replace hT := Lib.hid hT
      go_enter Tryz.func7, Tryz.ntmps7
      go_wp2_with (go_at_call 8; (with_reducible refine haw.mono ?_); rintro e w1 ⟨rfl, b1⟩; replace b1 := Lib.hid b1)
      go_ret
      exact ⟨rfl, b1.out⟩
  · replace hb := Lib.hid hb
    replace hT := Lib.hid hT
    go_enter Tryz.func7, Tryz.ntmps7
    go_wp2_with (go_at_call 8; (with_reducible refine haw.mono ?_); rintro e w1 ⟨rfl, b1⟩; replace b1 := Lib.hid b1)
    go_ret
    exact ⟨rfl, b1.out⟩
set_option maxRecDepth 100000 in
theorem tabs_of {w : World} (h : laidMet Tryz.prog Rows.xmpTextsRow.laid w) : Lib.Utf8Tabs 0 1 w :=
  utf8Tabs_of_readsT (P := Tryz.prog) (ρ := ⟨fun n => n, fun | 5 => 5 | 119 => 160 | 138 => 162 | 139 => 163 | n => n, fun | 3 => 0 | 4 => 1 | n => n⟩) ⟨Tryz.underlying5, Tryz.underlying160, Tryz.underlying162, Tryz.underlying163⟩ ⟨by kernel_rfl, by kernel_rfl, by kernel_rfl, by kernel_rfl, by kernel_rfl, by kernel_rfl, by kernel_rfl⟩
    (Go.Lib.laidMet.reads h (List.mem_of_getElem? (i := 1) (by kernel_rfl))) (Go.Lib.laidMet.reads h (List.mem_of_getElem? (i := 0) (by kernel_rfl)))
theorem globs : Tryz.prog.globals.size = 3 := by kernel_rfl
end Go.Proofs.YtkpikpaepgknnaaGreatDoor

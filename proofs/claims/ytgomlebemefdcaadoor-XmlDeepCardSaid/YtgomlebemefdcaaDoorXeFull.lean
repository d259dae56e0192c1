/- The reader reads a full name that has no prefix. No condition. -/
import Derived.Test.YtgomlebemefdcaaDoorXeBld
set_option linter.unusedVariables false
namespace Go.Proofs.YtgomlebemefdcaaDoor
open Go Go.RowKit Go.Wk Go.Xt Go.Xe
set_option maxHeartbeats 2000000 in
set_option maxRecDepth 100000 in
theorem xml_full {w : World} {L R c p many : Nat} {A : Option Addr} {bs r nm : List UInt8} (h : RS w L R A c bs p many) (hr : Rest bs p r) (hn : nameS r = nm) (hne : nm ≠ []) (hno : ¬ [58] <+: r.drop nm.length) :
    Calls Tryd.prog 53 #[.pointer (some ⟨R, 0, none⟩)] w fun e w' => e = .returned (.tuple #[.string ⟨#[]⟩, str nm, .int .i64 0]) ∧ End w L R A c bs many (r.drop nm.length) w' := by
  have c1 := xml_one h hr hn hne
  have m1 : ∀ w1 q, RS w1 L R A c bs q many → Rest bs q (r.drop nm.length) → Calls Tryd.prog 54 #[.pointer (some ⟨L, 0, none⟩), .string ⟨#[58]⟩] w1 fun e w' => e = .returned (.bool false) ∧ RS w' L R A c bs q many ∧ Fr L R w1 w' := fun w1 q h1 hq => rs_no h1 ⟨#[58]⟩ (by decide) (by decide) (by rw [hq.eq]; exact hno)
  replace m1 := Lib.hid m1
  clear hn hne hno h hr
  generalize r.drop nm.length = r1 at *
  go_enter Tryd.func53, Tryd.ntmps53
  go_wp2_with (first
    | (go_at_call 64; (with_reducible refine c1.mono ?_); rintro e w1 ⟨rfl, ⟨⟨q, h1, hq⟩, f1⟩⟩; have k1 := m1.out w1 q h1 hq; have c0 := h1.rdr.cell 0; replace f1 := Lib.hid f1; replace h1 := Lib.hid h1; replace hq := Lib.hid hq)
    | (go_at_call 54; (with_reducible refine k1.mono ?_); rintro e w2 ⟨rfl, h2, f2⟩; replace f2 := Lib.hid f2; replace h2 := Lib.hid h2))
  go_ret3
  exact ⟨rfl, ⟨_, h2.out, hq.out⟩, f1.out.trans f2.out⟩
end Go.Proofs.YtgomlebemefdcaaDoor

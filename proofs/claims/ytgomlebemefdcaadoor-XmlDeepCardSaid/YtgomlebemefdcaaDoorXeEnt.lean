/- The reader reads what stands behind an &. No condition. -/
import Derived.Test.YtgomlebemefdcaaDoorXeFull
set_option linter.unusedVariables false
namespace Go.Proofs.YtgomlebemefdcaaDoor
open Go Go.RowKit Go.Wk Go.Xt Go.Xe
theorem xml_entity {w : World} {L R c p many : Nat} {A : Option Addr} {bs r s r' : List UInt8} (h : RS w L R A c bs p many) (hr : Rest bs p r) (hE : Ent r s r') :
    Calls Tryd.prog 72 #[.pointer (some ⟨R, 0, none⟩)] w fun e w' => e = .returned (.tuple #[str s, .int .i64 0]) ∧ End w L R A c bs many r' w' := by
  cases hE
theorem ent_len {r s r' : List UInt8} (h : Ent r s r') : r'.length < r.length := by
  cases h
theorem ent_out {r s r' : List UInt8} (h : Ent r s r') : s.length = 1 := by
  cases h
end Go.Proofs.YtgomlebemefdcaaDoor

/- The beginning's mark, with attributes. No condition. -/
import Derived.Test.YtgomlebemefdcaaDoorXeCont
set_option linter.unusedVariables false
namespace Go.Proofs.YtgomlebemefdcaaDoor
open Go Go.RowKit Go.Wk Go.Xt Go.Xe
def MarkG (w : World) (L R : Nat) (A : Option Addr) (c : Nat) (bs : List UInt8) (many : Nat) (N : ByteArray) (l : List (List UInt8 × List UInt8)) (closed : Bool) (r : List UInt8) (e : Ending) (w' : World) : Prop :=
  ∃ (a1 : Option Addr) (n1 c1 : Nat) (ba : List Nat), e = .returned (.tuple #[.string ⟨#[]⟩, .string N, .bool closed, .agg #[.string ⟨#[]⟩, .string N, .string ⟨#[]⟩, .slice a1 n1 c1, .slice none 0 0], .int .i64 0]) ∧ AtA w' l (.slice a1 n1 c1) ba ∧ (∀ k ∈ ba, w.heap.size ≤ k ∧ k < w'.heap.size) ∧ End w L R A c bs (many + 1) r w'
theorem xml_mark {w : World} {L R c p many : Nat} {A : Option Addr} {bs r r' nm : List UInt8} {l : List (List UInt8 × List UInt8)} {closed : Bool} (d : Nat) (hd0 : 0 < d) (hd : d ≤ 1000) (hm : many < 4000) (h : RS w L R A c bs p many) (hr : Rest bs p r) (hM : Xe.Mark r nm l closed r') :
    Calls Tryd.prog 51 #[.pointer (some ⟨R, 0, none⟩), .int .i64 d] w (MarkG w L R A c bs many ⟨nm.toArray⟩ l closed r') := by
  match l, hM with
  | [], hM =>
    refine (xml_mark_nil d hd0 hd hm h hr hM).mono ?_
    rintro e w' ⟨rfl, hE⟩
    exact ⟨none, 0, 0, [], rfl, .inl ⟨rfl, rfl, rfl⟩, by simp, hE⟩
  | a :: l, hM =>
    exfalso
    cases hM with
    | «open» _ _ _ _ _ _ _ _ _ hA => cases hA
    | shut _ _ _ _ _ _ _ _ _ hA => cases hA
end Go.Proofs.YtgomlebemefdcaaDoor

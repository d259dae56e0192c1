/- Nodes in memory. No condition. -/
import Derived.Test.YtgomlebemefdcaaDoorXeNode
set_option linter.unusedVariables false
namespace Go.Proofs.YtgomlebemefdcaaDoor
open Go Go.RowKit Go.Wk Go.Xt Go.Xe
def atV (l : List (List UInt8 × List UInt8)) : List Value := l.flatMap fun a => [str [], str a.1, str a.2]
/-- attributes in memory: in which block -/
def AtA (w : World) (l : List (List UInt8 × List UInt8)) (v : Value) (b : List Nat) : Prop :=
  (l = [] ∧ v = .slice none 0 0 ∧ b = []) ∨ ∃ g cap, v = .slice (some ⟨g, 0, none⟩) l.length cap ∧ w.ownsRow 0 34 3 v l.length (atV l) ∧ b = [g]
mutual
inductive NdAt (w : World) : Nd → List Value → List Nat → Prop
  | el (nm : List UInt8) (l : List (List UInt8 × List UInt8)) (ks : List Nd) (va vk : Value) (ba bk : List Nat) : AtA w l va ba → KsAt w ks vk bk → NdAt w (.el nm l ks) [str [], str nm, str [], va, vk] (ba ++ bk)
  | tx (t : List UInt8) : NdAt w (.tx t) [str [], str [], str t, .slice none 0 0, .slice none 0 0] []
inductive KsAt (w : World) : List Nd → Value → List Nat → Prop
  | nil : KsAt w [] (.slice none 0 0) []
  | row (ks : List Nd) (g cap : Nat) (vs : List Value) (b : List Nat) : w.ownsRow 0 27 5 (.slice (some ⟨g, 0, none⟩) ks.length cap) ks.length vs → RwAt w ks vs b → KsAt w ks (.slice (some ⟨g, 0, none⟩) ks.length cap) (g :: b)
inductive RwAt (w : World) : List Nd → List Value → List Nat → Prop
  | nil : RwAt w [] [] []
  | cons (k : Nd) (ks : List Nd) (vs vss : List Value) (b bs : List Nat) : NdAt w k vs b → RwAt w ks vss bs → RwAt w (k :: ks) (vs ++ vss) (b ++ bs)
end
theorem own_same {w w' : World} {base e s n g cap : Nat} {xs : List Value} (h : w.ownsRow base e s (.slice (some ⟨g, 0, none⟩) n cap) n xs) (hg : w'.heap[g]? = w.heap[g]?) : w'.ownsRow base e s (.slice (some ⟨g, 0, none⟩) n cap) n xs := by
  refine ⟨h.1, ?_⟩
  rcases h.2 with ⟨h2, _⟩ | ⟨g', cap', cur, e1, hB, hh, rest⟩
  · cases h2
  · cases e1
    exact .inr ⟨g, cap, cur, rfl, hB, hg.trans hh, rest⟩
theorem AtA.keep {w w' : World} {l : List (List UInt8 × List UInt8)} {v : Value} {b : List Nat} (h : AtA w l v b) (hk : ∀ k ∈ b, w'.heap[k]? = w.heap[k]?) : AtA w' l v b := by
  rcases h with h | ⟨g, cap, rfl, ho, rfl⟩
  · exact .inl h
  · exact .inr ⟨g, cap, rfl, own_same ho (hk g (by simp)), rfl⟩
mutual
theorem NdAt.keep {w w' : World} {n : Nd} {vs : List Value} {b : List Nat} : NdAt w n vs b → (∀ k ∈ b, w'.heap[k]? = w.heap[k]?) → NdAt w' n vs b
  | .el nm l ks va vk ba bk h1 h2, hk => .el nm l ks va vk ba bk (h1.keep fun k h => hk k (by simp [h])) (KsAt.keep h2 fun k h => hk k (by simp [h]))
  | .tx t, _ => .tx t
theorem KsAt.keep {w w' : World} {ks : List Nd} {v : Value} {b : List Nat} : KsAt w ks v b → (∀ k ∈ b, w'.heap[k]? = w.heap[k]?) → KsAt w' ks v b
  | .nil, _ => .nil
  | .row ks g cap vs b h1 h2, hk => .row ks g cap vs b (own_same h1 (hk g (by simp))) (RwAt.keep h2 fun k h => hk k (by simp [h]))
theorem RwAt.keep {w w' : World} {ks : List Nd} {vs : List Value} {b : List Nat} : RwAt w ks vs b → (∀ k ∈ b, w'.heap[k]? = w.heap[k]?) → RwAt w' ks vs b
  | .nil, _ => .nil
  | .cons k ks vs vss b bs h1 h2, hk => .cons k ks vs vss b bs (NdAt.keep h1 fun k h => hk k (by simp [h])) (RwAt.keep h2 fun k h => hk k (by simp [h]))
end
theorem RwAt.snoc {w : World} {ks : List Nd} {vs : List Value} {b : List Nat} {k : Nd} {us : List Value} {bk : List Nat} (h : RwAt w ks vs b) (hk : NdAt w k us bk) : RwAt w (ks ++ [k]) (vs ++ us) (b ++ bk) := by
  induction ks generalizing vs b with
  | nil =>
    cases h
    have := RwAt.cons k [] us [] bk [] hk .nil
    simpa using this
  | cons x ks ih =>
    cases h with
    | cons _ _ vs1 vs2 b1 b2 h1 h2 =>
      have := RwAt.cons x (ks ++ [k]) vs1 (vs2 ++ us) b1 (b2 ++ bk) h1 (ih h2)
      simpa [List.append_assoc] using this
theorem NdAt.five {w : World} {n : Nd} {vs : List Value} {b : List Nat} (h : NdAt w n vs b) : vs.length = 5 := by
  cases h <;> rfl
theorem RwAt.len {w : World} {ks : List Nd} {vs : List Value} {b : List Nat} (h : RwAt w ks vs b) : vs.length = 5 * ks.length := by
  induction ks generalizing vs b with
  | nil => cases h; rfl
  | cons x ks ih =>
    cases h with
    | cons _ _ vs1 vs2 b1 b2 h1 h2 => have := h1.five; have := ih h2; simp; omega
end Go.Proofs.YtgomlebemefdcaaDoor

/- The nodes that an element has, while they are gathered; lengths. No condition. -/
import Derived.Test.YtgomlebemefdcaaDoorXeMem
import Derived.Maps.AppendAt
set_option linter.unusedVariables false
namespace Go.Proofs.YtgomlebemefdcaaDoor
open Go Go.RowKit Go.Wk Go.Xt Go.Xe
set_option maxRecDepth 100000 in
theorem node_info : ∃ i, Tryd.prog.info? 27 = some i ∧ i.zero = some (.agg #[.string ⟨#[]⟩, .string ⟨#[]⟩, .string ⟨#[]⟩, .slice none 0 0, .slice none 0 0]) ∧ i.size = 5 ∧ i.bytes = 96 := ⟨_, rfl, by kernel_rfl, by kernel_rfl, by kernel_rfl⟩
/-- nodes gathered: the row and what it names -/
structure Kids (B : Nat) (w : World) (v : Value) (done : List Nd) (vs : List Value) (b : List Nat) : Prop where
  own : w.ownsRow B 27 5 v done.length vs
  row : RwAt w done vs b
  bd : ∀ k ∈ b, B ≤ k ∧ k < w.heap.size
  off : ∀ k ∈ b, v.ownBlock ≠ some k
theorem Kids.nil (B : Nat) (w : World) : Kids B w (.slice none 0 0) [] [] [] := ⟨World.ownsRow_nil _ _ _ _, .nil, by simp, by simp⟩
theorem Kids.fr {L R B : Nat} {w w' : World} {v : Value} {done : List Nd} {vs : List Value} {b : List Nat} (h : Kids B w v done vs b) (f : Fr L R w w') (hL : L < B) (hR : R < B) : Kids B w' v done vs b :=
  ⟨own_fr h.own f hL hR, RwAt.keep h.row fun k hk => f.block k (h.bd k hk).2 (by have := (h.bd k hk).1; omega) (by have := (h.bd k hk).1; omega), fun k hk => ⟨(h.bd k hk).1, Nat.lt_of_lt_of_le (h.bd k hk).2 f.size⟩, h.off⟩
theorem Kids.add {B : Nat} {w w2 : World} {o : Obj} {v v' : Value} {done : List Nd} {vs us : List Value} {b bk : List Nat} {k : Nd} (h : Kids B w v done vs b) (hk : NdAt w k us bk) (hbk : ∀ j ∈ bk, B ≤ j ∧ j < w.heap.size) (hnk : ∀ j ∈ bk, v.ownBlock ≠ some j)
    (hown : w2.ownsRow B 27 5 v' (done.length + 1) (vs ++ us)) (hg : (w.alloc o).grownBy w2 v.ownBlock) (hat : v'.ownBlock = v.ownBlock ∨ v'.ownBlock = some (w.alloc o).heap.size) : Kids B w2 v' (done ++ [k]) (vs ++ us) (b ++ bk) := by
  have keep : ∀ j, j < w.heap.size → v.ownBlock ≠ some j → w2.heap[j]? = w.heap[j]? := fun j hj hn => by
    have h1 : j < (w.alloc o).heap.size := by rw [World.size_alloc]; omega
    exact (hg.block j h1 (fun e => hn e.symm)).trans (Below.heap_alloc _ _ _ hj)
  have hsz : w.heap.size < w2.heap.size := by have := hg.size; rw [World.size_alloc] at this; omega
  refine ⟨by simpa using hown, (RwAt.keep h.row fun j hj => keep j (h.bd j hj).2 (h.off j hj)).snoc (hk.keep fun j hj => keep j (hbk j hj).2 (hnk j hj)), fun j hj => ?_, fun j hj => ?_⟩
  · rcases List.mem_append.1 hj with h1 | h1
    · have := h.bd j h1; omega
    · have := hbk j h1; omega
  · have hlt : j < w.heap.size ∧ v.ownBlock ≠ some j := by
      rcases List.mem_append.1 hj with h1 | h1
      · exact ⟨(h.bd j h1).2, h.off j h1⟩
      · exact ⟨(hbk j h1).2, hnk j h1⟩
    rcases hat with e | e
    · rw [e]; exact hlt.2
    · rw [e, World.size_alloc]; intro e2; cases e2; omega
theorem Kids.ks {B : Nat} {w : World} {v : Value} {done : List Nd} {vs : List Value} {b : List Nat} (h : Kids B w v done vs b) : ∃ bk, KsAt w done v bk ∧ ∀ k ∈ bk, B ≤ k ∧ k < w.heap.size := by
  have hl := h.row.len
  rcases h.own.2 with ⟨rfl, h0⟩ | ⟨g, cap, cur, rfl, hB, hh, rest⟩
  · have : done = [] := List.eq_nil_of_length_eq_zero h0
    subst this
    exact ⟨[], .nil, by simp⟩
  · refine ⟨g :: b, .row done g cap vs b ⟨h.own.1, .inr ⟨g, cap, cur, rfl, Nat.zero_le _, hh, rest⟩⟩ h.row, fun k hk => ?_⟩
    rcases List.mem_cons.1 hk with rfl | hk
    · exact ⟨hB, (Array.getElem?_eq_some_iff.1 hh).1⟩
    · exact h.bd k hk
theorem Kids.v_lt {B : Nat} {w : World} {v : Value} {done : List Nd} {vs : List Value} {b : List Nat} (h : Kids B w v done vs b) : ∀ k, v.ownBlock = some k → k < w.heap.size := fun k hk => (h.own.lt k hk).2
theorem five_one (a0 a1 a2 : ByteArray) (a3 a4 : Value) (h3 : a3.oneCell' = true) (h4 : a4.oneCell' = true) : ∀ u ∈ [Value.string a0, .string a1, .string a2, a3, a4], u.oneCell' = true := by
  intro u hu
  simp at hu
  rcases hu with rfl | rfl | rfl | rfl | rfl
  · rfl
  · rfl
  · rfl
  · exact h3
  · exact h4
theorem five_new (w : World) (v0 v1 v2 v3 v4 : Value) (t : TypeId) : ∀ j u, [v0, v1, v2, v3, v4][j]? = some u → (w.alloc (.cells #[v0, v1, v2, v3, v4] t)).cell? ((⟨w.heap.size, 0, none⟩ : Addr).add j) = some u := by
  intro j u hj
  rw [Lib.add_plain, alloc_cell, ← hj]
  match j with
  | 0 => rfl
  | 1 => rfl
  | 2 => rfl
  | 3 => rfl
  | 4 => rfl
  | _ + 5 => rfl
/-! ### lengths -/
theorem name_len {r nm r1 : List UInt8} (h : r.drop nm.length = r1) : r1.length ≤ r.length := by rw [← h]; simp
theorem att_len {r r' : List UInt8} {a : List UInt8 × List UInt8} : Att r a r' → r'.length ≤ r.length
  | .mk _ nm r1 v q r2 r3 h1 h2 h3 h4 h5 h6 h7 r4 _ h9 => by
    have a1 := name_len h4
    have a2 := congrArg List.length h6
    have a3 := congrArg List.length h7
    have a4 := txt_len h9
    simp at a2 a3 a4
    omega
theorem atts_len {r r' : List UInt8} {l : List (List UInt8 × List UInt8)} : Atts r l r' → r'.length ≤ r.length
  | .nil _ r2 x hx _ => by have := congrArg List.length hx; simp at this; simp; omega
theorem mark_len {r r' nm : List UInt8} {l : List (List UInt8 × List UInt8)} {cl : Bool} : Xe.Mark r nm l cl r' → r'.length < r.length
  | .open _ _ _ r1 r2 _ _ h3 _ h5 => by have a1 := name_len h3; have a2 := atts_len h5; simp at a2 ⊢; omega
  | .shut _ _ _ r1 r2 _ _ h3 _ h5 => by have a1 := name_len h3; have a2 := atts_len h5; simp at a2 ⊢; omega
theorem misc_le {r r' : List UInt8} {b : Bool} (h : Misc r b r') : r'.length ≤ r.length := by
  cases b with
  | true => exact Nat.le_of_lt (misc_len h)
  | false => cases h; exact Nat.le_refl _
mutual
theorem elem_len {d m m2 : Nat} {r r' : List UInt8} {n : Nd} : Elem d m r n m2 r' → r'.length < r.length
  | .shut d m r nm l r1 _ hM => mark_len hM
  | .open d m m2 r nm l r1 ks r2 r3 r4 _ hM hC _ h3 _ h5 => by
    have a1 := mark_len hM
    have a2 := cont_len hC
    have a3 := name_len h3
    have a4 := congrArg List.length h5
    simp at a4
    omega
theorem cont_len {d m m2 : Nat} {t r r' : List UInt8} {ks : List Nd} : Cont d m t r ks m2 r' → r'.length ≤ r.length
  | .skip d m m2 t r o r1 r2 ks r' hT hM hC => by have a1 := txt_len hT; have a2 := misc_len hM; have a3 := cont_len hC; omega
  | .done d m t r o r1 r2 hT hM h3 => by have a1 := txt_len hT; have := congrArg List.length h3; simp at this; omega
  | .elem d m m1 m2 t r o r1 r2 k ks r' hT hM h3 hE hC => by have a1 := txt_len hT; have a2 := elem_len hE; have a3 := cont_len hC; omega
end
end Go.Proofs.YtgomlebemefdcaaDoor

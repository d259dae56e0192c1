/- A map that the machine knows, as the library's laws want it. No condition. -/
import Derived.Test.YtmgpjhpeglkeeaaGreatDoorKyU
import Derived.Lib.SlKeysI
namespace Go.Proofs
open Go Go.RowKit Go.Maps Go.WideShapes Go.MapKept
open Go.WideElems (Fit rd rg)
/-- values are not looked at -/
def anyR (_ : Value) : Option (DataW Unit × List MemPlace) := some (.lit (.bool true), [])
theorem keyOf_mk {P : Program} {k : TypeId} {q : IntKind} (hk : P.underlying k = some (.int q)) {n : Int} (hw : (Lit.int q n).wf = true) : keyOf P k (.int q n) = some (.int q n) := by
  simp [keyOf, hk, mapKey, hw]
theorem fst_rg {P : Program} {k : TypeId} {q : IntKind} (hk : P.underlying k = some (.int q)) {x : MapEntry} {n : Int} (hx : x.key = .int q n) (hw : (Lit.int q n).wf = true) : rd P k anyR x = some (.int q n, .lit (.bool true)) := by
  unfold rd
  rw [hx, keyOf_mk hk hw]; rfl
theorem owns_mk {P : Program} {k : TypeId} {q : IntKind} (hk : P.underlying k = some (.int q)) {w : World} {b : Nat} {es : Array MapEntry} {ck : Nat} {ks : List Int} (h : w.heap[b]? = some (.map es ck)) (hkeys : es.toList.map (·.key) = ks.map (Value.int q)) (hb : (∀ x ∈ es.toList, x.born < ck) ∧ (es.toList.map (·.born)).Nodup) (hnd : ks.Nodup) (hl : ks.length ≤ 12) (hw : ∀ n ∈ ks, (Lit.int q n).wf = true) :
    ∃ ls : List (Lit × DataW Unit), w.ownsMap P k anyR b 12 (.map ls) ∧ (ls.map (·.1)).Perm (ks.map (Lit.int q)) := by
  have hlen : es.size = ks.length := by have := congrArg List.length hkeys; simpa using this
  have hx : ∀ x ∈ es.toList, ∃ n ∈ ks, x.key = .int q n := fun x hx => by
    have : x.key ∈ es.toList.map (·.key) := List.mem_map.2 ⟨x, hx, rfl⟩
    rw [hkeys] at this
    obtain ⟨n, h1, h2⟩ := List.mem_map.1 this
    exact ⟨n, h1, h2.symm⟩
  refine ⟨(es.toList.map (rg P k anyR)).foldr DataW.insert [], ⟨es, ck, h, ⟨by rw [hlen]; unfold maxLen; omega, ⟨hb.1, hb.2, ?_⟩, fun x hx1 => ?_⟩, by omega, rfl⟩, ?_⟩
  · rw [hkeys]
    exact List.Pairwise.map _ (fun a b hab e => hab (by injection e)) hnd
  · obtain ⟨n, h1, h2⟩ := hx x hx1
    exact ⟨_, fst_rg hk h2 (hw n h1)⟩
  · refine ((sorted_perm _).map _).trans ?_
    rw [List.map_map]
    have e : es.toList.map ((·.1) ∘ rg P k anyR) = ks.map (Lit.int q) := by
      have e1 : ∀ l : List MapEntry, (∀ x ∈ l, ∃ n ∈ ks, x.key = .int q n) → ∀ m : List Int, l.map (·.key) = m.map (Value.int q) → (∀ n ∈ m, (Lit.int q n).wf = true) → l.map ((·.1) ∘ rg P k anyR) = m.map (Lit.int q) := by
        intro l
        induction l with
        | nil => intro _ m hm _; cases m with
          | nil => rfl
          | cons _ _ => cases hm
        | cons x l ih =>
          intro hl m hm hwm
          cases m with
          | nil => cases hm
          | cons n m =>
            simp only [List.map_cons, List.cons.injEq] at hm
            have h3 := fst_rg hk hm.1 (hwm n (List.mem_cons_self ..))
            have h4 : (rg P k anyR x).1 = .int q n := by unfold rg; rw [h3]; rfl
            simp only [List.map_cons, Function.comp, h4]
            rw [← ih (fun y hy => hl y (List.mem_cons_of_mem _ hy)) m hm.2 fun n hn => hwm n (List.mem_cons_of_mem _ hn)]
      exact e1 _ hx ks hkeys hw
    rw [e]
theorem u8_perm {ls : List (Lit × DataW Unit)} {ks : List Int} (h : (ls.map (·.1)).Perm (ks.map (Lit.int .u8))) : (u8Keys (.map ls)).Perm ks := by
  have := h.map u8Of
  rw [List.map_map, List.map_map] at this
  refine List.Perm.trans (l₂ := (ls.map (u8Of ∘ (·.1)))) (by exact List.Perm.refl _) (this.trans ?_)
  have e : ks.map (u8Of ∘ Lit.int .u8) = ks := by
    exact (List.map_congr_left (g := id) fun n _ => rfl).trans (List.map_id _)
  rw [e]
theorem i64_perm {ls : List (Lit × DataW Unit)} {ks : List Int} (h : (ls.map (·.1)).Perm (ks.map (Lit.int .i64))) : (intKeys (.map ls)).Perm ks := by
  have := h.map intOf
  rw [List.map_map, List.map_map] at this
  refine List.Perm.trans (l₂ := (ls.map (intOf ∘ (·.1)))) (by exact List.Perm.refl _) (this.trans ?_)
  have e : ks.map (intOf ∘ Lit.int .i64) = ks := by
    exact (List.map_congr_left (g := id) fun n _ => rfl).trans (List.map_id _)
  rw [e]
end Go.Proofs

/- A range over a function whose function keeps its state in a block of its own. No condition. -/
import Derived.Test.YtgomlebemefdcaaDoorBlk
import Derived.RangeFuncIn
import Derived.RangeFuncSeq
import Derived.RangeFuncOwn
import Derived.RangeFuncRecord
import Derived.RangeFuncLeaves
import Derived.RangeFuncCalls
namespace Go.Wk
open Go Go.RowKit
/-- what was there is there as it was, but for one block -/
structure Save (L : Nat) (w w' : World) : Prop where
  os : w'.os = w.os
  tape : w'.tape = w.tape
  output : w'.output = w.output
  size : w.heap.size ≤ w'.heap.size
  block : ∀ k, k < w.heap.size → k ≠ L → w'.heap[k]? = w.heap[k]?
theorem Save.refl (L : Nat) (w : World) : Save L w w := ⟨rfl, rfl, rfl, Nat.le_refl _, fun _ _ _ => rfl⟩
theorem Save.trans {L : Nat} {a b c : World} (h : Save L a b) (k : Save L b c) : Save L a c :=
  ⟨k.os.trans h.os, k.tape.trans h.tape, k.output.trans h.output, Nat.le_trans h.size k.size, fun j hj hn => (k.block j (Nat.lt_of_lt_of_le hj h.size) hn).trans (h.block j hj hn)⟩
theorem Save.drawn {L : Nat} {a b : World} (h : Save L a b) (n : Nat) : Save L a (b.drewN n) := ⟨h.os, h.tape, h.output, h.size, h.block⟩
theorem Save.store {L : Nat} {a b : World} (h : Save L a b) (o : Nat) (u : Value) : Save L a (b.setCell ⟨L, o, none⟩ u) :=
  h.trans ⟨rfl, rfl, rfl, by simp [World.setCell], fun k _ hn => Below.heap_setCell _ _ _ _ hn⟩
theorem Save.of_below {L : Nat} {a b : World} (h : Below a.heap.size a b) : Save L a b := ⟨h.os, h.tape, h.output, h.size, fun k hk _ => h.block k hk⟩
theorem Save.bel {L : Nat} {a b c : World} (h : Save L a b) (k : Below b.heap.size b c) : Save L a c := h.trans (Save.of_below k)
theorem Save.below {L B : Nat} {a b : World} (h : Save L a b) (hL : B ≤ L) (hB : B ≤ a.heap.size) : Below B a b := ⟨h.os, h.tape, h.output, h.size, fun k hk => h.block k (by omega) (by omega)⟩
/-- what a round keeps: the function's own block, and the first blocks -/
structure Kept (G b : Nat) (w w' : World) : Prop where
  size : w.heap.size ≤ w'.heap.size
  own : w'.heap[b]? = w.heap[b]?
  low : ∀ k, k < G → w'.heap[k]? = w.heap[k]?
theorem Kept.refl (G b : Nat) (w : World) : Kept G b w w := ⟨Nat.le_refl _, rfl, fun _ _ => rfl⟩
theorem Kept.trans {G b : Nat} {u v w : World} (h : Kept G b u v) (k : Kept G b v w) : Kept G b u w := ⟨Nat.le_trans h.size k.size, k.own.trans h.own, fun j hj => (k.low j hj).trans (h.low j hj)⟩
theorem Kept.put {G b : Nat} (w : World) (l : Nat) (o : Obj) (hb : b ≠ l) (hG : G ≤ l) : Kept G b w (w.putObj l o) := ⟨by simp, World.putObj_heap_other hb, fun k hk => World.putObj_heap_other (by omega)⟩
theorem Kept.alloc {G b : Nat} (w : World) (o : Obj) (hb : b < w.heap.size) (hG : G ≤ w.heap.size) : Kept G b w (w.alloc o) := ⟨by simp, Below.heap_alloc _ _ _ hb, fun k hk => Below.heap_alloc _ _ _ (by omega)⟩
/-- cells lie as they lay but for those of one block; whatever lay below B too -/
structure Soft (b B : Nat) (w w' : World) : Prop where
  os : w'.os = w.os
  tape : w'.tape = w.tape
  output : w'.output = w.output
  size : w.heap.size ≤ w'.heap.size
  block : ∀ k o, w.heap[k]? = some o → k ≠ b → (k < B ∨ o.isCells = true) → w'.heap[k]? = some o
theorem Soft.of_save {b B : Nat} {w w' : World} (h : Save b w w') : Soft b B w w' := ⟨h.os, h.tape, h.output, h.size, fun k o ho hk _ => (h.block k (Array.getElem?_eq_some_iff.1 ho).1 hk).trans ho⟩
theorem Soft.put {b B : Nat} {w : World} {l : Nat} {o : Obj} (o' : Obj) (hl : w.heap[l]? = some o) (ho : o.isCells = false) (hB : B ≤ l) : Soft b B w (w.putObj l o') :=
  ⟨rfl, rfl, rfl, by simp, fun k u hu hk hc => (World.putObj_heap_other (fun e => by subst e; rw [hl] at hu; cases hu; rcases hc with h | h; · omega
                                                                                     · rw [ho] at h; cases h)).trans hu⟩
theorem Soft.alloc {b B : Nat} (w : World) (o : Obj) : Soft b B w (w.alloc o) := ⟨rfl, rfl, rfl, by simp, fun k u hu _ _ => (Below.heap_alloc _ _ _ (Array.getElem?_eq_some_iff.1 hu).1).trans hu⟩
theorem Soft.below {b B n : Nat} {u w w' : World} (h : Soft b B w w') (k : Below n u w) (hb : n ≤ b) (hB : n ≤ B) (hn : n ≤ u.heap.size) : Below n u w' :=
  ⟨h.os.trans k.os, h.tape.trans k.tape, h.output.trans k.output, Nat.le_trans k.size h.size, fun j hj => by
    have e := k.block j hj
    have hl : j < w.heap.size := by have := k.size; omega
    rw [← e, Array.getElem?_eq_getElem hl]
    exact h.block j _ (Array.getElem?_eq_getElem hl) (by omega) (.inl (by omega))⟩
theorem Soft.blk {b B g : Nat} {t : TypeId} {cs : Array Value} {w w' : World} (h : Soft b B w w') (k : Blk w g t cs) (hg : g ≠ b) : Blk w' g t cs := h.block g _ k hg (.inr rfl)
theorem Soft.byt {b B : Nat} {w w' : World} {A : Option Addr} {bs : List UInt8} (h : Soft b B w w') (k : Byt w A bs) (hn : 0 < bs.length → ∀ x, A = some x → x.block ≠ b) : Byt w' A bs := by
  refine ⟨k.1, fun h0 => ?_⟩
  obtain ⟨g, o, e, hc⟩ := k.2 h0
  refine ⟨g, o, e, fun i hi => ?_⟩
  have hci := hc i hi
  rw [← hci]
  apply World.cell?_of_block
  unfold World.cell? at hci
  split at hci
  · rename_i cs t f hh
    rw [show w.heap[(⟨g, o + i, none⟩ : Addr).block]? = w.heap[g]? from rfl] at hh
    show w'.heap[g]? = w.heap[g]?
    rw [hh]; exact h.block g _ hh (hn h0 _ e) (.inr rfl)
  · cases hci
theorem below_put {n : Nat} {u w : World} (h : Below n u w) (l : Nat) (o : Obj) (hl : n ≤ l) : Below n u (w.putObj l o) :=
  ⟨h.os, h.tape, h.output, by simpa using h.size, fun k hk => (World.putObj_heap_other (by omega)).trans (h.block k hk)⟩
theorem blk_put {w : World} {g : Nat} {t : TypeId} {cs : Array Value} (h : Blk w g t cs) (l : Nat) (o : Obj) (hl : g ≠ l) : Blk (w.putObj l o) g t cs := (World.putObj_heap_other hl).trans h
def SeqB {α : Type} (P : Program) (g : Nat) (lb : Array Value) (G b : Nat) (enc : α → Array Value) (xs : List α) (w0 : World) : Prop :=
  ∀ (l : Nat) (J Jx : List α → World → Prop) (W : World), Kept G b w0 W → (∀ pre U V, J pre U → Save b U V → J pre V) → (∀ pre U V, Jx pre U → Save b U V → Jx pre V) →
    (∀ pre x U, J pre U → pre ++ [x] <+: xs → YieldAt Fence.wide 0 P l (enc x) U fun e V => (e = .returned (.bool true) ∧ J (pre ++ [x]) V ∧ Kept G b U V) ∨ (e = .returned (.bool false) ∧ Jx (pre ++ [x]) V)) →
    J [] W → CallsIn Fence.wide 0 P g (#[.func (.yield l) #[] #[]] ++ lb) W fun e V => (∃ v, e = .returned v) ∧ (J xs V ∨ ∃ pre, pre <+: xs ∧ Jx pre V)
def endB {α : Type} (G b : Nat) (I : List α → World → Prop) (Ix : Code → List α → World → Prop) (ys : List α) (W : World) : Exit → Act → World → Prop
  | .normal, _, V => KeepsOthers W V ∧ Kept G b W V ∧ I ys V
  | .ret, _, V => KeepsOthers W V ∧ Ix .ret ys V
  | .exit id, _, V => KeepsOthers W V ∧ Ix (.exit id) ys V
  | .goto t, _, V => KeepsOthers W V ∧ Ix (.goto t) ys V
  | .panic _, _, _ => False
  | .outgrown, _, _ => False
theorem range_B {α : Type} {P : Program} {g : Operand} {ps : Array Tmp} {assign body : Code} {Q : Exit → Act → World → Prop} {a : Act} {w w0 : World} {gf : Nat} {lb : Array Value} {G b : Nat} {enc : α → Array Value} {xs : List α}
    (hg : a.eval g = .func (.func gf) #[] lb) (eg : ∀ args w, (callFunc gf args).run P w = .ok (.enter gf args) w) (hseq : SeqB P gf lb G b enc xs w0) (hk : Kept G b w0 w) (hb : b < w.heap.size) (hG : G ≤ w.heap.size) (hps : ∀ x, (enc x).size = ps.size)
    (I : List α → World → Prop) (Ix : Code → List α → World → Prop) (hI : ∀ pre U V, I pre U → Soft b w.heap.size U V → I pre V) (hIx : ∀ c pre U V, Ix c pre U → Soft b w.heap.size U V → Ix c pre V) (h0 : I [] w) (a₁ : α → Act)
    (hassign : ∀ (l : Nat) (x : α) (W : World) (K : Act → World → Prop), K (a₁ x) W → assign.wpIn (Fence.wide.inRound l) 0 P (Exit.then K (fun _ _ _ => False)) { tmps := (ps.zip (enc x)).foldl (fun t (p, v) => t.setIfInBounds p v) a.tmps, defers := [] } W)
    (hbody : ∀ (l : Nat) (pre : List α) (x : α) (W : World), I pre W → pre ++ [x] <+: xs → body.wpIn (Fence.wide.inRound l) 0 P (endB G b I Ix (pre ++ [x]) W) (a₁ x) W)
    (hdone : ∀ (W : World), I xs W → W.heap[w.heap.size]? = some (.deferred (some [])) → Q .normal { a with defers := { target := .collected w.heap.size, args := #[] } :: a.defers } W)
    (hstop : ∀ (c : Code) (pre : List α) (W : World), pre <+: xs → Ix c pre W → W.heap[w.heap.size]? = some (.deferred (some [])) → c.wpIn Fence.wide 0 P Q { a with defers := { target := .collected w.heap.size, args := #[] } :: a.defers } W) :
    (Code.rangeFunc g ps assign body).wpIn Fence.wide 0 P Q a w := by
  obtain ⟨D, hD⟩ : ∃ D, D = w.heap.size := ⟨_, rfl⟩
  refine wpIn_rangeFunc ?_
  intro fn hfn
  obtain ⟨rec, hrec⟩ : ∃ rec : LoopState → Option Code → Loop, rec = fun st pe => { state := st, pending := pe, fn, tmps := a.tmps, params := ps, assign, body, defers := w.heap.size } := ⟨_, rfl⟩
  obtain ⟨W1, hW1⟩ : ∃ W1, (w.alloc (.deferred (some []))).alloc (.loop (rec .ready none)) = W1 := ⟨_, rfl⟩
  have hz1 : (w.alloc (.deferred (some []))).heap.size = D + 1 := by rw [World.size_alloc, hD]
  have hL1 : W1.heap[D + 1]? = some (.loop (rec .ready none)) := by
    rw [← hW1, ← hz1]; exact World.alloc_heap_new (w.alloc (.deferred (some []))) (.loop (rec .ready none))
  have hK1 : W1.heap[D]? = some (.deferred (some [])) := by
    rw [← hW1, hD]; exact (Below.heap_alloc _ _ _ (by simp)).trans (World.alloc_heap_new w _)
  have hI1 : I [] W1 := by rw [← hW1]; exact hI _ _ _ (hI _ _ _ h0 (Soft.alloc _ _)) (Soft.alloc _ _)
  have hk1 : Kept G b w0 W1 := by rw [← hW1]; exact (hk.trans (Kept.alloc _ _ hb hG)).trans (Kept.alloc _ _ (by simp; omega) (by simp; omega))
  refine ⟨D + 1, [{ target := .collected w.heap.size, args := #[] }], W1, { target := .fn (.func gf) lb, args := #[.func (.yield (D + 1)) #[] #[]] }, W1, gf, #[.func (.yield (D + 1)) #[] #[]] ++ lb, W1, ?_, ?_, fun _ _ => trivial, ?_, (fun h => by cases h), ?_⟩
  · rw [← hW1, hrec, hD]; exact run_enterLoop_outer _ _ _ _ _
  · simp only [resolve, hg]
    simp [go_sem]
  · simp [invoke, go_sem, eg]
  · have lateS : ∀ {U V : World} {k : Nat} {o : Obj}, k ≠ b → U.heap[k]? = some o → Save b U V → V.heap[k]? = some o := fun hkb h s => (s.block _ (Array.getElem?_eq_some_iff.1 h).1 hkb).trans h
    have hDb : D ≠ b := by omega
    have hDb1 : D + 1 ≠ b := by omega
    refine (hseq (D + 1) (fun pre W => I pre W ∧ W.heap[D + 1]? = some (.loop (rec .ready none)) ∧ W.heap[D]? = some (.deferred (some [])))
      (fun pre W => ∃ c, Ix c pre W ∧ W.heap[D + 1]? = some (.loop (rec .done (some c))) ∧ W.heap[D]? = some (.deferred (some []))) W1 hk1
      (fun pre U V h s => ⟨hI _ _ _ h.1 (Soft.of_save s), lateS hDb1 h.2.1 s, lateS hDb h.2.2 s⟩)
      (fun pre U V h s => by
        obtain ⟨c, h1, h2, h3⟩ := h
        exact ⟨c, hIx _ _ _ _ h1 (Soft.of_save s), lateS hDb1 h2 s, lateS hDb h3 s⟩) ?_ ⟨hI1, hL1, hK1⟩).mono ?_
    · rintro pre x W ⟨hi, hl, hkd⟩ hpre
      have hlt : D + 1 < W.heap.size := (Array.getElem?_eq_some_iff.1 hl).1
      have hy := run_yield (P := P) (args := enc x) hl (by rw [hrec]; exact hps x)
      rw [hrec] at hy
      refine ⟨fn, _, assign, body, hy, roundIn_of_wpIn hfn (hassign _ x W _ ⟨_, run_beginRound hl (by rw [hrec]), ?_⟩)⟩
      obtain ⟨W2, hW2⟩ : ∃ W2, W.putObj (D + 1) (.loop { rec .ready none with state := .busy }) = W2 := ⟨_, rfl⟩
      rw [hW2]
      have hl2 : W2.heap[D + 1]? = some (.loop { rec .ready none with state := .busy }) := by rw [← hW2]; exact World.putObj_heap_same hlt
      have hk2 : W2.heap[D]? = some (.deferred (some [])) := by rw [← hW2]; exact (World.putObj_heap_other (by omega)).trans hkd
      have hp2 : Kept G b W W2 := by rw [← hW2]; exact Kept.put _ _ _ (by omega) (by omega)
      have hi2 : I pre W2 := by rw [← hW2]; exact hI _ _ _ hi (Soft.put _ hl rfl (by omega))
      refine wpIn_mono (hbody _ pre x _ hi2 hpre) ?_
      have fin : ∀ (jump : Option Code) (W3 : World), KeepsOthers W2 W3 → ∃ W4, W4 = W3.putObj (D + 1) (.loop (rec (if jump.isNone then .ready else .done) jump)) ∧
          (Instr.endRound (D + 1) jump).run P W3 = .ok (.bool jump.isNone) W4 ∧ W4.heap[D + 1]? = some (.loop (rec (if jump.isNone then .ready else .done) jump)) ∧ W4.heap[D]? = some (.deferred (some [])) ∧ Soft b w.heap.size W3 W4 ∧ Kept G b W3 W4 := fun jump W3 hk3 => by
        have hl3 := hk3.same _ _ hl2 rfl
        have := run_endRound (P := P) jump hl3
        rw [hrec] at this ⊢
        exact ⟨_, rfl, this, World.putObj_heap_same (Array.getElem?_eq_some_iff.1 hl3).1, (World.putObj_heap_other (by omega)).trans (hk3.same _ _ hk2 rfl), Soft.put _ hl3 rfl (by omega), Kept.put _ _ _ (by omega) (by omega)⟩
      rintro e a3 W3 hp
      cases e with
      | normal =>
        obtain ⟨hk3, hkp3, hi3⟩ := hp
        obtain ⟨W4, _, hr, hl4, hk4, s4, p4⟩ := fin none W3 hk3
        exact ⟨_, _, hr, .inl ⟨rfl, ⟨hI _ _ _ hi3 s4, hl4, hk4⟩, (hp2.trans hkp3).trans p4⟩⟩
      | ret =>
        obtain ⟨hk3, hi3⟩ := hp
        obtain ⟨W4, _, hr, hl4, hk4, s4, p4⟩ := fin (some .ret) W3 hk3
        exact ⟨_, _, hr, .inr ⟨rfl, .ret, hIx _ _ _ _ hi3 s4, hl4, hk4⟩⟩
      | exit id =>
        obtain ⟨hk3, hi3⟩ := hp
        obtain ⟨W4, _, hr, hl4, hk4, s4, p4⟩ := fin (some (.exit id)) W3 hk3
        exact ⟨_, _, hr, .inr ⟨rfl, .exit id, hIx _ _ _ _ hi3 s4, hl4, hk4⟩⟩
      | goto t =>
        obtain ⟨hk3, hi3⟩ := hp
        obtain ⟨W4, _, hr, hl4, hk4, s4, p4⟩ := fin (some (.goto t)) W3 hk3
        exact ⟨_, _, hr, .inr ⟨rfl, .goto t, hIx _ _ _ _ hi3 s4, hl4, hk4⟩⟩
      | panic ch => exact hp.elim
      | outgrown => exact hp.elim
    · rintro e W2 ⟨⟨v, rfl⟩, (⟨hi, hl, hkd⟩ | ⟨pre, hpre, c, hi, hl, hkd⟩)⟩
      · have := run_endLoop (P := P) hl (by rw [hrec]; simp)
        rw [hrec] at this
        refine ⟨none, _, this, ?_⟩
        refine hdone _ (hI _ _ _ hi (Soft.put _ hl rfl (by omega))) ?_
        rw [← hD]; exact (World.putObj_heap_other (by omega)).trans hkd
      · have := run_endLoop (P := P) hl (by rw [hrec]; simp)
        rw [hrec] at this
        refine ⟨some c, _, this, ?_⟩
        refine hstop c pre _ hpre (hIx _ _ _ _ hi (Soft.put _ hl rfl (by omega))) ?_
        rw [← hD]; exact (World.putObj_heap_other (by omega)).trans hkd
end Go.Wk

/- Walks and laws, joined: part A. No condition. -/
import Derived.Test.YtgomlebemefdcaaDoorAmD
import Derived.ChangeSlices
import Derived.WalkKit
import Derived.OwnWalk
import Derived.Below
import Derived.Laws.OwnMore
import Derived.Deep.Draws
import Derived.Laws.Rows
import Derived.Test.YtgomlebemefdcaaDoorRows
import Derived.ProofKit
import Derived.Lib.Hide
import Derived.IntWalk
import Derived.Lib.Walk
import Derived.Lib.ItoaMem
import Derived.Lib.ItoaLen
import Derived.BigCall
import Derived.BigGuard
import Derived.Deep.QuietTactic
import Derived.BigQuiet
import Derived.Laws.IdiomStrings
import Derived.Maps.AppendAt
import Derived.Laws.AppendOwnNone
import Derived.Shelf.Bytes.SlClone
import Derived.Test.YtgomlebemefdcaaDoorProg
import Derived.Deep.RegionHeld3
import Derived.Deep.DrawnRows
import Derived.Lib.MapLaws
import Derived.RangeFuncIn
import Derived.RangeFuncSeq
import Derived.RangeFuncOwn
import Derived.RangeFuncRecord
import Derived.RangeFuncLeaves
import Derived.RangeFuncCalls
import Derived.Shelf.Unicode.DecodeAny
import Derived.RangeFuncNested
import Derived.RangeFuncBound
import Derived.Shelf.Abstract
import Derived.Shelf.RegionOpen
import Derived.OwnWalkIn
import Derived.TacticsInMore
import Derived.LoopNIn
import Derived.LoopIn
import Derived.Shelf.Unicode.Decode
import Derived.Shelf.Unicode.DecodeSlow
import Derived.Shelf.Strings.Builder1
import Derived.Shelf.Strings.Builder2
import Derived.Laws.BytesArg
set_option linter.unusedSimpArgs false
set_option linter.unusedVariables false
/-! Words for memory, of whatever program: bytes, rows of bytes -/
namespace Go.Wk
open Go Go.RowKit Go.ChangeShapes
theorem cell_lt {w : World} {a : Addr} {v : Value} (h : w.cell? a = some v) : a.block < w.heap.size := by
  rcases Nat.lt_or_ge a.block w.heap.size with h' | h'
  · exact h'
  · unfold World.cell? at h; rw [Array.getElem?_eq_none h'] at h; cases h
theorem add_none (b o j : Nat) : (⟨b, o, none⟩ : Addr).add j = ⟨b, o + j, none⟩ := by unfold Addr.add; split <;> simp_all
/-- bytes that lie at an address, if there are any -/
def Byt (w : World) (A : Option Addr) (bs : List UInt8) : Prop :=
  bs.length ≤ maxLen ∧ (0 < bs.length → ∃ b o, A = some ⟨b, o, none⟩ ∧ ∀ i (h : i < bs.length), w.cell? ⟨b, o + i, none⟩ = some (.int .u8 (bs[i].toNat : Int)))
theorem u8_lt (b : UInt8) : (b.toNat : Int) < 256 := by have := b.toNat_lt; omega
theorem Byt.nil {w : World} {A : Option Addr} : Byt w A [] := ⟨Nat.zero_le _, fun h => by simp at h⟩
theorem Byt.below {w w' : World} {A : Option Addr} {bs : List UInt8} (h : Byt w A bs) (hb : Below w.heap.size w w') : Byt w' A bs := by
  refine ⟨h.1, fun h0 => ?_⟩
  obtain ⟨b, o, e, hc⟩ := h.2 h0
  refine ⟨b, o, e, fun i hi => ?_⟩
  rw [hb.cell (p := ⟨b, o + i, none⟩) (cell_lt (hc i hi))]
  exact hc i hi
/-- a row of bytes, as rows hold them: where each lies, its room, its bytes -/
abbrev Part := Option Addr × Nat × List UInt8
def Parts (w : World) (A : Option Addr) (ps : List Part) : Prop :=
  ps.length ≤ maxLen ∧ (0 < ps.length → ∃ b o, A = some ⟨b, o, none⟩ ∧ ∀ i (h : i < ps.length), w.cell? ⟨b, o + i, none⟩ = some (.slice ps[i].1 ps[i].2.2.length ps[i].2.1)) ∧ ∀ p ∈ ps, Byt w p.1 p.2.2 ∧ (p.1 = none → p.2.1 = 0)
theorem Parts.below {w w' : World} {A : Option Addr} {ps : List Part} (h : Parts w A ps) (hb : Below w.heap.size w w') : Parts w' A ps := by
  refine ⟨h.1, fun h0 => ?_, fun p hp => ⟨(h.2.2 p hp).1.below hb, (h.2.2 p hp).2⟩⟩
  obtain ⟨b, o, e, hc⟩ := h.2.1 h0
  refine ⟨b, o, e, fun i hi => ?_⟩
  rw [hb.cell (p := ⟨b, o + i, none⟩) (cell_lt (hc i hi))]
  exact hc i hi
def valsB (bs : List UInt8) : List Value := bs.map fun b => .int .u8 (b.toNat : Int)
theorem valsB_len (bs : List UInt8) : (valsB bs).length = bs.length := by simp [valsB]
theorem valsB_one (bs : List UInt8) : ∀ u ∈ valsB bs, u.oneCell' = true := by
  intro u hu
  obtain ⟨b, _, rfl⟩ := List.mem_map.1 hu
  rfl
theorem valsB_app (a b : List UInt8) : valsB (a ++ b) = valsB a ++ valsB b := by simp [valsB]
theorem Byt.news {w : World} {a : Addr} {bs : List UInt8} (h : Byt w (some a) bs) : ∀ j u, (valsB bs)[j]? = some u → w.cell? (a.add j) = some u := by
  intro j u hu
  have hj : j < bs.length := by have := (List.getElem?_eq_some_iff.1 hu).1; rwa [valsB_len] at this
  obtain ⟨b, o, e, hc⟩ := h.2 (by omega)
  cases e
  rw [add_none, hc j hj, ← hu]
  simp [valsB, hj]
/-- an own row reads as bytes -/
theorem own_byt {w : World} {B e : Nat} {v : Value} {bs : List UInt8} (h : w.ownsRow B e 1 v bs.length (valsB bs)) : ∃ A c, v = .slice A bs.length c ∧ (bs.length ≤ maxLen → Byt w A bs) := by
  rcases h.2 with ⟨rfl, h0⟩ | ⟨g, cap, cur, rfl, _, hh, hnc, hcm, hsz, htk⟩
  · exact ⟨none, 0, by rw [h0], fun hm => ⟨hm, fun h1 => by omega⟩⟩
  · refine ⟨_, _, rfl, fun hm => ⟨hm, fun h1 => ⟨g, 0, rfl, fun i hi => ?_⟩⟩⟩
    have hv : (valsB bs)[i]? = some (.int .u8 (bs[i].toNat : Int)) := by simp [valsB, hi]
    rw [← htk, List.getElem?_take_of_lt (by omega), Array.getElem?_toList] at hv
    rw [Nat.zero_add]
    unfold World.cell?
    rw [hh]
    simpa using hv

/-! ### What is read -/
section
variable {H : Type} {enc : TypeId × Value → H} {P : Program} {w : World} {base : Nat} {sp : Nat → Bool} {held : Bool}
theorem wf_u8 {n : Int} (h : (Lit.int .u8 n).wf = true) : ∃ b : UInt8, n = (b.toNat : Int) := by
  have : 0 ≤ n ∧ n ≤ 255 := by simpa [Lit.wf, IntKind.min, IntKind.max, IntKind.signed, IntKind.bits] using h
  refine ⟨UInt8.ofNat n.toNat, ?_⟩
  have h2 : n.toNat < 256 := by omega
  rw [UInt8.toNat_ofNat_of_lt' h2]; omega
theorem open_byt {t e fuel : Nat} {cs : List Value} {x : DataW H × List MemPlace} (ht : P.underlying t = some (.slice e)) (he : P.underlying e = some (.int .u8)) (hc : P.cellsOf e = 1) (h : DataW.trod enc P w base sp held fuel t cs = some x) :
    ∃ A c bs, cs = [.slice A (bs : List UInt8).length c] ∧ Byt w A bs ∧ (A = none → c = 0) ∧ (bs : List UInt8).length ≤ c := by
  rcases open_ints ht he hc h with ⟨rfl, _⟩ | ⟨a, len, cap, zs, rfl, _, hlc, hcm, hz, _, hcell, hwf⟩
  · exact ⟨none, 0, [], rfl, Byt.nil, fun _ => rfl, Nat.le_refl _⟩
  · have hlz : len ≤ zs.length := by rw [hz]; split <;> omega
    have hbs : ∃ bs : List UInt8, bs.length = len ∧ ∀ i (h : i < bs.length), zs.getD i 0 = (bs[i].toNat : Int) := by
      refine ⟨(zs.take len).map fun n => UInt8.ofNat n.toNat, by simp; omega, fun i hi => ?_⟩
      have hil : i < len := by simp at hi; omega
      have hiz : i < zs.length := by omega
      obtain ⟨b, hb⟩ := wf_u8 (hwf zs[i] (List.getElem_mem hiz))
      rw [List.getElem_map, List.getElem_take, List.getD_eq_getElem?_getD, List.getElem?_eq_getElem hiz, Option.getD_some, hb]
      simp
    obtain ⟨bs, rfl, hb⟩ := hbs
    refine ⟨some a, cap, bs, rfl, ⟨by omega, fun h0 => ?_⟩, (fun h => by cases h), hlc⟩
    obtain ⟨b, o, spot⟩ := a
    have h1 := hcell 0 (by omega)
    have hspot : spot = none := by simpa [Addr.add] using World.cell?_spot h1
    subst hspot
    refine ⟨b, o, rfl, fun i hi => ?_⟩
    have := hcell i (by omega)
    rw [add_none, hb i hi] at this
    exact this
theorem list_of {α : Type} {n : Nat} {P : Nat → α → Prop} (h : ∀ i, i < n → ∃ x, P i x) : ∃ l : List α, l.length = n ∧ ∀ i (hi : i < l.length), P i l[i] := by
  induction n with
  | zero => exact ⟨[], rfl, fun i hi => by simp at hi⟩
  | succ n ih =>
    obtain ⟨l, h1, h2⟩ := ih fun i hi => h i (by omega)
    obtain ⟨x, hx⟩ := h n (by omega)
    refine ⟨l ++ [x], by simp [h1], fun i hi => ?_⟩
    by_cases hil : i < l.length
    · rw [List.getElem_append_left hil]; exact h2 i hil
    · have : i = l.length := by simp at hi; omega
      subst this
      simp; rw [h1]; exact hx
theorem open_parts {t e u fuel : Nat} {cs : List Value} {x : DataW H × List MemPlace} (ht : P.underlying t = some (.slice e)) (he : P.underlying e = some (.slice u)) (hu : P.underlying u = some (.int .u8)) (hce : P.cellsOf e = 1) (hcu : P.cellsOf u = 1)
    (h : DataW.trod enc P w base sp held fuel t cs = some x) : ∃ A c ps, cs = [.slice A (ps : List Part).length c] ∧ Parts w A ps := by
  rcases DataW.trod_slice ht h with ⟨rfl, _⟩ | ⟨a, len, cap, elems, rest, n, _, rfl, rfl, hb, hl, hm, hlen, hel, _⟩
  · exact ⟨none, 0, [], rfl, Nat.zero_le _, fun h => by simp at h, fun p hp => by simp at hp⟩
  · have each : ∀ i, i < len → ∃ p : Part, w.cell? (a.add i) = some (.slice p.1 p.2.2.length p.2.1) ∧ Byt w p.1 p.2.2 ∧ (p.1 = none → p.2.1 = 0) := by
      intro i hi
      have h1 := hel i hi
      rw [List.getElem?_eq_getElem (by omega), hce, Nat.mul_one] at h1
      cases hcs : w.cells? base (a.add i) 1 with
      | none => rw [hcs] at h1; cases h1
      | some cs =>
        rw [hcs] at h1
        obtain ⟨_, h2, h3⟩ := World.cells?_some hcs
        have h4 := h3 0 (by omega)
        obtain ⟨A, c, bs, rfl, h5, h6, _⟩ := open_byt he hu hcu (show DataW.trod enc P w base sp held n e cs = some _ from h1)
        refine ⟨(A, c, bs), ?_, h5, h6⟩
        have h7 : (a.add i).add 0 = a.add i := by simp [Addr.add]
        rw [h7] at h4
        simpa using h4
    obtain ⟨ps, hps, hp⟩ := list_of each
    subst hps
    refine ⟨some a, cap, ps, rfl, by omega, fun h0 => ?_, fun p hp' => ?_⟩
    · obtain ⟨b, o, spot⟩ := a
      have h1 := (hp 0 h0).1
      have hspot : spot = none := by simpa [Addr.add] using World.cell?_spot h1
      subst hspot
      refine ⟨b, o, rfl, fun i hi => ?_⟩
      have := (hp i hi).1
      rw [add_none] at this; exact this
    · obtain ⟨i, hi, rfl⟩ := List.getElem_of_mem hp'
      exact (hp i hi).2
end
end Go.Wk

/- Words for memory: a block that is known whole. No condition. -/
namespace Go.Wk
open Go Go.RowKit
def Blk (w : World) (g : Nat) (t : TypeId) (cs : Array Value) : Prop := w.heap[g]? = some (.cells cs t (0, 0))
section
variable {w w' : World} {g : Nat} {t : TypeId} {cs : Array Value}
theorem Blk.lt (h : Blk w g t cs) : g < w.heap.size := by
  rcases Nat.lt_or_ge g w.heap.size with hlt | hge
  · exact hlt
  · unfold Blk at h; rw [Array.getElem?_eq_none hge] at h; cases h
theorem Blk.cell (h : Blk w g t cs) (i : Nat) : w.cell? ⟨g, i, none⟩ = cs[i]? := cell_of_row w g i cs t (0, 0) h
theorem Blk.frozen (h : Blk w g t cs) (i : Nat) : w.frozen? ⟨g, i, none⟩ = false := by
  unfold Blk at h
  simp [World.frozen?, h]
theorem Blk.new (w : World) (t : TypeId) (cs : Array Value) : Blk (w.alloc (.cells cs t)) w.heap.size t cs := heap_alloc_new w _
theorem Blk.drew (h : Blk w g t cs) : Blk w.drew g t cs := h
theorem Blk.drewN (h : Blk w g t cs) (n : Nat) : Blk (w.drewN n) g t cs := h
theorem Blk.alloc (h : Blk w g t cs) (o : Obj) : Blk (w.alloc o) g t cs := (Below.heap_alloc w o g h.lt).trans h
theorem Blk.set_ (h : Blk w g t cs) (i : Nat) (u : Value) : Blk (w.setCell ⟨g, i, none⟩ u) g t (cs.setIfInBounds i u) := by
  unfold Blk at h ⊢
  simp [World.setCell, Array.getElem?_modify, h]
theorem Blk.far (h : Blk w g t cs) {p : Addr} (hp : g ≠ p.block) (u : Value) : Blk (w.setCell p u) g t cs := (Below.heap_setCell w p u g hp).trans h
theorem Blk.below {B : Nat} (h : Blk w g t cs) (hb : Below B w w') (hg : g < B) : Blk w' g t cs := (hb.block g hg).trans h
theorem Blk.grown {row : Option Nat} (h : Blk w g t cs) (hb : w.grownBy w' row) (hg : some g ≠ row) : Blk w' g t cs := (hb.block g h.lt hg).trans h
theorem Blk.ne_ {g' : Nat} {t' : TypeId} {cs' : Array Value} (h : Blk w g t cs) (h' : Blk w g' t' cs') (hne : t ≠ t') : g ≠ g' := by
  rintro rfl
  unfold Blk at h h'
  rw [h] at h'
  injection h' with h'
  injection h' with _ ht
  exact hne ht
end
end Go.Wk

/- Words of this seat: numbers, texts, worlds. No condition. -/
namespace Go.Proofs.YtgomlebemefdcaaDoor
open Go Go.RowKit Go.Wk Go.Sort Go.Lib
def i64 (n : Int) : Prop := -9223372036854775808 ≤ n ∧ n ≤ 9223372036854775807
theorem hidE (a : Int) : ∃ A : Int, Hid (A = a) := ⟨a, Lib.hid rfl⟩
theorem bthen {a b c : World} (h : Below a.heap.size a b) (k : Below b.heap.size b c) : Below a.heap.size a c := h.trans (k.mono h.size)
theorem alloc_cell {w : World} {vs : Array Value} {e i : Nat} : (w.alloc (.cells vs e)).cell? ⟨w.heap.size, 0 + i, none⟩ = vs[i]? := by
  have h : (w.alloc (.cells vs e)).heap[w.heap.size]? = some (.cells vs e) := by
    show (w.heap.push _)[w.heap.size]? = _
    simp
  unfold World.cell?
  rw [h, Nat.zero_add]
  rfl
theorem size_alloc (w : World) (o : Obj) : (w.alloc o).heap.size = w.heap.size + 1 := by show (w.heap.push _).size = _; simp
theorem below_drawn (w : World) (n : Nat) : Below w.heap.size w (w.drewN n) := ⟨rfl, rfl, rfl, Nat.le_refl _, fun _ _ => rfl⟩
def str (l : List UInt8) : Value := .string ⟨l.toArray⟩
theorem bytes_ext {a b : ByteArray} (h : a.data.toList = b.data.toList) : a = b := by
  cases a; cases b; simp at h; rw [h]
theorem bytes_app (a b : ByteArray) : (a ++ b).data.toList = a.data.toList ++ b.data.toList := by simp
theorem bytes_cut (a : ByteArray) (i j : Nat) : (a.extract i j).data.toList = (a.data.toList.take j).drop i := by
  simp [ByteArray.data_extract, Array.toList_extract, List.extract]
  rw [List.drop_take]
theorem str_ne {a b : ByteArray} (h : ¬ a.data.toList = b.data.toList) : (a.toList == b.toList) = false := by
  rw [ByteArray.toList_eq, ByteArray.toList_eq]; simpa using h
end Go.Proofs.YtgomlebemefdcaaDoor

/- Contracts of the cursor. No condition. -/
namespace Go.Proofs.YtgomlebemefdcaaDoor
open Go Go.RowKit Go.Wk
/-- what was there is there as it was, but for one block -/
structure Save (L : Nat) (w w' : World) : Prop where
  os : w'.os = w.os
  tape : w'.tape = w.tape
  output : w'.output = w.output
  size : w.heap.size ≤ w'.heap.size
  block : ∀ k, k < w.heap.size → k ≠ L → w'.heap[k]? = w.heap[k]?
theorem Save.refl (L : Nat) (w : World) : Save L w w := ⟨rfl, rfl, rfl, Nat.le_refl _, fun _ _ _ => rfl⟩
theorem Save.trans {L : Nat} {a b c : World} (h : Save L a b) (k : Save L b c) : Save L a c :=
  ⟨k.os.trans h.os, k.tape.trans h.tape, k.output.trans h.output, Nat.le_trans h.size k.size, fun j hj hn => (k.block j (Nat.lt_of_lt_of_le hj h.size) hn).trans (h.block j hj hn)⟩
theorem Save.drawn {L : Nat} {a b : World} (h : Save L a b) (n : Nat) : Save L a (b.drewN n) := ⟨h.os, h.tape, h.output, h.size, h.block⟩
theorem Save.store {L : Nat} {a b : World} (h : Save L a b) (o : Nat) (u : Value) : Save L a (b.setCell ⟨L, o, none⟩ u) :=
  h.trans ⟨rfl, rfl, rfl, by simp [World.setCell], fun k _ hn => Below.heap_setCell _ _ _ _ hn⟩
theorem Save.cell {L : Nat} {a b : World} (h : Save L a b) {p : Addr} (hn : p.block ≠ L) (hp : p.block < a.heap.size) : b.cell? p = a.cell? p := World.cell?_of_block (w := a) (h.block p.block hp hn)
theorem Save.of_below {L : Nat} {a b : World} (h : Below a.heap.size a b) : Save L a b := ⟨h.os, h.tape, h.output, h.size, fun k hk _ => h.block k hk⟩
theorem Save.below {L B : Nat} {a b : World} (h : Save L a b) (hL : B ≤ L) (hB : B ≤ a.heap.size) : Below B a b := ⟨h.os, h.tape, h.output, h.size, fun k hk => h.block k (by omega) (by omega)⟩
theorem Save.byt {L : Nat} {a b : World} {A : Option Addr} {bs : List UInt8} (h : Save L a b) (hn : 0 < bs.length → ∀ x, A = some x → x.block ≠ L) (hb : Byt a A bs) : Byt b A bs := by
  refine ⟨hb.1, fun h0 => ?_⟩
  obtain ⟨g, o, e, hc⟩ := hb.2 h0
  refine ⟨g, o, e, fun i hi => ?_⟩
  rw [h.cell (p := ⟨g, o + i, none⟩) (show g ≠ L from hn h0 _ e) (cell_lt (hc i hi))]
  exact hc i hi
structure Cur (w0 w : World) (L : Nat) (A : Option Addr) (c : Nat) (bs : List UInt8) (at' : Nat) : Prop where
  ne : 0 < bs.length → ∀ x, A = some x → x.block ≠ L
  bel : Save L w0 w
  cb : w.cell? ⟨L, 0, none⟩ = some (.slice A bs.length c)
  ca : w.cell? ⟨L, 1, none⟩ = some (.int .i64 (at' : Nat))
  fr : w.frozen? ⟨L, 1, none⟩ = false
  byt : Byt w0 A bs
  le : at' ≤ bs.length
  small : bs.length ≤ 100000
theorem Cur.drawn {w0 w : World} {L : Nat} {A : Option Addr} {c : Nat} {bs : List UInt8} {p : Nat} (h : Cur w0 w L A c bs p) (n : Nat) : Cur w0 (w.drewN n) L A c bs p :=
  ⟨h.ne, h.bel.drawn n, h.cb, h.ca, h.fr, h.byt, h.le, h.small⟩
theorem Cur.go {w0 w : World} {L : Nat} {A : Option Addr} {c : Nat} {bs : List UInt8} {p : Nat} (h : Cur w0 w L A c bs p) (q : Nat) (hq : q ≤ bs.length) : Cur w0 (w.setCell ⟨L, 1, none⟩ (.int .i64 (q : Nat))) L A c bs q := by
  refine ⟨h.ne, h.bel.store _ _, ?_, World.cell?_setCell_same _ _ _ h.ca, ?_, h.byt, hq, h.small⟩
  · rw [World.cell?_setCell_other _ _ _ _ (by intro e; cases e)]; exact h.cb
  · simp [h.fr]
/-- the base is where it stands -/
theorem Cur.here {w0 w : World} {L : Nat} {A : Option Addr} {c : Nat} {bs : List UInt8} {p : Nat} (h : Cur w0 w L A c bs p) : Cur w w L A c bs p :=
  ⟨h.ne, Save.refl _ _, h.cb, h.ca, h.fr, h.bel.byt h.ne h.byt, h.le, h.small⟩
/-- the byte at the place; -1: none -/
def peekS (bs : List UInt8) (p : Nat) : Int := match bs[p]? with | some b => (b.toNat : Int) | none => -1
set_option maxHeartbeats 1000000 in
set_option maxRecDepth 100000 in
theorem cur_peek {w0 w : World} {L : Nat} {A : Option Addr} {c : Nat} {bs : List UInt8} {p : Nat} (h : Cur w0 w L A c bs p) :
    Calls Tryd.prog 58 #[.pointer (some ⟨L, 0, none⟩), .int .i64 0] w fun e w' => e = .returned (.int .i64 (peekS bs p)) ∧ Cur w0 w' L A c bs p := by
  have H := Lib.hid h
  obtain ⟨h1, h2, h3, h4, h5, h6, h7, h8⟩ := h
  have hS := Lib.hid (show peekS bs p = match bs[p]? with | some b => (b.toNat : Int) | none => -1 from rfl)
  generalize peekS bs p = S at *
  by_cases hlt : p < bs.length
  · obtain ⟨b, o, rfl, hc⟩ := h6.2 (by omega)
    have hck := (h2.cell (p := ⟨b, o + p, none⟩) (show b ≠ L from h1 (by omega) ⟨b, o, none⟩ rfl) (cell_lt (hc p hlt))).trans (hc p hlt)
    have hS2 := Lib.hid (show S = (bs[p].toNat : Int) by rw [hS.out, List.getElem?_eq_getElem hlt])
    generalize bs[p] = x at *
    clear hc h6 h2 h1
    go_enter Tryd.func58, Tryd.ntmps58
    go_wp2
    · go_quiet (fail)
      go_wp2
      go_ret
      have hxw : wrap64 (x.toNat : Int) = (x.toNat : Int) := by have := u8_lt x; unfold wrap64; omega
      exact ⟨by rw [hS2.out]; exact congrArg (fun z => Ending.returned (.int .i64 z)) hxw, H.out.drawn _⟩
  · have hS2 := Lib.hid (show S = -1 by rw [hS.out, List.getElem?_eq_none (by omega)])
    clear h6 h2 h1
    go_enter Tryd.func58, Tryd.ntmps58
    go_wp2
    go_ret
    exact ⟨by rw [hS2.out]; rfl, H.out⟩
theorem peekS_in {bs : List UInt8} {p : Nat} (h : p < bs.length) : 0 ≤ peekS bs p ∧ peekS bs p ≤ 255 ∧ peekS bs p = (bs[p].toNat : Int) := by
  have e : peekS bs p = (bs[p].toNat : Int) := by unfold peekS; rw [List.getElem?_eq_getElem h]
  have := u8_lt bs[p]
  rw [e]; omega
theorem peekS_out {bs : List UInt8} {p : Nat} (h : ¬ p < bs.length) : peekS bs p = -1 := by unfold peekS; rw [List.getElem?_eq_none (by omega)]
set_option maxHeartbeats 1000000 in
set_option maxRecDepth 100000 in
theorem cur_next {w0 w : World} {L : Nat} {A : Option Addr} {c : Nat} {bs : List UInt8} {p : Nat} (h : Cur w0 w L A c bs p) :
    Calls Tryd.prog 59 #[.pointer (some ⟨L, 0, none⟩)] w fun e w' => e = .returned (.int .i64 (peekS bs p)) ∧ Cur w0 w' L A c bs (if p < bs.length then p + 1 else p) := by
  have hk := cur_peek h
  by_cases hlt : p < bs.length
  · have hs := peekS_in hlt
    rw [if_pos hlt]
    have hs0 := hs.1
    generalize peekS bs p = S at *
    have hsm := h.small
    clear h hs
    go_enter Tryd.func59, Tryd.ntmps59
    go_wp2_with (go_at_call 58; (with_reducible refine hk.mono ?_); rintro e w1 ⟨rfl, h1⟩; have hca := h1.ca; have hfr := h1.fr; replace h1 := Lib.hid h1)
    go_ret
    have h2 := h1.out.go (p + 1) hlt
    rw [show ((p + 1 : Nat) : Int) = (p : Int) + 1 by omega] at h2
    exact ⟨rfl, h2⟩
  · have hs := peekS_out hlt
    rw [if_neg hlt]
    rw [hs] at hk ⊢
    clear h
    go_enter Tryd.func59, Tryd.ntmps59
    go_wp2_with (go_at_call 58; (with_reducible refine hk.mono ?_); rintro e w1 ⟨rfl, h1⟩; replace h1 := Lib.hid h1)
    go_ret
    exact ⟨rfl, h1.out⟩
set_option maxHeartbeats 400000 in
theorem cur_left {w0 w : World} {L : Nat} {A : Option Addr} {c : Nat} {bs : List UInt8} {p : Nat} (h : Cur w0 w L A c bs p) :
    Calls Tryd.prog 37 #[.pointer (some ⟨L, 0, none⟩)] w fun e w' => e = .returned (.int .i64 ((bs.length : Int) - p)) ∧ w' = w := by
  obtain ⟨h1, h2, h3, h4, h5, h6, h7, h8⟩ := h
  clear h6 h2 h1
  go_enter Tryd.func37, Tryd.ntmps37
  go_wp2
  go_ret
  exact ⟨rfl, rfl⟩
set_option maxRecDepth 100000 in
theorem conv_at (W : World) (b o cap : Nat) (x : UInt8) (h : W.cell? ⟨b, o, none⟩ = some (.int .u8 (x.toNat : Int))) : (convert 22 9 (.slice (some ⟨b, o, none⟩) 1 cap)).run Tryd.prog W = .ok (.string ⟨#[x]⟩) W := by
  have h := run_convert_bytes_back (P := Tryd.prog) W 22 9 5 ⟨b, o, none⟩ cap [x] Tryd.underlying22 Tryd.underlying5 Tryd.underlying9 (fun j hj => by
    have : j = 0 := by simpa using hj
    subst this
    rw [Lib.add_plain]; exact h)
  exact h
set_option maxHeartbeats 1000000 in
set_option maxRecDepth 100000 in
theorem cur_match_yes {w0 w : World} {L : Nat} {A : Option Addr} {c : Nat} {bs : List UInt8} {p : Nat} {ch : UInt8} (h : Cur w0 w L A c bs p) (hcap : bs.length ≤ c) (hp : bs[p]? = some ch) :
    Calls Tryd.prog 54 #[.pointer (some ⟨L, 0, none⟩), .string ⟨#[ch]⟩] w fun e w' => e = .returned (.bool true) ∧ Cur w0 w' L A c bs (p + 1) := by
  have H := Lib.hid h
  obtain ⟨h1, h2, h3, h4, h5, h6, h7, h8⟩ := h
  obtain ⟨hlt, hpe⟩ := List.getElem?_eq_some_iff.1 hp
  obtain ⟨b, o, rfl, hc⟩ := h6.2 (by omega)
  have hck := (h2.cell (p := ⟨b, o + p, none⟩) (show b ≠ L from h1 (by omega) ⟨b, o, none⟩ rfl) (cell_lt (hc p hlt))).trans (hc p hlt)
  rw [hpe] at hck
  have hcv := fun n => conv_at (w.drewN n) b (o + p) (c - p) ch hck
  clear hc h6 h2 h1 hp hpe
  have hg : decide ((bs.length : Int) - (p : Int) < 1) = false := by simp; omega
  go_enter Tryd.func54, Tryd.ntmps54
  go_wp2
  go_quiet ((go_at_call 37; refine Calls.quiet_of_same (cur_left (H.out.drawn _))))
  go_wp2
  go_ret
  have h9 := (H.out.drawn nq).go (p + 1) hlt
  rw [show ((p + 1 : Nat) : Int) = (p : Int) + 1 by omega] at h9
  exact ⟨rfl, h9⟩
set_option maxHeartbeats 1000000 in
set_option maxRecDepth 100000 in
theorem cur_match_no {w0 w : World} {L : Nat} {A : Option Addr} {c : Nat} {bs : List UInt8} {p : Nat} {ch : UInt8} (h : Cur w0 w L A c bs p) (hcap : bs.length ≤ c) (hp : bs[p]? ≠ some ch) :
    Calls Tryd.prog 54 #[.pointer (some ⟨L, 0, none⟩), .string ⟨#[ch]⟩] w fun e w' => e = .returned (.bool false) ∧ Cur w0 w' L A c bs p := by
  have H := Lib.hid h
  obtain ⟨h1, h2, h3, h4, h5, h6, h7, h8⟩ := h
  by_cases hlt : p < bs.length
  · obtain ⟨b, o, rfl, hc⟩ := h6.2 (by omega)
    have hck := (h2.cell (p := ⟨b, o + p, none⟩) (show b ≠ L from h1 (by omega) ⟨b, o, none⟩ rfl) (cell_lt (hc p hlt))).trans (hc p hlt)
    have hcv := fun n => conv_at (w.drewN n) b (o + p) (c - p) bs[p] hck
    have hne : (bs[p] == ch) = false := by
      rw [beq_eq_false_iff_ne]; intro e; exact hp (by rw [List.getElem?_eq_getElem hlt, e])
    generalize bs[p] = x at *
    clear hc h6 h2 h1 hp
    have hg : decide ((bs.length : Int) - (p : Int) < 1) = false := by simp; omega
    go_enter Tryd.func54, Tryd.ntmps54
    go_wp2
    go_quiet ((go_at_call 37; refine Calls.quiet_of_same (cur_left (H.out.drawn _))))
    go_wp2
    go_ret
    exact ⟨rfl, H.out.drawn _⟩
  · clear h6 h2 h1 hp
    have hg : decide ((bs.length : Int) - (p : Int) < 1) = true := by simp; omega
    go_enter Tryd.func54, Tryd.ntmps54
    go_wp2
    go_quiet ((go_at_call 37; refine Calls.quiet_of_same (cur_left (H.out.drawn _))))
    go_wp2
    go_ret
    exact ⟨rfl, H.out.drawn _⟩
end Go.Proofs.YtgomlebemefdcaaDoor

/- Match of the cursor, whatever text. No condition. -/
namespace Go.Proofs.YtgomlebemefdcaaDoor
open Go Go.RowKit Go.Wk
def stands (bs : List UInt8) (p : Nat) (s : List UInt8) : Bool := decide (p + s.length ≤ bs.length) && ((bs.drop p).take s.length == s)
set_option maxRecDepth 100000 in
theorem conv_many (W : World) (b o n cap : Nat) (l : List UInt8) (hl : l.length = n) (h : ∀ i (hi : i < l.length), W.cell? ⟨b, o + i, none⟩ = some (.int .u8 (l[i].toNat : Int))) : (convert 22 9 (.slice (some ⟨b, o, none⟩) n cap)).run Tryd.prog W = .ok (.string ⟨l.toArray⟩) W := by
  subst hl
  exact run_convert_bytes_back W 22 9 5 ⟨b, o, none⟩ cap l Tryd.underlying22 Tryd.underlying5 Tryd.underlying9 (fun j hj => by rw [Lib.add_plain]; exact h j hj)
set_option maxHeartbeats 1000000 in
set_option maxRecDepth 100000 in
theorem cur_match {w0 w : World} {L : Nat} {A : Option Addr} {c : Nat} {bs : List UInt8} {p : Nat} (s : ByteArray) (h : Cur w0 w L A c bs p) (hcap : bs.length ≤ c) (hs : 1 ≤ s.size) (hs2 : s.size ≤ 100000) :
    Calls Tryd.prog 54 #[.pointer (some ⟨L, 0, none⟩), .string s] w fun e w' => e = .returned (.bool (stands bs p s.data.toList)) ∧ Cur w0 w' L A c bs (if stands bs p s.data.toList then p + s.size else p) := by
  have H := Lib.hid h
  have hsl : s.data.toList.length = s.size := Array.length_toList
  obtain ⟨h1, h2, h3, h4, h5, h6, h7, h8⟩ := h
  by_cases hle : p + s.size ≤ bs.length
  · obtain ⟨b, o, rfl, hc⟩ := h6.2 (by omega)
    have hcv := fun n => conv_many (w.drewN n) b (o + p) s.size (c - p) ((bs.drop p).take s.size) (by simp; omega) (fun i hi => by
      have hi2 : i < s.size := by simp at hi; omega
      have := (h2.cell (p := ⟨b, o + (p + i), none⟩) (show b ≠ L from h1 (by omega) ⟨b, o, none⟩ rfl) (cell_lt (hc (p + i) (by omega)))).trans (hc (p + i) (by omega))
      rw [Nat.add_assoc, List.getElem_take, List.getElem_drop]
      exact this)
    have hpc : ¬ c = p := by omega
    have hg : decide ((bs.length : Int) - (p : Int) < (s.size : Int)) = false := by simp; omega
    by_cases heq : (bs.drop p).take s.size = s.data.toList
    · have hst : stands bs p s.data.toList = true := by simp [stands, hsl, hle, heq]
      rw [hst]
      have hX : ({ data := (List.take s.size (List.drop p bs)).toArray } : ByteArray) = s := by apply bytes_ext; simpa using heq
      rw [hX] at hcv
      clear hc h6 h2 h1 heq hX hst hsl
      go_enter Tryd.func54, Tryd.ntmps54
      go_wp2
      go_quiet ((go_at_call 37; refine Calls.quiet_of_same (cur_left (H.out.drawn _))))
      go_wp2
      go_ret
      have h9 := (H.out.drawn nq).go (p + s.size) hle
      rw [show ((p + s.size : Nat) : Int) = (p : Int) + (s.size : Int) by omega] at h9
      exact ⟨rfl, h9⟩
    · have hst : stands bs p s.data.toList = false := by
        unfold stands
        rw [hsl]
        simp [heq]
      rw [hst]
      generalize hX : ({ data := (List.take s.size (List.drop p bs)).toArray } : ByteArray) = X at hcv
      have hXl : X.data.toList = (bs.drop p).take s.size := by rw [← hX]
      have hne := str_ne (a := X) (b := s) (by rw [hXl]; exact heq)
      clear hXl
      clear hc h6 h2 h1 heq hX hst hsl
      go_enter Tryd.func54, Tryd.ntmps54
      go_wp2
      go_quiet ((go_at_call 37; refine Calls.quiet_of_same (cur_left (H.out.drawn _))))
      go_wp2
      go_ret
      exact ⟨rfl, H.out.drawn _⟩
  · have hst : stands bs p s.data.toList = false := by
      unfold stands
      rw [hsl]
      simp [hle]
    rw [hst]
    have hg : decide ((bs.length : Int) - (p : Int) < (s.size : Int)) = true := by
      rw [decide_eq_true_eq]; omega
    clear h6 h2 h1 hst hsl
    go_enter Tryd.func54, Tryd.ntmps54
    go_wp2
    go_quiet ((go_at_call 37; refine Calls.quiet_of_same (cur_left (H.out.drawn _))))
    go_wp2
    go_ret
    exact ⟨rfl, H.out.drawn _⟩
end Go.Proofs.YtgomlebemefdcaaDoor

/- Contracts of the library's functions on bytes, at this program's numbers. No condition. -/
namespace Go.Proofs
open Go.Shelf
def Tryd.laysSlK4_ren : Go.Shelf.Ren := ⟨fun | 4 => 38 | n => n, fun | 22 => 22 | 4 => 4 | 5 => 5 | n => n, fun | n => n⟩
theorem Tryd.laysSlK4 : Go.Proofs.SlLaysK.n4 Tryd.prog Tryd.laysSlK4_ren := {
  mixed := by kernel_rfl
  f4 := Tryd.func38.trans (congrArg some (by kernel_rfl))
  t4 := Tryd.underlying4
  a4 := Tryd.isAgg4
  z4 := Tryd.sizeOf4
  v4 := Tryd.zeroValue4
  t22 := Tryd.underlying22
  a22 := Tryd.isAgg22
  z22 := Tryd.sizeOf22
  v22 := Tryd.zeroValue22
  t5 := Tryd.underlying5
  i5 := by kernel_rfl }
open Go.RowKit Go.Lib in
theorem Tryd.bytes_Clone_at (a : Addr) (n c : Nat) (xs : List Int) (w : World) (hx : xs.length = n) (hbig : n ≤ 140737488355328) (hc : ∀ i, i < n → w.cell? (a.add i) = some (.int .u8 (xs.getD i 0))) :
    Calls Tryd.prog 38 #[.slice (some a) n c] w fun e w' => ∃ v', e = .returned v' ∧ w'.ownsRow w.heap.size 5 1 v' n (xs.map (Value.int .u8)) ∧ v' ≠ .slice none 0 0 ∧ Below w.heap.size w w' := Any.bytes_Clone_at Tryd.laysSlK4 a n c xs w hx hbig hc
open Go.RowKit Go.Lib in
theorem Tryd.bytes_Clone_nil (n c : Nat) (w : World) :
    Calls Tryd.prog 38 #[.slice none n c] w fun e w' => e = .returned (.slice none 0 0) ∧ w' = w := Any.bytes_Clone_nil Tryd.laysSlK4 n c w
end Go.Proofs

/- Take of the cursor. No condition. -/
namespace Go.Proofs.YtgomlebemefdcaaDoor
open Go Go.RowKit Go.Wk
attribute [local go_sem ↓] Go.wp_at_zero Go.wp_at_succ
theorem Cur.below {w0 w w1 : World} {L : Nat} {A : Option Addr} {c : Nat} {bs : List UInt8} {p : Nat} (h : Cur w0 w L A c bs p) (hb : Below w.heap.size w w1) : Cur w0 w1 L A c bs p := by
  have hl := cell_lt h.cb
  exact ⟨h.ne, h.bel.trans (Save.of_below hb), (hb.cell hl).trans h.cb, (hb.cell (p := ⟨L, 1, none⟩) hl).trans h.ca, (hb.frozen (p := ⟨L, 1, none⟩) hl).trans h.fr, h.byt, h.le, h.small⟩
/-- what Take answers -/
def takeS (bs : List UInt8) (p n : Nat) : List UInt8 := if p + n ≤ bs.length then (bs.drop p).take n else []
def takeB (bs : List UInt8) (p n : Nat) : Bool := decide (p + n ≤ bs.length)
def TakeR (w0 w : World) (L : Nat) (A : Option Addr) (c : Nat) (bs : List UInt8) (p n : Nat) (e : Ending) (w' : World) : Prop :=
  ∃ A' c', e = .returned (.tuple #[.slice A' (takeS bs p n).length c', .bool (takeB bs p n)]) ∧ Byt w' A' (takeS bs p n) ∧ Cur w0 w' L A c bs (if takeB bs p n then p + n else p)
theorem own_byt2 {w : World} {B e : Nat} {v : Value} {bs : List UInt8} (h : w.ownsRow B e 1 v bs.length (valsB bs)) (h0 : v ≠ .slice none 0 0) (hm : bs.length ≤ maxLen) :
    ∃ g c, B ≤ g ∧ v = .slice (some ⟨g, 0, none⟩) bs.length c ∧ Byt w (some ⟨g, 0, none⟩) bs := by
  obtain ⟨A, c, hv, hb⟩ := own_byt h
  rcases h.2 with ⟨rfl, _⟩ | ⟨g, cap, cur, rfl, hB, _⟩
  · exact absurd rfl h0
  · injection hv with h1 h2 h3
    subst h1
    exact ⟨g, cap, hB, rfl, hb hm⟩
theorem Byt.store {w : World} {g o : Nat} {bs : List UInt8} (h : Byt w (some ⟨g, o, none⟩) bs) {p : Addr} (hp : g ≠ p.block) (u : Value) : Byt (w.setCell p u) (some ⟨g, o, none⟩) bs := by
  refine ⟨h.1, fun h0 => ?_⟩
  obtain ⟨b, o', e, hc⟩ := h.2 h0
  cases e
  refine ⟨g, o, rfl, fun i hi => ?_⟩
  rw [World.cell?_setCell_other _ _ _ _ (by intro e; apply hp; rw [e])]
  exact hc i hi
theorem valsB_map (l : List UInt8) : (l.map fun x => (x.toNat : Int)).map (Value.int .u8) = valsB l := by simp [valsB]
set_option maxHeartbeats 1000000 in
set_option maxRecDepth 100000 in
theorem cur_take {w0 w : World} {L : Nat} {A : Option Addr} {c : Nat} {bs : List UInt8} {p : Nat} (n : Nat) (h : Cur w0 w L A c bs p) (hcap : bs.length ≤ c) (hn : 1 ≤ n) (hn2 : n ≤ 100000) :
    Calls Tryd.prog 26 #[.pointer (some ⟨L, 0, none⟩), .int .i64 n] w (TakeR w0 w L A c bs p n) := by
  have H := Lib.hid h
  obtain ⟨h1, h2, h3, h4, h5, h6, h7, h8⟩ := h
  by_cases hle : p + n ≤ bs.length
  · obtain ⟨b, o, rfl, hc⟩ := h6.2 (by omega)
    have hpc : ¬ c = p := by omega
    have cl := Tryd.bytes_Clone_at ⟨b, o + p, none⟩ n (c - p) (((bs.drop p).take n).map fun x => (x.toNat : Int)) w.drew (by simp; omega) (by omega) (fun i hi => by
      have := (h2.cell (p := ⟨b, o + (p + i), none⟩) (show b ≠ L from h1 (by omega) ⟨b, o, none⟩ rfl) (cell_lt (hc (p + i) (by omega)))).trans (hc (p + i) (by omega))
      rw [Wk.add_none, Nat.add_assoc]
      show w.cell? _ = _
      rw [this]
      simp [List.getD, hi, show p + i < bs.length by omega])
    have hts := Lib.hid (show takeS bs p n = (bs.drop p).take n by simp [takeS, hle])
    have htb := Lib.hid (show takeB bs p n = true by simp [takeB, hle])
    have hl : ((bs.drop p).take n).length = n := by simp; omega
    generalize hT : (bs.drop p).take n = T at *
    replace hT := Lib.hid hT
    replace cl := Lib.hid cl
    have kp := Lib.hid fun (w1 : World) (hb : Below w.heap.size w w1) => (⟨(H.out.below hb).cb, (H.out.below hb).ca⟩ : w1.cell? ⟨L, 0, none⟩ = some (.slice (some ⟨b, o, none⟩) bs.length c) ∧ w1.cell? ⟨L, 1, none⟩ = some (.int .i64 (p : Nat)))
    have hp0 : (0 : Int) ≤ (p : Int) := by omega
    have hpn : (p : Int) + (n : Int) ≤ (bs.length : Int) := by omega
    have hbc : (bs.length : Int) ≤ (c : Int) := by omega
    have hw : IntKind.i64.wrap ((p : Int) + (n : Int)) = (p : Int) + (n : Int) := IntWalk.i64_in _ (by omega)
    clear hc h6 h2 h1
    go_enter Tryd.func26, Tryd.ntmps26
    go_wp2_with (go_at_call 37; (with_reducible refine (cur_left H.out).mono ?_); rintro e w1 ⟨rfl, rfl⟩)
    go_region_held (fun w' => w'.cell? ⟨L, 0, none⟩ = some (.slice (some ⟨b, o, none⟩) bs.length c) ∧ w'.cell? ⟨L, 1, none⟩ = some (.int .i64 (p : Nat)))
      (first | go_keep | exact kp.out _ ((Below.refl _ _).drew.trans hw2))
      ((go_at_call 38; (with_reducible refine cl.out.mono ?_); rintro e w2 ⟨v, rfl, hown, hne, hw2⟩))
    have hb2 : Below w1.heap.size w1 w2 := (Below.refl w1.heap.size w1).drew.trans hw2
    have hC2 := Lib.hid (H.out.below hb2)
    have k5 := hC2.out.fr
    obtain ⟨k3, k4⟩ := kp.out _ hb2
    rw [valsB_map] at hown
    have hlm : T.length ≤ maxLen := by unfold maxLen; omega
    subst hl
    obtain ⟨g, c', hg, rfl, hby⟩ := own_byt2 hown hne hlm
    have hgL : g ≠ L := by
      have hlt : L < w1.heap.size := cell_lt H.out.cb
      have hg : w1.heap.size ≤ g := hg
      intro e; omega
    replace hby := Lib.hid (Byt.store hby (p := ⟨L, 1, none⟩) hgL (.int .i64 ((p : Int) + (T.length : Int))))
    clear hown hne hw2 hw
    have hw : IntKind.i64.wrap ((p : Int) + (T.length : Int)) = (p : Int) + (T.length : Int) := IntWalk.i64_in _ (by omega)
    go_wp2
    go_ret2
    refine ⟨some ⟨g, 0, none⟩, c', ?_, ?_, ?_⟩
    · rw [hts.out, htb.out]; rfl
    · rw [hts.out]; exact hby.out
    · rw [htb.out, if_pos rfl]
      have h9 := hC2.out.go (p + T.length) hle
      rw [show ((p + T.length : Nat) : Int) = (p : Int) + (T.length : Int) by omega] at h9
      exact h9
  · have hts := Lib.hid (show takeS bs p n = [] by simp [takeS, hle])
    have htb := Lib.hid (show takeB bs p n = false by simp [takeB, hle])
    have hg : decide ((bs.length : Int) - (p : Int) < (n : Int)) = true := by rw [decide_eq_true_eq]; omega
    clear h6 h2 h1
    go_enter Tryd.func26, Tryd.ntmps26
    go_wp2_with (go_at_call 37; (with_reducible refine (cur_left H.out).mono ?_); rintro e w1 ⟨rfl, rfl⟩)
    go_ret2
    refine ⟨none, 0, ?_, ?_, ?_⟩
    · rw [hts.out, htb.out]; rfl
    · rw [hts.out]; exact Byt.nil
    · rw [htb.out]; exact H.out
end Go.Proofs.YtgomlebemefdcaaDoor

/- Texts in two bytes a sign, and in one: the plain law. No condition. -/
namespace Go.Xt
open Go
def signB (x : Int) : Bool := decide (x = 9) || decide (x = 10) || decide (x = 13) || (decide (32 ≤ x) && decide (x ≠ 65534) && decide (x ≠ 65535))
def validB (x : Int) : Bool := (decide (0 ≤ x) && decide (x < 55296)) || (decide (57343 < x) && decide (x ≤ 1114111))
def encU (x : Nat) : List UInt8 := (Utf8.encode (x : Int)).data.toList
def two (a b : UInt8) : Nat := a.toNat * 256 + b.toNat
def pairS (half c : Nat) : Nat := 65536 + (half - 55296) * 1024 + c - 56320
theorem pairS_int (half c : Nat) (h : 55296 ≤ half) (hc : 56320 ≤ c) : ((pairS half c : Nat) : Int) = 65536 + ((half : Int) - 55296) * 1024 + (c : Int) - 56320 := by unfold pairS; omega
theorem pairS_bd (half c : Nat) (h : 55296 ≤ half) (h2 : half < 56320) (hc : 56320 ≤ c) (hc2 : c ≤ 57343) : 65536 ≤ pairS half c ∧ pairS half c ≤ 1114111 := by unfold pairS; omega
/-- what stands in two bytes each, half a sign being kept; none: it is no text -/
def wS : Nat → List UInt8 → Option (List UInt8)
  | half, a :: b :: r =>
    if half ≠ 0 then (if two a b < 56320 ∨ 57343 < two a b then none else if signB ((pairS half (two a b) : Nat) : Int) then (wS 0 r).map (encU (pairS half (two a b)) ++ ·) else none)
    else if 55296 ≤ two a b ∧ two a b < 56320 then wS (two a b) r
    else if 56320 ≤ two a b ∧ two a b ≤ 57343 then none
    else if signB ((two a b : Nat) : Int) then (wS 0 r).map (encU (two a b) ++ ·) else none
  | half, [] => if half = 0 then some [] else none
  | _, [_] => none
def okB (c : UInt8) : Bool := decide (32 ≤ c.toNat ∧ c.toNat ≤ 126) || c == 9 || c == 10 || c == 13 || decide (161 ≤ c.toNat)
def lS : List UInt8 → Option (List UInt8)
  | [] => some []
  | c :: r => if okB c then (lS r).map (encU c.toNat ++ ·) else none
def plainS (bs : List UInt8) : Option (List UInt8) := match bs with
  | 254 :: 255 :: r => wS 0 r
  | _ => lS bs
theorem map_app (o : Option (List UInt8)) (a b : List UInt8) : (o.map (b ++ ·)).map (a ++ ·) = o.map ((a ++ b) ++ ·) := by
  cases o with
  | none => rfl
  | some x => simp
theorem two_lt (a b : UInt8) : two a b < 65536 := by have := a.toNat_lt; have := b.toNat_lt; unfold two; omega
set_option maxRecDepth 100000 in
theorem enc_cases (x : Nat) (h : validB (x : Int) = true) : (x < 128 ∧ encU x = [UInt8.ofNat x]) ∨ (128 ≤ x ∧ x < 2048 ∧ encU x = [UInt8.ofNat (192 + x / 64), UInt8.ofNat (128 + x % 64)]) ∨
    (2048 ≤ x ∧ x < 65536 ∧ (x < 55296 ∨ 57344 ≤ x) ∧ encU x = [UInt8.ofNat (224 + x / 4096), UInt8.ofNat (128 + x / 64 % 64), UInt8.ofNat (128 + x % 64)]) ∨
    (65536 ≤ x ∧ x ≤ 1114111 ∧ encU x = [UInt8.ofNat (240 + x / 262144), UInt8.ofNat (128 + x / 4096 % 64), UInt8.ofNat (128 + x / 64 % 64), UInt8.ofNat (128 + x % 64)]) := by
  have hv : Utf8.valid (x : Int) = true := by
    unfold validB at h; unfold Utf8.valid
    simp only [Bool.or_eq_true, Bool.and_eq_true, decide_eq_true_eq] at h ⊢
    omega
  have hb : (x < 55296 ∨ 57344 ≤ x) ∧ x ≤ 1114111 := by
    unfold validB at h
    simp only [Bool.or_eq_true, Bool.and_eq_true, decide_eq_true_eq] at h
    omega
  unfold encU Utf8.encode
  simp only [hv, if_true, Int.toNat_natCast]
  by_cases h1 : x < 128
  · left; exact ⟨h1, by rw [if_pos h1]⟩
  · by_cases h2 : x < 2048
    · right; left; exact ⟨by omega, h2, by rw [if_neg h1, if_pos h2]⟩
    · by_cases h3 : x < 65536
      · right; right; left; exact ⟨by omega, h3, hb.1, by rw [if_neg h1, if_neg h2, if_pos h3]⟩
      · right; right; right; exact ⟨by omega, hb.2, by rw [if_neg h1, if_neg h2, if_neg h3]⟩
theorem un (n : Nat) (h : n < 256) : (UInt8.ofNat n).toNat = n := UInt8.toNat_ofNat_of_lt' (by show n < 256; exact h)
theorem dec1 (x : Nat) (h1 : x < 128) : Lib.decodeN 1 x 0 0 0 = (x, 1) := by
  unfold Lib.decodeN
  rw [if_pos h1]
theorem dec2 (x : Nat) (h1 : 128 ≤ x) (h2 : x < 2048) (b2 b3 : Nat) : Lib.decodeN 2 (192 + x / 64) (128 + x % 64) b2 b3 = (x, 2) := by
  unfold Lib.decodeN
  rw [if_neg (by omega), if_pos ⟨by omega, by omega, by omega⟩, if_pos (by omega)]
  congr 1; omega
theorem dec3 (x : Nat) (h1 : 2048 ≤ x) (h2 : x < 65536) (h3 : x < 55296 ∨ 57344 ≤ x) (b3 : Nat) : Lib.decodeN 3 (224 + x / 4096) (128 + x / 64 % 64) (128 + x % 64) b3 = (x, 3) := by
  unfold Lib.decodeN
  rw [if_neg (by omega), if_neg (by omega), if_pos ⟨by omega, ⟨by omega, by omega⟩, by omega, by omega⟩, if_pos (by omega)]
  congr 1; omega
theorem dec4 (x : Nat) (h1 : 65536 ≤ x) (h2 : x ≤ 1114111) : Lib.decodeN 4 (240 + x / 262144) (128 + x / 4096 % 64) (128 + x / 64 % 64) (128 + x % 64) = (x, 4) := by
  unfold Lib.decodeN
  rw [if_neg (by omega), if_neg (by omega), if_neg (by omega), if_pos ⟨by omega, ⟨by omega, by omega⟩, ⟨by omega, by omega⟩, by omega, by omega⟩, if_pos (by omega)]
  congr 1; omega
theorem lst1 (a : Nat) (h : a < 256) : Lib.decodeL [UInt8.ofNat a] = Lib.decodeN 1 a 0 0 0 := by
  rw [Lib.decodeL_N]; show Lib.decodeN 1 (UInt8.ofNat a).toNat 0 0 0 = _; rw [un a h]
theorem lst2 (a b : Nat) (h : a < 256) (h2 : b < 256) : Lib.decodeL [UInt8.ofNat a, UInt8.ofNat b] = Lib.decodeN 2 a b 0 0 := by
  rw [Lib.decodeL_N]; show Lib.decodeN 2 (UInt8.ofNat a).toNat (UInt8.ofNat b).toNat 0 0 = _; rw [un a h, un b h2]
theorem lst3 (a b c : Nat) (h : a < 256) (h2 : b < 256) (h3 : c < 256) : Lib.decodeL [UInt8.ofNat a, UInt8.ofNat b, UInt8.ofNat c] = Lib.decodeN 3 a b c 0 := by
  rw [Lib.decodeL_N]; show Lib.decodeN 3 (UInt8.ofNat a).toNat (UInt8.ofNat b).toNat (UInt8.ofNat c).toNat 0 = _; rw [un a h, un b h2, un c h3]
theorem lst4 (a b c d : Nat) (h : a < 256) (h2 : b < 256) (h3 : c < 256) (h4 : d < 256) : Lib.decodeL [UInt8.ofNat a, UInt8.ofNat b, UInt8.ofNat c, UInt8.ofNat d] = Lib.decodeN 4 a b c d := by
  rw [Lib.decodeL_N]; show Lib.decodeN 4 (UInt8.ofNat a).toNat (UInt8.ofNat b).toNat (UInt8.ofNat c).toNat (UInt8.ofNat d).toNat = _; rw [un a h, un b h2, un c h3, un d h4]
/-- a sign's bytes are read as the sign -/
theorem dec_enc (x : Nat) (h : validB (x : Int) = true) : Lib.decodeL (encU x) = (x, (encU x).length) := by
  rcases enc_cases x h with ⟨h1, e⟩ | ⟨h1, h2, e⟩ | ⟨h1, h2, h3, e⟩ | ⟨h1, h2, e⟩
  · rw [e]; exact (lst1 x (by omega)).trans (dec1 x h1)
  · rw [e]; exact (lst2 _ _ (by omega) (by omega)).trans (dec2 x h1 h2 0 0)
  · rw [e]; exact (lst3 _ _ _ (by omega) (by omega) (by omega)).trans (dec3 x h1 h2 h3 0)
  · rw [e]; exact (lst4 _ _ _ _ (by omega) (by omega) (by omega) (by omega)).trans (dec4 x h1 h2)
theorem enc_pos (x : Nat) (h : validB (x : Int) = true) : 0 < (encU x).length := by
  rcases enc_cases x h with ⟨h1, e⟩ | ⟨h1, h2, e⟩ | ⟨h1, h2, h3, e⟩ | ⟨h1, h2, e⟩
  all_goals (rw [e]; exact Nat.succ_pos _)
theorem enc_le (x : Nat) (h : validB (x : Int) = true) : (encU x).length ≤ 4 := by
  rcases enc_cases x h with ⟨h1, e⟩ | ⟨h1, h2, e⟩ | ⟨h1, h2, h3, e⟩ | ⟨h1, h2, e⟩
  all_goals (rw [e]; simp)
end Go.Xt

/- A range over a function whose function keeps its state in a block of its own. No condition. -/
namespace Go.Wk
open Go Go.RowKit
/-- what was there is there as it was, but for one block -/
structure Save (L : Nat) (w w' : World) : Prop where
  os : w'.os = w.os
  tape : w'.tape = w.tape
  output : w'.output = w.output
  size : w.heap.size ≤ w'.heap.size
  block : ∀ k, k < w.heap.size → k ≠ L → w'.heap[k]? = w.heap[k]?
theorem Save.refl (L : Nat) (w : World) : Save L w w := ⟨rfl, rfl, rfl, Nat.le_refl _, fun _ _ _ => rfl⟩
theorem Save.trans {L : Nat} {a b c : World} (h : Save L a b) (k : Save L b c) : Save L a c :=
  ⟨k.os.trans h.os, k.tape.trans h.tape, k.output.trans h.output, Nat.le_trans h.size k.size, fun j hj hn => (k.block j (Nat.lt_of_lt_of_le hj h.size) hn).trans (h.block j hj hn)⟩
theorem Save.drawn {L : Nat} {a b : World} (h : Save L a b) (n : Nat) : Save L a (b.drewN n) := ⟨h.os, h.tape, h.output, h.size, h.block⟩
theorem Save.store {L : Nat} {a b : World} (h : Save L a b) (o : Nat) (u : Value) : Save L a (b.setCell ⟨L, o, none⟩ u) :=
  h.trans ⟨rfl, rfl, rfl, by simp [World.setCell], fun k _ hn => Below.heap_setCell _ _ _ _ hn⟩
theorem Save.of_below {L : Nat} {a b : World} (h : Below a.heap.size a b) : Save L a b := ⟨h.os, h.tape, h.output, h.size, fun k hk _ => h.block k hk⟩
theorem Save.bel {L : Nat} {a b c : World} (h : Save L a b) (k : Below b.heap.size b c) : Save L a c := h.trans (Save.of_below k)
theorem Save.below {L B : Nat} {a b : World} (h : Save L a b) (hL : B ≤ L) (hB : B ≤ a.heap.size) : Below B a b := ⟨h.os, h.tape, h.output, h.size, fun k hk => h.block k (by omega) (by omega)⟩
/-- what a round keeps: the function's own block, and the first blocks -/
structure Kept (G b : Nat) (w w' : World) : Prop where
  size : w.heap.size ≤ w'.heap.size
  own : w'.heap[b]? = w.heap[b]?
  low : ∀ k, k < G → w'.heap[k]? = w.heap[k]?
theorem Kept.refl (G b : Nat) (w : World) : Kept G b w w := ⟨Nat.le_refl _, rfl, fun _ _ => rfl⟩
theorem Kept.trans {G b : Nat} {u v w : World} (h : Kept G b u v) (k : Kept G b v w) : Kept G b u w := ⟨Nat.le_trans h.size k.size, k.own.trans h.own, fun j hj => (k.low j hj).trans (h.low j hj)⟩
theorem Kept.put {G b : Nat} (w : World) (l : Nat) (o : Obj) (hb : b ≠ l) (hG : G ≤ l) : Kept G b w (w.putObj l o) := ⟨by simp, World.putObj_heap_other hb, fun k hk => World.putObj_heap_other (by omega)⟩
theorem Kept.alloc {G b : Nat} (w : World) (o : Obj) (hb : b < w.heap.size) (hG : G ≤ w.heap.size) : Kept G b w (w.alloc o) := ⟨by simp, Below.heap_alloc _ _ _ hb, fun k hk => Below.heap_alloc _ _ _ (by omega)⟩
/-- cells lie as they lay but for those of one block; whatever lay below B too -/
structure Soft (b B : Nat) (w w' : World) : Prop where
  os : w'.os = w.os
  tape : w'.tape = w.tape
  output : w'.output = w.output
  size : w.heap.size ≤ w'.heap.size
  block : ∀ k o, w.heap[k]? = some o → k ≠ b → (k < B ∨ o.isCells = true) → w'.heap[k]? = some o
theorem Soft.of_save {b B : Nat} {w w' : World} (h : Save b w w') : Soft b B w w' := ⟨h.os, h.tape, h.output, h.size, fun k o ho hk _ => (h.block k (Array.getElem?_eq_some_iff.1 ho).1 hk).trans ho⟩
theorem Soft.put {b B : Nat} {w : World} {l : Nat} {o : Obj} (o' : Obj) (hl : w.heap[l]? = some o) (ho : o.isCells = false) (hB : B ≤ l) : Soft b B w (w.putObj l o') :=
  ⟨rfl, rfl, rfl, by simp, fun k u hu hk hc => (World.putObj_heap_other (fun e => by subst e; rw [hl] at hu; cases hu; rcases hc with h | h; · omega
                                                                                     · rw [ho] at h; cases h)).trans hu⟩
theorem Soft.alloc {b B : Nat} (w : World) (o : Obj) : Soft b B w (w.alloc o) := ⟨rfl, rfl, rfl, by simp, fun k u hu _ _ => (Below.heap_alloc _ _ _ (Array.getElem?_eq_some_iff.1 hu).1).trans hu⟩
theorem Soft.below {b B n : Nat} {u w w' : World} (h : Soft b B w w') (k : Below n u w) (hb : n ≤ b) (hB : n ≤ B) (hn : n ≤ u.heap.size) : Below n u w' :=
  ⟨h.os.trans k.os, h.tape.trans k.tape, h.output.trans k.output, Nat.le_trans k.size h.size, fun j hj => by
    have e := k.block j hj
    have hl : j < w.heap.size := by have := k.size; omega
    rw [← e, Array.getElem?_eq_getElem hl]
    exact h.block j _ (Array.getElem?_eq_getElem hl) (by omega) (.inl (by omega))⟩
theorem Soft.blk {b B g : Nat} {t : TypeId} {cs : Array Value} {w w' : World} (h : Soft b B w w') (k : Blk w g t cs) (hg : g ≠ b) : Blk w' g t cs := h.block g _ k hg (.inr rfl)
theorem Soft.byt {b B : Nat} {w w' : World} {A : Option Addr} {bs : List UInt8} (h : Soft b B w w') (k : Byt w A bs) (hn : 0 < bs.length → ∀ x, A = some x → x.block ≠ b) : Byt w' A bs := by
  refine ⟨k.1, fun h0 => ?_⟩
  obtain ⟨g, o, e, hc⟩ := k.2 h0
  refine ⟨g, o, e, fun i hi => ?_⟩
  have hci := hc i hi
  rw [← hci]
  apply World.cell?_of_block
  unfold World.cell? at hci
  split at hci
  · rename_i cs t f hh
    rw [show w.heap[(⟨g, o + i, none⟩ : Addr).block]? = w.heap[g]? from rfl] at hh
    show w'.heap[g]? = w.heap[g]?
    rw [hh]; exact h.block g _ hh (hn h0 _ e) (.inr rfl)
  · cases hci
theorem below_put {n : Nat} {u w : World} (h : Below n u w) (l : Nat) (o : Obj) (hl : n ≤ l) : Below n u (w.putObj l o) :=
  ⟨h.os, h.tape, h.output, by simpa using h.size, fun k hk => (World.putObj_heap_other (by omega)).trans (h.block k hk)⟩
theorem blk_put {w : World} {g : Nat} {t : TypeId} {cs : Array Value} (h : Blk w g t cs) (l : Nat) (o : Obj) (hl : g ≠ l) : Blk (w.putObj l o) g t cs := (World.putObj_heap_other hl).trans h
def SeqB {α : Type} (P : Program) (g : Nat) (lb : Array Value) (G b : Nat) (enc : α → Array Value) (xs : List α) (w0 : World) : Prop :=
  ∀ (l : Nat) (J Jx : List α → World → Prop) (W : World), Kept G b w0 W → (∀ pre U V, J pre U → Save b U V → J pre V) → (∀ pre U V, Jx pre U → Save b U V → Jx pre V) →
    (∀ pre x U, J pre U → pre ++ [x] <+: xs → YieldAt Fence.wide 0 P l (enc x) U fun e V => (e = .returned (.bool true) ∧ J (pre ++ [x]) V ∧ Kept G b U V) ∨ (e = .returned (.bool false) ∧ Jx (pre ++ [x]) V)) →
    J [] W → CallsIn Fence.wide 0 P g (#[.func (.yield l) #[] #[]] ++ lb) W fun e V => (∃ v, e = .returned v) ∧ (J xs V ∨ ∃ pre, pre <+: xs ∧ Jx pre V)
def endB {α : Type} (G b : Nat) (I : List α → World → Prop) (Ix : Code → List α → World → Prop) (ys : List α) (W : World) : Exit → Act → World → Prop
  | .normal, _, V => KeepsOthers W V ∧ Kept G b W V ∧ I ys V
  | .ret, _, V => KeepsOthers W V ∧ Ix .ret ys V
  | .exit id, _, V => KeepsOthers W V ∧ Ix (.exit id) ys V
  | .goto t, _, V => KeepsOthers W V ∧ Ix (.goto t) ys V
  | .panic _, _, _ => False
  | .outgrown, _, _ => False
theorem range_B {α : Type} {P : Program} {g : Operand} {ps : Array Tmp} {assign body : Code} {Q : Exit → Act → World → Prop} {a : Act} {w w0 : World} {gf : Nat} {lb : Array Value} {G b : Nat} {enc : α → Array Value} {xs : List α}
    (hg : a.eval g = .func (.func gf) #[] lb) (eg : ∀ args w, (callFunc gf args).run P w = .ok (.enter gf args) w) (hseq : SeqB P gf lb G b enc xs w0) (hk : Kept G b w0 w) (hb : b < w.heap.size) (hG : G ≤ w.heap.size) (hps : ∀ x, (enc x).size = ps.size)
    (I : List α → World → Prop) (Ix : Code → List α → World → Prop) (hI : ∀ pre U V, I pre U → Soft b w.heap.size U V → I pre V) (hIx : ∀ c pre U V, Ix c pre U → Soft b w.heap.size U V → Ix c pre V) (h0 : I [] w) (a₁ : α → Act)
    (hassign : ∀ (l : Nat) (x : α) (W : World) (K : Act → World → Prop), K (a₁ x) W → assign.wpIn (Fence.wide.inRound l) 0 P (Exit.then K (fun _ _ _ => False)) { tmps := (ps.zip (enc x)).foldl (fun t (p, v) => t.setIfInBounds p v) a.tmps, defers := [] } W)
    (hbody : ∀ (l : Nat) (pre : List α) (x : α) (W : World), I pre W → pre ++ [x] <+: xs → body.wpIn (Fence.wide.inRound l) 0 P (endB G b I Ix (pre ++ [x]) W) (a₁ x) W)
    (hdone : ∀ (W : World), I xs W → W.heap[w.heap.size]? = some (.deferred (some [])) → Q .normal { a with defers := { target := .collected w.heap.size, args := #[] } :: a.defers } W)
    (hstop : ∀ (c : Code) (pre : List α) (W : World), pre <+: xs → Ix c pre W → W.heap[w.heap.size]? = some (.deferred (some [])) → c.wpIn Fence.wide 0 P Q { a with defers := { target := .collected w.heap.size, args := #[] } :: a.defers } W) :
    (Code.rangeFunc g ps assign body).wpIn Fence.wide 0 P Q a w := by
  obtain ⟨D, hD⟩ : ∃ D, D = w.heap.size := ⟨_, rfl⟩
  refine wpIn_rangeFunc ?_
  intro fn hfn
  obtain ⟨rec, hrec⟩ : ∃ rec : LoopState → Option Code → Loop, rec = fun st pe => { state := st, pending := pe, fn, tmps := a.tmps, params := ps, assign, body, defers := w.heap.size } := ⟨_, rfl⟩
  obtain ⟨W1, hW1⟩ : ∃ W1, (w.alloc (.deferred (some []))).alloc (.loop (rec .ready none)) = W1 := ⟨_, rfl⟩
  have hz1 : (w.alloc (.deferred (some []))).heap.size = D + 1 := by rw [World.size_alloc, hD]
  have hL1 : W1.heap[D + 1]? = some (.loop (rec .ready none)) := by
    rw [← hW1, ← hz1]; exact World.alloc_heap_new (w.alloc (.deferred (some []))) (.loop (rec .ready none))
  have hK1 : W1.heap[D]? = some (.deferred (some [])) := by
    rw [← hW1, hD]; exact (Below.heap_alloc _ _ _ (by simp)).trans (World.alloc_heap_new w _)
  have hI1 : I [] W1 := by rw [← hW1]; exact hI _ _ _ (hI _ _ _ h0 (Soft.alloc _ _)) (Soft.alloc _ _)
  have hk1 : Kept G b w0 W1 := by rw [← hW1]; exact (hk.trans (Kept.alloc _ _ hb hG)).trans (Kept.alloc _ _ (by simp; omega) (by simp; omega))
  refine ⟨D + 1, [{ target := .collected w.heap.size, args := #[] }], W1, { target := .fn (.func gf) lb, args := #[.func (.yield (D + 1)) #[] #[]] }, W1, gf, #[.func (.yield (D + 1)) #[] #[]] ++ lb, W1, ?_, ?_, fun _ _ => trivial, ?_, (fun h => by cases h), ?_⟩
  · rw [← hW1, hrec, hD]; exact run_enterLoop_outer _ _ _ _ _
  · simp only [resolve, hg]
    simp [go_sem]
  · simp [invoke, go_sem, eg]
  · have lateS : ∀ {U V : World} {k : Nat} {o : Obj}, k ≠ b → U.heap[k]? = some o → Save b U V → V.heap[k]? = some o := fun hkb h s => (s.block _ (Array.getElem?_eq_some_iff.1 h).1 hkb).trans h
    have hDb : D ≠ b := by omega
    have hDb1 : D + 1 ≠ b := by omega
    refine (hseq (D + 1) (fun pre W => I pre W ∧ W.heap[D + 1]? = some (.loop (rec .ready none)) ∧ W.heap[D]? = some (.deferred (some [])))
      (fun pre W => ∃ c, Ix c pre W ∧ W.heap[D + 1]? = some (.loop (rec .done (some c))) ∧ W.heap[D]? = some (.deferred (some []))) W1 hk1
      (fun pre U V h s => ⟨hI _ _ _ h.1 (Soft.of_save s), lateS hDb1 h.2.1 s, lateS hDb h.2.2 s⟩)
      (fun pre U V h s => by
        obtain ⟨c, h1, h2, h3⟩ := h
        exact ⟨c, hIx _ _ _ _ h1 (Soft.of_save s), lateS hDb1 h2 s, lateS hDb h3 s⟩) ?_ ⟨hI1, hL1, hK1⟩).mono ?_
    · rintro pre x W ⟨hi, hl, hkd⟩ hpre
      have hlt : D + 1 < W.heap.size := (Array.getElem?_eq_some_iff.1 hl).1
      have hy := run_yield (P := P) (args := enc x) hl (by rw [hrec]; exact hps x)
      rw [hrec] at hy
      refine ⟨fn, _, assign, body, hy, roundIn_of_wpIn hfn (hassign _ x W _ ⟨_, run_beginRound hl (by rw [hrec]), ?_⟩)⟩
      obtain ⟨W2, hW2⟩ : ∃ W2, W.putObj (D + 1) (.loop { rec .ready none with state := .busy }) = W2 := ⟨_, rfl⟩
      rw [hW2]
      have hl2 : W2.heap[D + 1]? = some (.loop { rec .ready none with state := .busy }) := by rw [← hW2]; exact World.putObj_heap_same hlt
      have hk2 : W2.heap[D]? = some (.deferred (some [])) := by rw [← hW2]; exact (World.putObj_heap_other (by omega)).trans hkd
      have hp2 : Kept G b W W2 := by rw [← hW2]; exact Kept.put _ _ _ (by omega) (by omega)
      have hi2 : I pre W2 := by rw [← hW2]; exact hI _ _ _ hi (Soft.put _ hl rfl (by omega))
      refine wpIn_mono (hbody _ pre x _ hi2 hpre) ?_
      have fin : ∀ (jump : Option Code) (W3 : World), KeepsOthers W2 W3 → ∃ W4, W4 = W3.putObj (D + 1) (.loop (rec (if jump.isNone then .ready else .done) jump)) ∧
          (Instr.endRound (D + 1) jump).run P W3 = .ok (.bool jump.isNone) W4 ∧ W4.heap[D + 1]? = some (.loop (rec (if jump.isNone then .ready else .done) jump)) ∧ W4.heap[D]? = some (.deferred (some [])) ∧ Soft b w.heap.size W3 W4 ∧ Kept G b W3 W4 := fun jump W3 hk3 => by
        have hl3 := hk3.same _ _ hl2 rfl
        have := run_endRound (P := P) jump hl3
        rw [hrec] at this ⊢
        exact ⟨_, rfl, this, World.putObj_heap_same (Array.getElem?_eq_some_iff.1 hl3).1, (World.putObj_heap_other (by omega)).trans (hk3.same _ _ hk2 rfl), Soft.put _ hl3 rfl (by omega), Kept.put _ _ _ (by omega) (by omega)⟩
      rintro e a3 W3 hp
      cases e with
      | normal =>
        obtain ⟨hk3, hkp3, hi3⟩ := hp
        obtain ⟨W4, _, hr, hl4, hk4, s4, p4⟩ := fin none W3 hk3
        exact ⟨_, _, hr, .inl ⟨rfl, ⟨hI _ _ _ hi3 s4, hl4, hk4⟩, (hp2.trans hkp3).trans p4⟩⟩
      | ret =>
        obtain ⟨hk3, hi3⟩ := hp
        obtain ⟨W4, _, hr, hl4, hk4, s4, p4⟩ := fin (some .ret) W3 hk3
        exact ⟨_, _, hr, .inr ⟨rfl, .ret, hIx _ _ _ _ hi3 s4, hl4, hk4⟩⟩
      | exit id =>
        obtain ⟨hk3, hi3⟩ := hp
        obtain ⟨W4, _, hr, hl4, hk4, s4, p4⟩ := fin (some (.exit id)) W3 hk3
        exact ⟨_, _, hr, .inr ⟨rfl, .exit id, hIx _ _ _ _ hi3 s4, hl4, hk4⟩⟩
      | goto t =>
        obtain ⟨hk3, hi3⟩ := hp
        obtain ⟨W4, _, hr, hl4, hk4, s4, p4⟩ := fin (some (.goto t)) W3 hk3
        exact ⟨_, _, hr, .inr ⟨rfl, .goto t, hIx _ _ _ _ hi3 s4, hl4, hk4⟩⟩
      | panic ch => exact hp.elim
      | outgrown => exact hp.elim
    · rintro e W2 ⟨⟨v, rfl⟩, (⟨hi, hl, hkd⟩ | ⟨pre, hpre, c, hi, hl, hkd⟩)⟩
      · have := run_endLoop (P := P) hl (by rw [hrec]; simp)
        rw [hrec] at this
        refine ⟨none, _, this, ?_⟩
        refine hdone _ (hI _ _ _ hi (Soft.put _ hl rfl (by omega))) ?_
        rw [← hD]; exact (World.putObj_heap_other (by omega)).trans hkd
      · have := run_endLoop (P := P) hl (by rw [hrec]; simp)
        rw [hrec] at this
        refine ⟨some c, _, this, ?_⟩
        refine hstop c pre _ hpre (hIx _ _ _ _ hi (Soft.put _ hl rfl (by omega))) ?_
        rw [← hD]; exact (World.putObj_heap_other (by omega)).trans hkd
end Go.Wk

/- Signs: next, and the function that is ranged over. No condition. -/
namespace Go.Proofs.YtgomlebemefdcaaDoor
open Go Go.RowKit Go.Wk Go.Xt
attribute [local go_sem] Oper.semAt_some
set_option maxHeartbeats 1000000 in
set_option maxRecDepth 100000 in
theorem ref_sign {w : World} (x : Int) : Calls Tryd.prog 23 #[.int .i32 x] w fun e w' => e = .returned (.bool (signB x)) ∧ w = w' := by
  have h : signB x = (decide (x = 9) || decide (x = 10) || decide (x = 13) || (decide (32 ≤ x) && decide (x ≠ 65534) && decide (x ≠ 65535))) := rfl
  replace h := Lib.hid h
  generalize signB x = B at *
  go_enter Tryd.func23, Tryd.ntmps23
  go_wp2
  all_goals go_ret
  all_goals (refine ⟨congrArg (fun b => Ending.returned (.bool b)) ?_, rfl⟩; rw [h.out, Bool.eq_iff_iff]; simp; try omega)
set_option maxHeartbeats 1000000 in
set_option maxRecDepth 100000 in
theorem valid_rune {w : World} (x : Int) : Calls Tryd.prog 55 #[.int .i32 x] w fun e w' => e = .returned (.bool (validB x)) ∧ w = w' := by
  have h : validB x = ((decide (0 ≤ x) && decide (x < 55296)) || (decide (57343 < x) && decide (x ≤ 1114111))) := rfl
  replace h := Lib.hid h
  generalize validB x = B at *
  go_enter Tryd.func55, Tryd.ntmps55
  go_wp2
  all_goals go_ret
  all_goals (refine ⟨congrArg (fun b => Ending.returned (.bool b)) ?_, rfl⟩; rw [h.out, Bool.eq_iff_iff]; simp; try omega)
def signV (x : Int) : Bool := signB x && (decide (x < 32) || validB x)
set_option maxHeartbeats 1000000 in
set_option maxRecDepth 100000 in
theorem xml_sign {w : World} (x : Int) : Calls Tryd.prog 43 #[.int .i32 x] w fun e w' => e = .returned (.bool (signV x)) ∧ w = w' := by
  have h : signV x = ((decide (x = 9) || decide (x = 10) || decide (x = 13) || (decide (32 ≤ x) && decide (x ≠ 65534) && decide (x ≠ 65535))) && (decide (x < 32) || validB x)) := rfl
  have cv := valid_rune (w := w) x
  replace h := Lib.hid h
  generalize signV x = B at *
  generalize validB x = V at *
  go_enter Tryd.func43, Tryd.ntmps43
  go_wp2_with (go_at_call 55; (with_reducible refine cv.mono ?_); rintro e w1 ⟨rfl, rfl⟩)
  all_goals go_ret
  all_goals (refine ⟨congrArg (fun b => Ending.returned (.bool b)) ?_, rfl⟩; rw [h.out]; cases V <;> (rw [Bool.eq_iff_iff]; simp; try omega))
end Go.Proofs.YtgomlebemefdcaaDoor

/- Contracts of the library's functions on texts, at this program's numbers. No condition. -/
namespace Go.Proofs
open Go.Shelf
def Tryd.lays169_ren : Go.Shelf.Ren := ⟨fun | 169 => 19 | n => n, fun | 70 => 50 | 9 => 9 | 0 => 0 | 72 => 52 | 37 => 22 | 127 => 73 | 3 => 3 | 5 => 5 | n => n, fun | n => n⟩
theorem Tryd.lays169 : Go.Proofs.Lays.n169 Tryd.prog Tryd.lays169_ren := {
  mixed := by kernel_rfl
  f169 := Tryd.func19.trans (congrArg some (by kernel_rfl))
  t0 := Tryd.underlying0
  a0 := Tryd.isAgg0
  z0 := Tryd.sizeOf0
  v0 := Tryd.zeroValue0
  t3 := Tryd.underlying3
  a3 := Tryd.isAgg3
  z3 := Tryd.sizeOf3
  v3 := Tryd.zeroValue3
  t9 := Tryd.underlying9
  a9 := Tryd.isAgg9
  z9 := Tryd.sizeOf9
  v9 := Tryd.zeroValue9
  t37 := Tryd.underlying22
  a37 := Tryd.isAgg22
  z37 := Tryd.sizeOf22
  v37 := Tryd.zeroValue22
  t70 := Tryd.underlying50
  a70 := Tryd.isAgg50
  z70 := Tryd.sizeOf50
  v70 := Tryd.zeroValue50
  t72 := Tryd.underlying52
  a72 := Tryd.isAgg52
  z72 := Tryd.sizeOf52
  v72 := Tryd.zeroValue52
  t127 := Tryd.underlying73
  a127 := Tryd.isAgg73
  z127 := Tryd.sizeOf73
  v127 := Tryd.zeroValue73 }
theorem Tryd.Builder_Extra_169 : Builder.Extra Tryd.prog Tryd.lays169_ren := {
  sizeBuilder := by kernel_rfl
  liesBuilder := by kernel_rfl
  t5 := Tryd.underlying5
  a5 := Tryd.isAgg5
  z5 := Tryd.sizeOf5
  v5 := Tryd.zeroValue5
  infoByte := by kernel_rfl
  cellsByte := by kernel_rfl
  sizeByte := by kernel_rfl
  neB5 := by decide }
open Go.RowKit in
theorem Tryd.Builder_String_any (B b : Nat) (l : List UInt8) (w : World) (h : Lib.IsBuilder 52 5 B b (Lib.byteCells l) w) (hBw : B ≤ w.heap.size) :
    Calls Tryd.prog 19 #[.pointer (some ⟨b, 0, none⟩)] w fun e w' => e = .returned (.string ⟨l.toArray⟩) ∧ Below B w w' := Any.Builder_String_any Tryd.lays169 Tryd.Builder_Extra_169 B b l w h hBw
def Tryd.lays197_ren : Go.Shelf.Ren := ⟨fun | 197 => 22 | 260 => 36 | n => n, fun | 9 => 9 | 21 => 21 | 3 => 3 | 4 => 4 | 5 => 5 | 105 => 61 | 119 => 95 | 0 => 0 | 46 => 32 | 139 => 98 | 138 => 97 | n => n, fun | 3 => 0 | 4 => 1 | n => n⟩
theorem Tryd.lays197 : Go.Proofs.Lays.n197 Tryd.prog Tryd.lays197_ren := {
  mixed := by kernel_rfl
  f197 := Tryd.func22.trans (congrArg some (by kernel_rfl))
  f260 := Tryd.func36.trans (congrArg some (by kernel_rfl))
  t0 := Tryd.underlying0
  a0 := Tryd.isAgg0
  z0 := Tryd.sizeOf0
  v0 := Tryd.zeroValue0
  t3 := Tryd.underlying3
  a3 := Tryd.isAgg3
  z3 := Tryd.sizeOf3
  v3 := Tryd.zeroValue3
  t4 := Tryd.underlying4
  a4 := Tryd.isAgg4
  z4 := Tryd.sizeOf4
  v4 := Tryd.zeroValue4
  t5 := Tryd.underlying5
  a5 := Tryd.isAgg5
  z5 := Tryd.sizeOf5
  v5 := Tryd.zeroValue5
  t9 := Tryd.underlying9
  a9 := Tryd.isAgg9
  z9 := Tryd.sizeOf9
  v9 := Tryd.zeroValue9
  t21 := Tryd.underlying21
  a21 := Tryd.isAgg21
  z21 := Tryd.sizeOf21
  v21 := Tryd.zeroValue21
  t46 := Tryd.underlying32
  a46 := Tryd.isAgg32
  z46 := Tryd.sizeOf32
  v46 := Tryd.zeroValue32
  t105 := Tryd.underlying61
  a105 := Tryd.isAgg61
  z105 := Tryd.sizeOf61
  v105 := Tryd.zeroValue61
  t119 := Tryd.underlying95
  a119 := Tryd.isAgg95
  z119 := Tryd.sizeOf95
  t138 := Tryd.underlying97
  a138 := Tryd.isAgg97
  z138 := Tryd.sizeOf97
  v138 := Tryd.zeroValue97
  t139 := Tryd.underlying98
  a139 := Tryd.isAgg98
  z139 := Tryd.sizeOf98
  v139 := Tryd.zeroValue98
  g3 := by kernel_rfl
  g4 := by kernel_rfl }
open Go.RowKit Go.Lib in
theorem Tryd.utf8_DecodeRuneInString (s : ByteArray) (w : World) (hT : Lib.Utf8Tabs 0 1 w) :
    Calls Tryd.prog 22 #[.string s] w fun e w' => e = .returned (.tuple #[.int .i32 (Lib.decodeGo s).1, .int .i64 (Lib.decodeGo s).2]) ∧ Below w.heap.size w w' := Any.utf8_DecodeRuneInString Tryd.lays197 s w hT
end Go.Proofs

/- The next sign of a text; the function that is ranged over. No condition. -/
namespace Go.Proofs.YtgomlebemefdcaaDoor
open Go Go.RowKit Go.Wk Go.Xt
attribute [local go_sem] Oper.semAt_some
def nextOk (l : List UInt8) : Bool := signV ((Lib.decodeL l).1 : Int) && (decide ((Lib.decodeL l).1 ≠ 65533) || decide (1 < (Lib.decodeL l).2))
theorem decode_str (l : List UInt8) (h : l ≠ []) : Lib.decodeGo ⟨l.toArray⟩ = Lib.decodeL l := by
  unfold Lib.decodeGo
  rw [if_neg]
  · rfl
  · intro e
    apply h
    have : l.length = 0 := by simpa [ByteArray.size] using e
    exact List.eq_nil_of_length_eq_zero this
set_option maxHeartbeats 1000000 in
set_option maxRecDepth 100000 in
theorem xml_next {w : World} (l : List UInt8) (h : l ≠ []) (hT : Lib.Utf8Tabs 0 1 w) :
    Calls Tryd.prog 31 #[str l] w fun e w' => e = .returned (.tuple #[.int .i32 ((Lib.decodeL l).1 : Int), .int .i64 ((Lib.decodeL l).2 : Int), .bool (nextOk l)]) ∧ Below w.heap.size w w' := by
  have hd : Calls Tryd.prog 22 #[str l] w fun e w' => e = .returned (.tuple #[.int .i32 (Lib.decodeGo ⟨l.toArray⟩).1, .int .i64 (Lib.decodeGo ⟨l.toArray⟩).2]) ∧ Below w.heap.size w w' := Tryd.utf8_DecodeRuneInString ⟨l.toArray⟩ w hT
  rw [decode_str l h] at hd
  have hk : nextOk l = (signV ((Lib.decodeL l).1 : Int) && (decide ((Lib.decodeL l).1 ≠ 65533) || decide (1 < (Lib.decodeL l).2))) := rfl
  generalize nextOk l = K at *
  generalize (Lib.decodeL l).1 = c at *
  generalize (Lib.decodeL l).2 = n at *
  have cs := fun (w : World) => xml_sign (w := w) (c : Int)
  generalize signV (c : Int) = S at *
  replace hk := Lib.hid hk
  clear hT
  go_enter Tryd.func31, Tryd.ntmps31
  go_wp2_with (first
    | (go_at_call 22; (with_reducible refine hd.mono ?_); rintro e w1 ⟨rfl, hb⟩; replace hb := Lib.hid hb)
    | (go_at_call 43; (with_reducible refine (cs _).mono ?_); rintro e w2 ⟨rfl, rfl⟩))
  · have hc : (c : Int) = 65533 := by assumption
    have hS : S = true := by assumption
    go_ret3
    refine ⟨?_, hb.out⟩
    rw [hk.out, hS, hc, show (decide (c ≠ 65533)) = false by simp; omega]
    simp; omega
  · have hc : ¬ (c : Int) = 65533 := by assumption
    have hS : S = true := by assumption
    go_ret3
    refine ⟨?_, hb.out⟩
    rw [hk.out, hS, show (decide (c ≠ 65533)) = true by simp; omega]
    simp
  · have hS : ¬ S = true := by assumption
    go_ret3
    refine ⟨?_, hb.out⟩
    rw [hk.out, show S = false by simpa using hS]
    simp
/-- the signs of a text, and whether each is one -/
def partsS (l : List UInt8) : List (List UInt8 × Bool) := if h : l = [] then [] else (l.take (Lib.decodeL l).2, nextOk l) :: partsS (l.drop (Lib.decodeL l).2)
termination_by l.length
decreasing_by
  have := Lib.decodeL_width l
  have : 0 < l.length := List.length_pos_iff.2 h
  simp; omega
theorem partsS_nil : partsS [] = [] := by rw [partsS]; simp
theorem partsS_cons (l : List UInt8) (h : l ≠ []) : partsS l = (l.take (Lib.decodeL l).2, nextOk l) :: partsS (l.drop (Lib.decodeL l).2) := by rw [partsS]; simp [h]
def encP (x : List UInt8 × Bool) : Array Value := #[str x.1, .bool x.2]
def boxLen (b : Nat) (w : World) : Nat := match w.cell? ⟨b, 0, none⟩ with
  | some (.string s) => s.size
  | _ => 0
theorem boxLen_of {b : Nat} {w : World} {l : List UInt8} (h : Blk w b 9 #[str l]) : boxLen b w = l.length := by
  unfold boxLen
  rw [h.cell 0]
  show ByteArray.size ⟨l.toArray⟩ = _
  simp [ByteArray.size]
theorem tabs_kept {u w : World} (h : Lib.Utf8Tabs 0 1 u) (h0 : w.heap[0]? = u.heap[0]?) (h1 : w.heap[1]? = u.heap[1]?) : Lib.Utf8Tabs 0 1 w := by
  have e0 : ∀ c, w.cell? ⟨0, c, none⟩ = u.cell? ⟨0, c, none⟩ := fun c => World.cell?_of_block h0
  have e1 : ∀ c, w.cell? ⟨1, c, none⟩ = u.cell? ⟨1, c, none⟩ := fun c => World.cell?_of_block h1
  exact ⟨fun c hc => (e0 c).trans (h.1 c hc), fun i hi => ⟨(e1 _).trans (h.2 i hi).1, (e1 _).trans (h.2 i hi).2⟩⟩
set_option maxHeartbeats 2000000 in
set_option maxRecDepth 100000 in
theorem signs_stops {w0 : World} {b : Nat} (l : List UInt8) (hl : l.length ≤ 100000) (hb2 : 2 ≤ b) (hbox : Blk w0 b 9 #[str l]) (hT : Lib.Utf8Tabs 0 1 w0) :
    SeqB Tryd.prog 30 #[.pointer (some ⟨b, 0, none⟩)] 2 b encP (partsS l) w0 := by
  intro L J Jx W hk hJ hJx hY h0
  have hT0 : Lib.Utf8Tabs 0 1 W := tabs_kept hT (hk.low 0 (by omega)) (hk.low 1 (by omega))
  have hbx : Blk W b 9 #[str l] := hk.own.trans hbox
  refine callsIn_of_wp Tryd.func30 rfl trivial ?_ rfl
  simp only [Tryd.ntmps30, List.size_toArray, List.length_cons, List.length_nil, Nat.reduceAdd, Nat.reduceSub, Array.replicate_succ, Array.replicate_zero, List.push_toArray, List.append_toArray, List.nil_append, List.cons_append]
  gi_wp2
  gi_loopw [3] (fun _ wr => ∃ (pre : List (List UInt8 × Bool)) (r : List UInt8), partsS l = pre ++ partsS r ∧ r.length ≤ 100000 ∧ Blk wr b 9 #[str r] ∧ Lib.Utf8Tabs 0 1 wr ∧ J pre wr) (fun _ wr => boxLen b wr)
  case atStart => exact ⟨[], l, rfl, hl, hbx, hT0, h0⟩
  case round =>
    obtain ⟨pre, r, hpr, hrl, hbr, hTr, hJr⟩ := hrel
    have hcell0 := hbr.cell 0
    have hfz := hbr.frozen 0
    have hblt := hbr.lt
    have hml := Lib.hid (boxLen_of hbr)
    obtain ⟨S, hS⟩ : ∃ S : ByteArray, S = ⟨r.toArray⟩ := ⟨_, rfl⟩
    have hstr : str r = .string S := by rw [hS]; rfl
    have hsz : S.size = r.length := by rw [hS]; simp [ByteArray.size]
    have hcell : wr.cell? ⟨b, 0, none⟩ = some (.string S) := by rw [← hstr]; exact hcell0
    clear hcell0
    by_cases hne : r = []
    · have hs0 : S.size = 0 := by rw [hsz, hne]; rfl
      have HJ : J (partsS l) wr := by rw [hpr, hne, partsS_nil, List.append_nil]; exact hJr
      replace HJ := Lib.hid HJ
      clear hstr hsz hS hpr hJr hTr hbr hk hJ hJx hY h0 hne
      have hs1 : S.size ≤ 0 := by omega
      clear hs0
      gi_wp2
      go_end0
      exact ⟨⟨_, rfl⟩, .inl HJ.out⟩
    · have hpos : 0 < r.length := List.length_pos_iff.2 hne
      have hw1 := Lib.decodeL_width r
      have hw2 := Lib.decodeL_le r hne
      have cn := xml_next (w := wr) r hne hTr
      rw [hstr] at cn
      have hpc := partsS_cons r hne
      rw [hpc] at hpr
      have hpre : pre ++ [(r.take (Lib.decodeL r).2, nextOk r)] <+: partsS l := ⟨partsS (r.drop (Lib.decodeL r).2), by rw [hpr]; simp⟩
      have hpr2 : partsS l = (pre ++ [(r.take (Lib.decodeL r).2, nextOk r)]) ++ partsS (r.drop (Lib.decodeL r).2) := by rw [hpr]; simp
      have e1 : ∀ n, str (r.take n) = .string (S.extract 0 n) := fun n => by
        show Value.string _ = _
        congr 1
        apply bytes_ext
        rw [bytes_cut, hS]; simp
      have e2 : ∀ n, n ≤ r.length → str (r.drop n) = .string (S.extract n S.size) := fun n hn => by
        show Value.string _ = _
        congr 1
        apply bytes_ext
        rw [bytes_cut, hS]; simp [ByteArray.size]
      have e2 := e2 _ hw2
      have hd : (r.drop (Lib.decodeL r).2).length < r.length := by simp; omega
      have e1 := e1 (Lib.decodeL r).2
      have hy := hY pre (r.take (Lib.decodeL r).2, nextOk r)
      have hyw : encP (r.take (Lib.decodeL r).2, nextOk r) = #[.string (S.extract 0 (Lib.decodeL r).2), .bool (nextOk r)] := by unfold encP; rw [e1]
      rw [hyw] at hy
      clear hyw hY e1 hpc hpr
      generalize (Lib.decodeL r).1 = c at *
      generalize (Lib.decodeL r).2 = n at *
      generalize nextOk r = K at *
      generalize (r.take n, K) = X at *
      generalize r.drop n = r2 at *
      have hzs : 0 < S.size := by omega
      have hns : n ≤ S.size := by omega
      have hss : S.size ≤ 100000 := by omega
      have hml2 : Hid (boxLen b wr = r.length) := hml
      replace hsz := Lib.hid hsz
      replace e2 := Lib.hid e2
      replace hpr2 := Lib.hid hpr2
      replace hJ := Lib.hid hJ
      replace hJx := Lib.hid hJx
      replace hy := Lib.hid hy
      replace hTr := Lib.hid hTr
      replace hbr := Lib.hid hbr
      clear hS hk h0 hne hml hT hT0 hbx hbox
      have hbS : Blk wr b 9 #[.string S] := by rw [← hstr]; exact hbr.out
      replace hbS := Lib.hid hbS
      clear hstr
      have f110 : Fence.wide.fn 31 := trivial
      gi_wp2_with (refine ⟨rfl, ?_⟩; gi_at_call 31; refine (callsIn_wide.2 cn).mono ?_; rintro e w1 ⟨rfl, hb1⟩; have hc1 := (hb1.cell (p := ⟨b, 0, none⟩) hblt).trans hcell; have hf1 := (hb1.frozen (p := ⟨b, 0, none⟩) hblt).trans hfz; obtain ⟨fn, tmps, assign, body, hyy, hR⟩ := hy.out w1 (hJ.out _ _ _ hJr (Wk.Save.of_below hb1)) hpre; replace hb1 := Lib.hid hb1)
      refine ⟨rfl, ?_⟩
      refine hR.mono ?_
      rintro e W3 (⟨rfl, hJ3, hk3⟩ | ⟨rfl, hJx3⟩)
      · have hbr1 : Blk w1 b 9 #[.string S] := (hb1.out.block b hblt).trans hbS.out
        have hb3 : Blk W3 b 9 #[.string S] := hk3.own.trans hbr1
        have hc3 := hb3.cell 0
        have hf3 := hb3.frozen 0
        have HT3 := Lib.hid (tabs_kept (tabs_kept hTr.out (hb1.out.block 0 (by omega)) (hb1.out.block 1 (by omega))) (hk3.low 0 (by omega)) (hk3.low 1 (by omega)))
        have hc3 : W3.cell? ⟨b, 0, none⟩ = some (.string S) := hc3
        clear hR hyy hc1 hf1
        replace hJ3 := Lib.hid hJ3
        replace hk3 := Lib.hid hk3
        gi_wp2
        have hset : Blk (W3.setCell ⟨b, 0, none⟩ (.string (S.extract n S.size))) b 9 #[str r2] := by
          rw [e2.out]; exact hb3.set_ 0 _
        go_roundw
        case rel =>
          refine ⟨_, r2, hpr2.out, by omega, hset, ?_, hJ.out _ _ _ hJ3.out ((Wk.Save.refl b W3).store 0 _)⟩
          exact tabs_kept HT3.out (Below.heap_setCell _ _ _ _ (by show 0 ≠ b; omega)) (Below.heap_setCell _ _ _ _ (by show 1 ≠ b; omega))
        case measure => rw [boxLen_of hset, hml2.out]; exact hd
      · gi_wp2
        refine bodyPost_ret (results_none rfl _ _ _) rfl ?_
        exact ⟨⟨_, rfl⟩, .inr ⟨_, hpre, hJx3⟩⟩
end Go.Proofs.YtgomlebemefdcaaDoor

/- Signs: whether bytes are signs. No condition. -/
namespace Go.Proofs.YtgomlebemefdcaaDoor
open Go Go.RowKit Go.Wk Go.Xt Go.Shelf
attribute [local go_sem] Oper.semAt_some
theorem conv_byt {w : World} {A : Option Addr} {c : Nat} {l : List UInt8} (h : Byt w A l) : (convert 22 9 (.slice A l.length c)).run Tryd.prog w = .ok (str l) w := by
  cases A with
  | none =>
    have h0 : l = [] := by
      rcases Nat.eq_zero_or_pos l.length with h1 | h1
      · exact List.eq_nil_of_length_eq_zero h1
      · obtain ⟨_, _, e, _⟩ := h.2 h1; cases e
    subst h0
    exact run_convert_bytes_nil _ 22 5 Tryd.underlying22 Tryd.underlying5 _ _ 9 Tryd.underlying9
  | some a => exact run_convert_bytes_back w 22 9 5 a c l Tryd.underlying22 Tryd.underlying5 Tryd.underlying9 (fun j hj => by
    obtain ⟨b, o, e, hc⟩ := h.2 (by omega)
    cases e
    rw [Lib.add_plain]; exact hc j hj)
set_option maxHeartbeats 1000000 in
theorem xml_signs {w : World} (S : ByteArray) : Calls Tryd.prog 20 #[.string S] w fun e w' => e = .returned (.func (.func 30) #[] #[.pointer (some ⟨w.heap.size, 0, none⟩)]) ∧ w' = w.alloc (.cells #[.string S] 9) := by
  go_enter Tryd.func20, Tryd.ntmps20
  go_wp2
  go_ret
  exact ⟨rfl, rfl⟩
def signsB (bs : List UInt8) : Bool := (partsS bs).all (·.2)
set_option maxHeartbeats 2000000 in
set_option maxRecDepth 100000 in
theorem xml_Signs {w : World} {A : Option Addr} {bs : List UInt8} (c : Nat) (hb : Byt w A bs) (hl : bs.length ≤ 100000) (hT : Lib.Utf8Tabs 0 1 w) (h2 : 2 ≤ w.heap.size) :
    Calls Tryd.prog 14 #[.slice A bs.length c] w fun e w' => e = .returned (.bool (signsB bs)) ∧ Below w.heap.size w w' := by
  have hcv := conv_byt (c := c) (hb.below ((Below.refl w.heap.size w).alloc (Nat.le_refl _) (.cells #[.bool false] 4)))
  have cs := fun (w : World) => xml_signs (w := w) ⟨bs.toArray⟩
  have f83 : Fence.wide.fn 20 := trivial
  replace hb := Lib.hid hb
  replace hT := Lib.hid hT
  obtain ⟨m, hm⟩ : ∃ m, m = bs.length := ⟨_, rfl⟩
  rw [← hm] at hcv ⊢
  replace hm := Lib.hid hm
  refine (callsIn_wide (n := 0)).1 ?_
  refine callsIn_of_wp_marks Tryd.func14 rfl trivial ?_ rfl
  simp only [Tryd.ntmps14, List.size_toArray, List.length_cons, List.length_nil, Nat.reduceAdd, Nat.reduceSub, Array.replicate_succ, Array.replicate_zero, List.push_toArray, List.append_toArray, List.nil_append, List.cons_append]
  gi_wp2_with (refine ⟨rfl, ?_⟩; gi_at_call 20; refine (callsIn_wide.2 (cs _)).mono ?_; rintro e w' ⟨rfl, rfl⟩)
  obtain ⟨W0, hW0⟩ : ∃ W0, W0 = (w.alloc (.cells #[.bool false] 4)).alloc (.cells #[.string ⟨bs.toArray⟩] 9) := ⟨_, rfl⟩
  rw [← hW0]
  have hz0 : W0.heap.size = w.heap.size + 2 := by rw [hW0, World.size_alloc, World.size_alloc]
  have hB0 : Below w.heap.size w W0 := by rw [hW0]; exact ((Below.refl _ _).alloc (Nat.le_refl _) _).alloc (by simp) _
  have hr0 : Blk W0 w.heap.size 4 #[.bool false] := by rw [hW0]; exact (Blk.new w 4 _).alloc _
  have hs0 : Blk W0 (w.heap.size + 1) 9 #[str bs] := by
    rw [hW0, ← World.size_alloc w (.cells #[.bool false] 4)]; exact Blk.new _ 9 _
  have hT0 : Lib.Utf8Tabs 0 1 W0 := tabs_kept hT.out (hB0.block 0 (by omega)) (hB0.block 1 (by omega))
  replace hW0 := Lib.hid hW0
  refine range_B (gf := 30) (lb := #[.pointer (some ⟨w.heap.size + 1, 0, none⟩)]) rfl (enters_of Tryd.func30 (by kernel_rfl) rfl) (signs_stops bs hl (by omega) hs0 hT0) (Kept.refl _ _ _) (by omega) (by omega) (fun _ => rfl)
    (fun pre W => Blk W w.heap.size 4 #[.bool false] ∧ Below w.heap.size w W ∧ pre.all (·.2) = true)
    (fun c pre W => c = .ret ∧ Blk W w.heap.size 4 #[.bool false] ∧ Below w.heap.size w W ∧ pre.all (·.2) = false)
    (fun pre U V h s => ⟨s.blk h.1 (by omega), s.below h.2.1 (by omega) (by omega) (Nat.le_refl _), h.2.2⟩)
    (fun c pre U V h s => ⟨h.1, s.blk h.2.1 (by omega), s.below h.2.2.1 (by omega) (by omega) (Nat.le_refl _), h.2.2.2⟩)
    ⟨hr0, hB0, rfl⟩
    (fun x => { tmps := #[.slice A m c, undef, .pointer (some ⟨w.heap.size, 0, none⟩), undef, .bool x.2, .slice A m c, str bs, .func (.func 30) #[] #[.pointer (some ⟨w.heap.size + 1, 0, none⟩)], str x.1, .bool x.2, undef, undef], defers := [] }) ?assign ?body ?done ?stop
  case assign =>
    intro l x W K hK
    unfold encP
    gi_wp2
    exact hK
  case body =>
    rintro l pre ⟨x, ok⟩ W ⟨hr, hB, hp⟩ hpre
    have hc := hr.cell 0
    have hf := hr.frozen 0
    replace hr := Lib.hid hr
    replace hp := Lib.hid hp
    cases ok with
    | true =>
      gi_wp2
      exact ⟨KeepsOthers.refl _, Kept.refl _ _ _, hr.out, hB, by simp [hp.out]⟩
    | false =>
      gi_wp2
      exact ⟨KeepsOthers.setCell _ _ _, rfl, hr.out.set_ 0 _, hB.setCell (p := ⟨w.heap.size, 0, none⟩) (Nat.le_refl _) _, by simp⟩
  case done =>
    rintro W ⟨hr, hB, hp⟩ hK
    have hc := hr.cell 0
    have hf := hr.frozen 0
    replace hr := Lib.hid hr
    replace hp := Lib.hid hp
    gi_wp2
    have hK' := (KeepsOthers.setCell W ⟨w.heap.size, 0, none⟩ (.bool true)).same _ _ hK rfl
    refine ⟨by simp, .inl ⟨_, _, rfl, run_takeDeferred hK', ?_⟩⟩
    have hr5 := (blk_put (hr.out.set_ 0 (.bool true)) W0.heap.size (.deferred none) (by omega)).cell 0
    refine ⟨.bool true, ?_, by unfold signsB; rw [hp.out], below_put (hB.setCell (p := ⟨w.heap.size, 0, none⟩) (Nat.le_refl _) _) _ _ (by omega)⟩
    simp [results, Tryd.f14, go_sem, hr5]
  case stop =>
    rintro c pre W hpre ⟨rfl, hr, hB, hp⟩ hK
    have hc := hr.cell 0
    replace hr := Lib.hid hr
    replace hp := Lib.hid hp
    gi_wp2
    refine ⟨by simp, .inl ⟨_, _, rfl, run_takeDeferred hK, ?_⟩⟩
    have hr5 := (blk_put hr.out W0.heap.size (.deferred none) (by omega)).cell 0
    refine ⟨.bool false, ?_, ?_, below_put hB _ _ (by omega)⟩
    · simp [results, Tryd.f14, go_sem, hr5]
    · obtain ⟨r, hr⟩ := hpre
      unfold signsB; rw [← hr, List.all_append, hp.out, Bool.false_and]
end Go.Proofs.YtgomlebemefdcaaDoor

/- The grammar of elements, as far as it is used: what is read, and where reading stands behind it. No condition. -/
namespace Go.Xe
abbrev Bs := List UInt8
def whiteB (c : UInt8) : Bool := c == 9 || c == 10 || c == 13 || c == 32
def beginsB (c : UInt8) : Bool := (decide (97 ≤ c.toNat) && decide (c.toNat ≤ 122)) || (decide (65 ≤ c.toNat) && decide (c.toNat ≤ 90)) || c == 95 || decide (128 ≤ c.toNat)
def goesB (c : UInt8) : Bool := beginsB c || (decide (48 ≤ c.toNat) && decide (c.toNat ≤ 57)) || c == 45 || c == 46
/-- white signs -/
def ws (r : Bs) : Nat := (r.takeWhile whiteB).length
/-- a name -/
def nameS (r : Bs) : Bs := match r with
  | c :: _ => if beginsB c then r.takeWhile goesB else []
  | [] => []
/-- behind the next place of a text -/
inductive Behind (s : Bs) : Bs → Bs → Prop
  | here (r : Bs) : Behind s (s ++ r) r
  | next (c : UInt8) (r r' : Bs) : ¬ s <+: c :: r → Behind s r r' → Behind s (c :: r) r'
/-- a comment, an instruction, or neither -/
inductive Misc : Bs → Bool → Bs → Prop
  | com (r r' : Bs) : Behind [45, 45] r (62 :: r') → Misc ([60, 33, 45, 45] ++ r) true r'
  | ins (r r' : Bs) : ¬ [60, 33, 45, 45] <+: [60, 63] ++ r → Behind [63, 62] r r' → Misc ([60, 63] ++ r) true r'
  | no (r : Bs) : ¬ [60, 33, 45, 45] <+: r → ¬ [60, 63] <+: r → Misc r false r
/-- around the root -/
inductive Around : Bs → Bs → Prop
  | stop (r : Bs) : Misc (r.drop (ws r)) false (r.drop (ws r)) → Around r (r.drop (ws r))
  | more (r r1 r' : Bs) : Misc (r.drop (ws r)) true r1 → Around r1 r' → Around r r'
/-- behind an & -/
inductive Ent : Bs → Bs → Bs → Prop
  | lt (r : Bs) : Ent ([108, 116, 59] ++ r) [60] r
  | gt (r : Bs) : Ent ([103, 116, 59] ++ r) [62] r
  | amp (r : Bs) : Ent ([97, 109, 112, 59] ++ r) [38] r
  | quot (r : Bs) : Ent ([113, 117, 111, 116, 59] ++ r) [34] r
  | apos (r : Bs) : Ent ([97, 112, 111, 115, 59] ++ r) [39] r
  | cr (r : Bs) : Ent ([35, 49, 51, 59] ++ r) [13] r
/-- signs up to one that ends them (-1: none but the mark) -/
inductive Txt (fin : Int) : Bs → Bs → Bs → Prop
  | nil : Txt fin [] [] []
  | stop (c : UInt8) (r : Bs) : (c = 60 ∨ (c.toNat : Int) = fin) → Txt fin (c :: r) [] (c :: r)
  | byte (c : UInt8) (r o r' : Bs) : c ≠ 60 → (c.toNat : Int) ≠ fin → c ≠ 38 → Txt fin r o r' → Txt fin (c :: r) (c :: o) r'
  | ent (r e r1 o r' : Bs) : fin ≠ 38 → Ent r e r1 → Txt fin r1 o r' → Txt fin (38 :: r) (e ++ o) r'
/-- an attribute: its name, its value -/
inductive Att : Bs → Bs × Bs → Bs → Prop
  | mk (r nm r1 v : Bs) (q : UInt8) (r2 r3 : Bs) : nameS r = nm → nm ≠ [] → nm ≠ [120, 109, 108, 110, 115] → r.drop nm.length = r1 → ¬ [58] <+: r1 → r1.drop (ws r1) = 61 :: r2 → r2.drop (ws r2) = q :: r3 → (q = 34 ∨ q = 39) →
      (r4 : Bs) → Txt (q.toNat : Int) r3 v (q :: r4) → Att r (nm, v) r4
/-- attributes, one at most -/
inductive Atts : Bs → List (Bs × Bs) → Bs → Prop
  | nil (r r' : Bs) (c : UInt8) : r.drop (ws r) = c :: r' → (c = 47 ∨ c = 62) → Atts r [] (c :: r')
  | one (r r1 r2 r' : Bs) (a : Bs × Bs) (c c1 : UInt8) (rc : Bs) : 0 < ws r → r.drop (ws r) = c1 :: rc → c1 ≠ 47 → c1 ≠ 62 → Att (c1 :: rc) a r2 → r2.drop (ws r2) = c :: r' → (c = 47 ∨ c = 62) → Atts r [a] (c :: r')
/-- a node -/
inductive Nd where
  | el (name : Bs) (atts : List (Bs × Bs)) (kids : List Nd)
  | tx (t : Bs)
/-- the beginning's mark: name, attributes, closed -/
inductive Mark : Bs → Bs → List (Bs × Bs) → Bool → Bs → Prop
  | open (r nm : Bs) (l : List (Bs × Bs)) (r1 r2 : Bs) : nameS r = nm → nm ≠ [] → r.drop nm.length = r1 → ¬ [58] <+: r1 → Atts r1 l (62 :: r2) → Mark (60 :: r) nm l false r2
  | shut (r nm : Bs) (l : List (Bs × Bs)) (r1 r2 : Bs) : nameS r = nm → nm ≠ [] → r.drop nm.length = r1 → ¬ [58] <+: r1 → Atts r1 l (47 :: 62 :: r2) → Mark (60 :: r) nm l true r2
mutual
/-- an element: so many in one another, so many marks met -/
inductive Elem : Nat → Nat → Bs → Nd → Nat → Bs → Prop
  | shut (d m : Nat) (r nm : Bs) (l : List (Bs × Bs)) (r1 : Bs) : m < 4000 → Mark r nm l true r1 → Elem (d + 1) m r (.el nm l []) (m + 1) r1
  | open (d m m2 : Nat) (r nm : Bs) (l : List (Bs × Bs)) (r1 : Bs) (ks : List Nd) (r2 r3 r4 : Bs) : m < 4000 → Mark r nm l false r1 → Cont (d + 1) (m + 1) [] r1 ks m2 r2 → nameS r2 = nm → r2.drop nm.length = r3 → ¬ [58] <+: r3 → r3.drop (ws r3) = 62 :: r4 →
      Elem (d + 1) m r (.el nm l ks) m2 r4
/-- a content: the text that is kept, what is read, behind its end's beginning -/
inductive Cont : Nat → Nat → Bs → Bs → List Nd → Nat → Bs → Prop
  | skip (d m m2 : Nat) (t r o r1 r2 : Bs) (ks : List Nd) (r' : Bs) : Txt (-1) r o r1 → Misc r1 true r2 → Cont d m (t ++ o) r2 ks m2 r' → Cont d m t r ks m2 r'
  | done (d m : Nat) (t r o r1 r2 : Bs) : Txt (-1) r o r1 → Misc r1 false r1 → r1 = [60, 47] ++ r2 → Cont d m t r (if t ++ o = [] then [] else [.tx (t ++ o)]) m r2
  | elem (d m m1 m2 : Nat) (t r o r1 r2 : Bs) (k : Nd) (ks : List Nd) (r' : Bs) : Txt (-1) r o r1 → Misc r1 false r1 → ¬ [60, 47] <+: r1 → Elem d m r1 k m1 r2 → Cont (d + 1) m1 [] r2 ks m2 r' →
      Cont (d + 1) m t r ((if t ++ o = [] then [] else [.tx (t ++ o)]) ++ k :: ks) m2 r'
end
end Go.Xe

/- The reader's state; its small functions. No condition. -/
namespace Go.Proofs.YtgomlebemefdcaaDoor
open Go Go.RowKit Go.Wk Go.Xt Go.Xe
theorem u8_eq (c n : UInt8) : (c == n) = ((c.toNat : Int) == (n.toNat : Int)) := by
  rw [Bool.eq_iff_iff]; simp only [beq_iff_eq]
  exact ⟨fun h => by rw [h], fun h => UInt8.toNat_inj.1 (by omega)⟩
def whiteI (x : Int) : Bool := (x == 9) || (x == 10) || (x == 13) || (x == 32)
def beginsI (x : Int) : Bool := (decide (97 ≤ x) && decide (x ≤ 122)) || (decide (65 ≤ x) && decide (x ≤ 90)) || (x == 95) || decide (128 ≤ x)
def goesI (x : Int) : Bool := beginsI x || (decide (48 ≤ x) && decide (x ≤ 57)) || (x == 45) || (x == 46)
theorem white_u8 (c : UInt8) : whiteI (c.toNat : Int) = whiteB c := by
  unfold whiteI whiteB; rw [u8_eq c 9, u8_eq c 10, u8_eq c 13, u8_eq c 32]; rfl
theorem cast_le (n k : Nat) : decide ((n : Int) ≤ (k : Int)) = decide (n ≤ k) := by rw [Bool.eq_iff_iff]; simp
theorem begins_u8 (c : UInt8) : beginsI (c.toNat : Int) = beginsB c := by
  unfold beginsI beginsB
  rw [u8_eq c 95, ← cast_le, ← cast_le, ← cast_le, ← cast_le, ← cast_le]; rfl
theorem goes_u8 (c : UInt8) : goesI (c.toNat : Int) = goesB c := by
  unfold goesI goesB
  rw [begins_u8, u8_eq c 45, u8_eq c 46, ← cast_le, ← cast_le]; rfl
set_option maxHeartbeats 1000000 in
set_option maxRecDepth 100000 in
theorem xml_white {w : World} (x : Int) : Calls Tryd.prog 57 #[.int .i64 x] w fun e w' => e = .returned (.bool (whiteI x)) ∧ w = w' := by
  have h : whiteI x = ((x == 9) || (x == 10) || (x == 13) || (x == 32)) := rfl
  replace h := Lib.hid h
  generalize whiteI x = B at *
  go_enter Tryd.func57, Tryd.ntmps57
  go_wp2
  all_goals go_ret
  all_goals (refine ⟨congrArg (fun b => Ending.returned (.bool b)) ?_, rfl⟩; first | (rw [h.out, Bool.eq_iff_iff]; done) | (rw [h.out, Bool.eq_iff_iff]; simp; done) | (rw [h.out, Bool.eq_iff_iff]; simp; omega))
set_option maxHeartbeats 1000000 in
set_option maxRecDepth 100000 in
theorem xml_begins {w : World} (x : Int) : Calls Tryd.prog 73 #[.int .i64 x] w fun e w' => e = .returned (.bool (beginsI x)) ∧ w = w' := by
  have h : beginsI x = ((decide (97 ≤ x) && decide (x ≤ 122)) || (decide (65 ≤ x) && decide (x ≤ 90)) || (x == 95) || decide (128 ≤ x)) := rfl
  replace h := Lib.hid h
  generalize beginsI x = B at *
  go_enter Tryd.func73, Tryd.ntmps73
  go_wp2
  all_goals go_ret
  all_goals (refine ⟨congrArg (fun b => Ending.returned (.bool b)) ?_, rfl⟩; first | (rw [h.out, Bool.eq_iff_iff]; done) | (rw [h.out, Bool.eq_iff_iff]; simp; done) | (rw [h.out, Bool.eq_iff_iff]; simp; omega))
set_option maxHeartbeats 1000000 in
set_option maxRecDepth 100000 in
theorem xml_goes {w : World} (x : Int) : Calls Tryd.prog 74 #[.int .i64 x] w fun e w' => e = .returned (.bool (goesI x)) ∧ w = w' := by
  have h : goesI x = (beginsI x || (decide (48 ≤ x) && decide (x ≤ 57)) || (x == 45) || (x == 46)) := rfl
  have cb := xml_begins (w := w) x
  replace h := Lib.hid h
  generalize goesI x = B at *
  generalize beginsI x = V at *
  go_enter Tryd.func74, Tryd.ntmps74
  go_wp2_with (go_at_call 73; (with_reducible refine cb.mono ?_); rintro e w1 ⟨rfl, rfl⟩)
  all_goals go_ret
  all_goals (refine ⟨congrArg (fun b => Ending.returned (.bool b)) ?_, rfl⟩; rw [h.out]; cases V <;> first | (exfalso; simp_all; done) | (rw [Bool.eq_iff_iff]; simp; done) | (rw [Bool.eq_iff_iff]; simp; omega))
set_option maxHeartbeats 1000000 in
theorem xml_passed {w : World} (b : Bool) : Calls Tryd.prog 41 #[.bool b] w fun e w' => e = .returned (.int .i64 (if b then 0 else 4)) ∧ w = w' := by
  cases b
  all_goals
    go_enter Tryd.func41, Tryd.ntmps41
    go_wp2
    go_ret
    exact ⟨rfl, rfl⟩
/-- all lies as it lay, but for two blocks -/
structure Fr (L R : Nat) (w w' : World) : Prop where
  os : w'.os = w.os
  tape : w'.tape = w.tape
  output : w'.output = w.output
  size : w.heap.size ≤ w'.heap.size
  block : ∀ k, k < w.heap.size → k ≠ L → k ≠ R → w'.heap[k]? = w.heap[k]?
theorem Fr.refl (L R : Nat) (w : World) : Fr L R w w := ⟨rfl, rfl, rfl, Nat.le_refl _, fun _ _ _ _ => rfl⟩
theorem Fr.trans {L R : Nat} {a b c : World} (h : Fr L R a b) (k : Fr L R b c) : Fr L R a c :=
  ⟨k.os.trans h.os, k.tape.trans h.tape, k.output.trans h.output, Nat.le_trans h.size k.size, fun j hj h1 h2 => (k.block j (Nat.lt_of_lt_of_le hj h.size) h1 h2).trans (h.block j hj h1 h2)⟩
theorem Fr.of_save {L R : Nat} {a b : World} (h : Save L a b) : Fr L R a b := ⟨h.os, h.tape, h.output, h.size, fun k hk h1 _ => h.block k hk h1⟩
theorem Fr.of_below {L R : Nat} {a b : World} (h : Below a.heap.size a b) : Fr L R a b := ⟨h.os, h.tape, h.output, h.size, fun k hk _ _ => h.block k hk⟩
theorem Fr.below {L R B : Nat} {a b : World} (h : Fr L R a b) (hL : B ≤ L) (hR : B ≤ R) (hB : B ≤ a.heap.size) : Below B a b := ⟨h.os, h.tape, h.output, h.size, fun k hk => h.block k (by omega) (by omega) (by omega)⟩
theorem Fr.store {L R : Nat} {a b : World} (h : Fr L R a b) (o : Nat) (u : Value) : Fr L R a (b.setCell ⟨R, o, none⟩ u) :=
  h.trans ⟨rfl, rfl, rfl, by simp [World.setCell], fun k _ _ hn => Below.heap_setCell _ _ _ _ hn⟩
structure RS (w : World) (L R : Nat) (bv : Value) (A : Option Addr) (c : Nat) (bs : List UInt8) (p many : Nat) : Prop where
  cur : Cur w w L A c bs p
  rdr : Blk w R 68 #[.pointer (some ⟨L, 0, none⟩), .int .i64 (many : Nat), bv]
  ne : L ≠ R
  neA : 0 < bs.length → ∀ x, A = some x → x.block ≠ R
  cap : bs.length ≤ c
section
variable {w w' : World} {L R c p p' many : Nat} {bv : Value} {A : Option Addr} {bs : List UInt8}
theorem Cur.L_lt (h : Cur w w L A c bs p) : L < w.heap.size := cell_lt h.cb
theorem RS.cur_to (h : RS w L R bv A c bs p many) (k : Cur w w' L A c bs p') : RS w' L R bv A c bs p' many ∧ Fr L R w w' :=
  ⟨⟨k.here, (k.bel.block R h.rdr.lt h.ne.symm).trans h.rdr, h.ne, h.neA, h.cap⟩, Fr.of_save k.bel⟩
theorem RS.below (h : RS w L R bv A c bs p many) (hb : Below w.heap.size w w') : RS w' L R bv A c bs p many := by
  have hc := h.cur
  have hL := hc.L_lt
  refine ⟨⟨hc.ne, Save.refl _ _, (hb.cell (p := ⟨L, 0, none⟩) hL).trans hc.cb, (hb.cell (p := ⟨L, 1, none⟩) hL).trans hc.ca, (hb.frozen (p := ⟨L, 1, none⟩) hL).trans hc.fr, hc.byt.below hb, hc.le, hc.small⟩, h.rdr.below hb h.rdr.lt, h.ne, h.neA, h.cap⟩
end
end Go.Proofs.YtgomlebemefdcaaDoor

/- The reader passes white signs, and what stands behind a text. No condition. -/
namespace Go.Proofs.YtgomlebemefdcaaDoor
open Go Go.RowKit Go.Wk Go.Xt Go.Xe
section
variable {w : World} {L R c p many : Nat} {bv : Value} {A : Option Addr} {bs : List UInt8}
theorem peek_cons {x : UInt8} {r : List UInt8} (h : bs.drop p = x :: r) : peekS bs p = (x.toNat : Int) := by
  unfold peekS
  have : bs[p]? = some x := by have := congrArg List.head? h; simpa [List.head?_drop] using this
  rw [this]
theorem peek_nil (h : bs.drop p = []) : peekS bs p = -1 := by
  unfold peekS
  have : bs[p]? = none := by have := congrArg List.head? h; simpa [List.head?_drop] using this
  rw [this]
theorem drop_one {x : UInt8} {r : List UInt8} (h : bs.drop p = x :: r) : bs.drop (p + 1) = r ∧ p < bs.length := by
  refine ⟨by rw [← List.tail_drop, h]; rfl, ?_⟩
  rcases Nat.lt_or_ge p bs.length with h1 | h1
  · exact h1
  · rw [List.drop_eq_nil_of_le h1] at h; cases h
theorem drop_app {s r : List UInt8} (h : bs.drop p = s ++ r) (hp : p ≤ bs.length) : bs.drop (p + s.length) = r ∧ p + s.length ≤ bs.length := by
  refine ⟨by rw [← List.drop_drop, h, List.drop_left], ?_⟩
  have := congrArg List.length h
  simp at this; omega
theorem stands_pre {s : List UInt8} (hs : s ≠ []) : stands bs p s = decide (s <+: bs.drop p) := by
  rw [Bool.eq_iff_iff]
  unfold stands
  simp only [Bool.and_eq_true, decide_eq_true_eq, beq_iff_eq]
  constructor
  · rintro ⟨h1, h2⟩; exact ⟨_, by rw [← h2]; exact List.take_append_drop _ _⟩
  · rintro ⟨r, hr⟩
    refine ⟨?_, by rw [← hr]; simp⟩
    have h3 := congrArg List.length hr
    have : 0 < s.length := List.length_pos_iff.2 hs
    simp at h3; omega
theorem rs_peek (h : RS w L R bv A c bs p many) : Calls Tryd.prog 58 #[.pointer (some ⟨L, 0, none⟩), .int .i64 0] w fun e w' => e = .returned (.int .i64 (peekS bs p)) ∧ RS w' L R bv A c bs p many ∧ Fr L R w w' :=
  (cur_peek h.cur).mono fun e w' k => ⟨k.1, h.cur_to k.2⟩
theorem rs_next (h : RS w L R bv A c bs p many) : Calls Tryd.prog 59 #[.pointer (some ⟨L, 0, none⟩)] w fun e w' => e = .returned (.int .i64 (peekS bs p)) ∧ RS w' L R bv A c bs (if p < bs.length then p + 1 else p) many ∧ Fr L R w w' :=
  (cur_next h.cur).mono fun e w' k => ⟨k.1, h.cur_to k.2⟩
theorem rs_left (h : RS w L R bv A c bs p many) : Calls Tryd.prog 37 #[.pointer (some ⟨L, 0, none⟩)] w fun e w' => e = .returned (.int .i64 ((bs.length : Int) - p)) ∧ w = w' :=
  (cur_left h.cur).mono fun e w' k => ⟨k.1, k.2.symm⟩
theorem rs_match (h : RS w L R bv A c bs p many) (s : ByteArray) (hs : 1 ≤ s.size) (hs2 : s.size ≤ 100000) :
    Calls Tryd.prog 54 #[.pointer (some ⟨L, 0, none⟩), .string s] w fun e w' => e = .returned (.bool (decide (s.data.toList <+: bs.drop p))) ∧ RS w' L R bv A c bs (if s.data.toList <+: bs.drop p then p + s.size else p) many ∧ Fr L R w w' := by
  have hne : s.data.toList ≠ [] := by
    intro e
    have : s.data.toList.length = s.size := Array.length_toList
    rw [e] at this; simp at this; omega
  refine (cur_match s h.cur h.cap hs hs2).mono ?_
  rintro e w' ⟨rfl, k⟩
  have e1 := stands_pre (bs := bs) (p := p) hne
  rw [e1] at k ⊢
  have := h.cur_to k
  simp only [decide_eq_true_eq] at this
  exact ⟨rfl, this⟩
theorem rs_yes (h : RS w L R bv A c bs p many) (s : ByteArray) (r : List UInt8) (hs : 1 ≤ s.size) (hs2 : s.size ≤ 100000) (hr : bs.drop p = s.data.toList ++ r) :
    Calls Tryd.prog 54 #[.pointer (some ⟨L, 0, none⟩), .string s] w fun e w' => e = .returned (.bool true) ∧ RS w' L R bv A c bs (p + s.size) many ∧ Fr L R w w' := by
  have hp : s.data.toList <+: bs.drop p := ⟨r, hr.symm⟩
  have := rs_match h s hs hs2
  rw [if_pos hp, decide_eq_true hp] at this
  exact this
theorem rs_no (h : RS w L R bv A c bs p many) (s : ByteArray) (hs : 1 ≤ s.size) (hs2 : s.size ≤ 100000) (hr : ¬ s.data.toList <+: bs.drop p) :
    Calls Tryd.prog 54 #[.pointer (some ⟨L, 0, none⟩), .string s] w fun e w' => e = .returned (.bool false) ∧ RS w' L R bv A c bs p many ∧ Fr L R w w' := by
  have := rs_match h s hs hs2
  rw [if_neg hr, decide_eq_false hr] at this
  exact this
end
theorem ws_cons (x : UInt8) (r : List UInt8) : ws (x :: r) = if whiteB x then ws r + 1 else 0 := by
  unfold ws
  rw [List.takeWhile_cons]
  cases whiteB x <;> simp
theorem ws_le (r : List UInt8) : ws r ≤ r.length := by unfold ws; exact (List.takeWhile_prefix _).length_le
theorem ws_at : ∀ (r : List UInt8) (k : Nat), k < ws r → ∃ x r', r.drop k = x :: r' ∧ whiteB x = true := by
  intro r
  induction r with
  | nil => intro k h; simp [ws] at h
  | cons x r ih =>
    intro k h
    rw [ws_cons] at h
    cases hx : whiteB x with
    | false => rw [hx] at h; simp at h
    | true =>
      rw [hx] at h
      cases k with
      | zero => exact ⟨x, r, rfl, hx⟩
      | succ k => exact ih k (by simp at h; omega)
theorem ws_end : ∀ r : List UInt8, r.drop (ws r) = [] ∨ ∃ x r', r.drop (ws r) = x :: r' ∧ whiteB x = false := by
  intro r
  induction r with
  | nil => left; simp
  | cons x r ih =>
    rw [ws_cons]
    cases hx : whiteB x with
    | false => right; exact ⟨x, r, by simp, hx⟩
    | true => simpa using ih
set_option maxHeartbeats 2000000 in
set_option maxRecDepth 100000 in
theorem xml_blank {w : World} {L R c p many : Nat} {bv : Value} {A : Option Addr} {bs r : List UInt8} (h : RS w L R bv A c bs p many) (hr : bs.drop p = r) :
    Calls Tryd.prog 49 #[.pointer (some ⟨R, 0, none⟩)] w fun e w' => e = .returned (.int .i64 (ws r : Nat)) ∧ RS w' L R bv A c bs (p + ws r) many ∧ Fr L R w w' := by
  have hle := ws_le r
  have hpl := h.cur.le
  have hsm := h.cur.small
  have hrl : r.length = bs.length - p := by rw [← hr]; simp
  have hat := Lib.hid (fun k (hk : k < ws r) => ws_at r k hk)
  have hend := Lib.hid (ws_end r)
  have hdk : Hid (∀ k, bs.drop (p + k) = r.drop k) := Lib.hid fun k => by rw [← hr, List.drop_drop]
  generalize hn : ws r = n at *
  replace hn := Lib.hid hn
  have hn2 : n ≤ 100000 := by omega
  have hpn : p + n ≤ bs.length := by omega
  replace h := Lib.hid h
  replace hr := Lib.hid hr
  clear hle hrl
  go_enter Tryd.func49, Tryd.ntmps49
  go_wp2
  go_loopw [3] (fun s wr => ∃ k : Nat, k ≤ n ∧ s = .int .i64 k ∧ RS wr L R bv A c bs (p + k) many ∧ Fr L R w wr) (fun s _ => n + 1 - (RowKit.intOf s).toNat)
  case atStart => exact ⟨0, Nat.zero_le _, rfl, h.out, Fr.refl _ _ _⟩
  case round =>
    obtain ⟨k, hk, rfl, hS, hF⟩ := hrel
    have c0 := hS.rdr.cell 0
    have cp := rs_peek hS
    by_cases hlt : k < n
    · obtain ⟨x, r', hx, hw⟩ := hat.out k hlt
      have hx2 : bs.drop (p + k) = x :: r' := (hdk.out k).trans hx
      rw [peek_cons hx2] at cp
      have cw := fun (w : World) => Proofs.YtgomlebemefdcaaDoor.xml_white (w := w) (x.toNat : Int)
      rw [white_u8, hw] at cw
      have hlt2 := (drop_one hx2).2
      generalize (x.toNat : Int) = X at *
      replace hF := Lib.hid hF
      replace hS := Lib.hid hS
      clear hx hw hx2
      go_wp2_with (first
        | (go_at_call 58; (with_reducible refine cp.mono ?_); rintro e w1 ⟨rfl, h1, f1⟩; have c1 := h1.rdr.cell 0; have cn := rs_next h1; rw [if_pos hlt2] at cn; replace f1 := Lib.hid f1; replace h1 := Lib.hid h1)
        | (go_at_call 57; (with_reducible refine (cw _).mono ?_); rintro e w2 ⟨rfl, rfl⟩)
        | (go_at_call 59; (with_reducible refine cn.mono ?_); rintro e w3 ⟨rfl, h3, f3⟩; replace f3 := Lib.hid f3; replace h3 := Lib.hid h3))
      go_roundw
      case rel => exact ⟨k + 1, by omega, by go_num, h3.out, (hF.out.trans f1.out).trans f3.out⟩
      case measure => simp [RowKit.intOf]; omega
    · obtain rfl : k = n := by omega
      have hz : whiteI (peekS bs (p + k)) = false := by
        rcases hend.out with h0 | ⟨x, r', hx, hw⟩
        · rw [peek_nil ((hdk.out k).trans h0)]; decide
        · rw [peek_cons ((hdk.out k).trans hx), white_u8, hw]
      have cw := fun (w : World) => Proofs.YtgomlebemefdcaaDoor.xml_white (w := w) (peekS bs (p + k))
      rw [hz] at cw
      generalize peekS bs (p + k) = X at *
      replace hF := Lib.hid hF
      replace hS := Lib.hid hS
      clear hz
      go_wp2_with (first
        | (go_at_call 58; (with_reducible refine cp.mono ?_); rintro e w1 ⟨rfl, h1, f1⟩; replace f1 := Lib.hid f1; replace h1 := Lib.hid h1)
        | (go_at_call 57; (with_reducible refine (cw _).mono ?_); rintro e w2 ⟨rfl, rfl⟩))
      go_ret
      exact ⟨rfl, h1.out, hF.out.trans f1.out⟩
end Go.Proofs.YtgomlebemefdcaaDoor

/- The reader passes comments, instructions, what stands around the root. No condition. -/
namespace Go.Proofs.YtgomlebemefdcaaDoor
open Go Go.RowKit Go.Wk Go.Xt Go.Xe
def posOf (L : Nat) (w : World) : Nat := match w.cell? ⟨L, 1, none⟩ with
  | some (.int _ n) => n.toNat
  | _ => 0
theorem RS.pos {w : World} {L R c p many : Nat} {bv : Value} {A : Option Addr} {bs : List UInt8} (h : RS w L R bv A c bs p many) : posOf L w = p := by
  unfold posOf; rw [h.cur.ca]; simp
/-- what is left: where the reader stands -/
structure Rest (bs : List UInt8) (p : Nat) (r : List UInt8) : Prop where
  eq : bs.drop p = r
  le : p ≤ bs.length
set_option maxHeartbeats 2000000 in
set_option maxRecDepth 100000 in
theorem xml_behind {w : World} {L R c p many : Nat} {bv : Value} {A : Option Addr} {bs r r' : List UInt8} (S : ByteArray) (hs : 1 ≤ S.size) (hs2 : S.size ≤ 100000) (h : RS w L R bv A c bs p many) (hr : Rest bs p r) (hB : Behind S.data.toList r r') :
    Calls Tryd.prog 60 #[.pointer (some ⟨R, 0, none⟩), .string S] w fun e w' => e = .returned (.int .i64 0) ∧ (∃ q, RS w' L R bv A c bs q many ∧ Rest bs q r') ∧ Fr L R w w' := by
  have hsl : S.data.toList.length = S.size := Array.length_toList
  replace h := Lib.hid h
  replace hr := Lib.hid hr
  replace hB := Lib.hid hB
  replace hsl := Lib.hid hsl
  go_enter Tryd.func60, Tryd.ntmps60
  go_wp2
  go_loopw [4] (fun _ wr => ∃ q r1, Rest bs q r1 ∧ Behind S.data.toList r1 r' ∧ RS wr L R bv A c bs q many ∧ Fr L R w wr) (fun _ wr => bs.length + 1 - posOf L wr)
  case atStart => exact ⟨p, r, hr.out, hB.out, h.out, Fr.refl _ _ _⟩
  case round =>
    obtain ⟨q, r1, hq, hB1, hS, hF⟩ := hrel
    have c0 := hS.rdr.cell 0
    have cl := rs_left hS
    have hpos := Lib.hid hS.pos
    replace hF := Lib.hid hF
    clear h hr hB
    cases hB1 with
    | here =>
      have cm := rs_yes hS S r' hs hs2 hq.eq
      have hgt : (0 : Int) < (bs.length : Int) - (q : Int) := by
        have := drop_app hq.eq hq.le
        have := hsl.out
        omega
      have hq2 : Rest bs (q + S.size) r' := by
        have := drop_app hq.eq hq.le
        rw [hsl.out] at this
        exact ⟨this.1, this.2⟩
      replace hS := Lib.hid hS
      replace hq := Lib.hid hq
      replace hq2 := Lib.hid hq2
      generalize (bs.length : Int) - (q : Int) = X at *
      go_wp2_with (first
        | (go_at_call 37; (with_reducible refine cl.mono ?_); rintro e w1 ⟨rfl, rfl⟩)
        | (go_at_call 54; (with_reducible refine cm.mono ?_); rintro e w2 ⟨rfl, h2, f2⟩; replace f2 := Lib.hid f2; replace h2 := Lib.hid h2))
      go_ret
      exact ⟨rfl, ⟨_, h2.out, hq2.out⟩, hF.out.trans f2.out⟩
    | next x r2 _ hno hB2 =>
      have cm := rs_no hS S hs hs2 (by rw [hq.eq]; exact hno)
      obtain ⟨hd, hlt⟩ := drop_one hq.eq
      have hgt : (0 : Int) < (bs.length : Int) - (q : Int) := by omega
      have hq2 : Rest bs (q + 1) r2 := ⟨hd, hlt⟩
      replace hS := Lib.hid hS
      replace hq := Lib.hid hq
      replace hq2 := Lib.hid hq2
      replace hB2 := Lib.hid hB2
      replace hno := Lib.hid hno
      replace hd := Lib.hid hd
      generalize (bs.length : Int) - (q : Int) = X at *
      go_wp2_with (first
        | (go_at_call 37; (with_reducible refine cl.mono ?_); rintro e w1 ⟨rfl, rfl⟩)
        | (go_at_call 54; (with_reducible refine cm.mono ?_); rintro e w2 ⟨rfl, h2, f2⟩; have c2 := h2.rdr.cell 0; have cn := rs_next h2; rw [if_pos hlt] at cn; replace f2 := Lib.hid f2; replace h2 := Lib.hid h2)
        | (go_at_call 59; (with_reducible refine cn.mono ?_); rintro e w3 ⟨rfl, h3, f3⟩; replace f3 := Lib.hid f3; replace h3 := Lib.hid h3))
      go_roundw
      case rel => exact ⟨q + 1, r2, hq2.out, hB2.out, h3.out, (hF.out.trans f2.out).trans f3.out⟩
      case measure =>
        rw [h3.out.pos, hpos.out]; omega
def End (w : World) (L R : Nat) (bv : Value) (A : Option Addr) (c : Nat) (bs : List UInt8) (many : Nat) (r : List UInt8) (w' : World) : Prop := (∃ q, RS w' L R bv A c bs q many ∧ Rest bs q r) ∧ Fr L R w w'
theorem Rest.app {bs s r : List UInt8} {p : Nat} (h : Rest bs p (s ++ r)) : Rest bs (p + s.length) r := by
  have := drop_app h.eq h.le
  exact ⟨this.1, this.2⟩
set_option maxHeartbeats 2000000 in
set_option maxRecDepth 100000 in
theorem xml_misc {w : World} {L R c p many : Nat} {bv : Value} {A : Option Addr} {bs r r' : List UInt8} {more : Bool} (h : RS w L R bv A c bs p many) (hr : Rest bs p r) (hM : Misc r more r') :
    Calls Tryd.prog 50 #[.pointer (some ⟨R, 0, none⟩)] w fun e w' => e = .returned (.tuple #[.bool more, .int .i64 0]) ∧ End w L R bv A c bs many r' w' := by
  have c0 := h.rdr.cell 0
  cases hM with
  | com r0 _ hB =>
    have m1 : Calls Tryd.prog 54 #[.pointer (some ⟨L, 0, none⟩), .string ⟨#[60, 33, 45, 45]⟩] w fun e w' => e = .returned (.bool true) ∧ RS w' L R bv A c bs (p + 4) many ∧ Fr L R w w' := rs_yes h ⟨#[60, 33, 45, 45]⟩ r0 (by decide) (by decide) hr.eq
    have hr1 : Rest bs (p + 4) r0 := hr.app
    have m2 : ∀ w1, RS w1 L R bv A c bs (p + 4) many → Calls Tryd.prog 60 #[.pointer (some ⟨R, 0, none⟩), .string ⟨#[45, 45]⟩] w1 fun e w' => e = .returned (.int .i64 0) ∧ (∃ q, RS w' L R bv A c bs q many ∧ Rest bs q (62 :: r')) ∧ Fr L R w1 w' := fun w1 h1 => xml_behind ⟨#[45, 45]⟩ (by decide) (by decide) h1 hr1 hB
    have m3 : ∀ w2 q, RS w2 L R bv A c bs q many → Rest bs q (62 :: r') → Calls Tryd.prog 54 #[.pointer (some ⟨L, 0, none⟩), .string ⟨#[62]⟩] w2 fun e w' => e = .returned (.bool true) ∧ RS w' L R bv A c bs (q + 1) many ∧ Fr L R w2 w' := fun w2 q h2 hq => rs_yes h2 ⟨#[62]⟩ r' (by decide) (by decide) hq.eq
    have cps := fun (w : World) => xml_passed (w := w) true
    simp only [if_true] at cps
    replace m2 := Lib.hid m2
    replace m3 := Lib.hid m3
    clear hr h hr1 hB
    go_enter Tryd.func50, Tryd.ntmps50
    go_wp2_with (first
      | (go_at_call 54; (with_reducible refine m1.mono ?_); rintro e w1 ⟨rfl, h1, f1⟩; have k2 := m2.out w1 h1; replace f1 := Lib.hid f1; replace h1 := Lib.hid h1; clear m1)
      | (go_at_call 60; (with_reducible refine k2.mono ?_); rintro e w2 ⟨rfl, ⟨q, h2, hq⟩, f2⟩; have k3 := m3.out w2 q h2 hq; have c2 := h2.rdr.cell 0; replace f2 := Lib.hid f2; replace h2 := Lib.hid h2; replace hq := Lib.hid hq)
      | (go_at_call 54; (with_reducible refine k3.mono ?_); rintro e w3 ⟨rfl, h3, f3⟩; replace f3 := Lib.hid f3; replace h3 := Lib.hid h3)
      | (go_at_call 41; (with_reducible refine (cps _).mono ?_); rintro e w4 ⟨rfl, rfl⟩))
    go_ret2
    exact ⟨rfl, ⟨_, h3.out, hq.out.app (s := [62])⟩, (f1.out.trans f2.out).trans f3.out⟩
  | ins r0 _ hno hB =>
    have m1 : Calls Tryd.prog 54 #[.pointer (some ⟨L, 0, none⟩), .string ⟨#[60, 33, 45, 45]⟩] w fun e w' => e = .returned (.bool false) ∧ RS w' L R bv A c bs p many ∧ Fr L R w w' := rs_no h ⟨#[60, 33, 45, 45]⟩ (by decide) (by decide) (by rw [hr.eq]; exact hno)
    have m2 : ∀ w1, RS w1 L R bv A c bs p many → Calls Tryd.prog 54 #[.pointer (some ⟨L, 0, none⟩), .string ⟨#[60, 63]⟩] w1 fun e w' => e = .returned (.bool true) ∧ RS w' L R bv A c bs (p + 2) many ∧ Fr L R w1 w' := fun w1 h1 => rs_yes h1 ⟨#[60, 63]⟩ r0 (by decide) (by decide) hr.eq
    have hr1 : Rest bs (p + 2) r0 := hr.app
    have m3 : ∀ w1, RS w1 L R bv A c bs (p + 2) many → Calls Tryd.prog 60 #[.pointer (some ⟨R, 0, none⟩), .string ⟨#[63, 62]⟩] w1 fun e w' => e = .returned (.int .i64 0) ∧ (∃ q, RS w' L R bv A c bs q many ∧ Rest bs q r') ∧ Fr L R w1 w' := fun w1 h1 => xml_behind ⟨#[63, 62]⟩ (by decide) (by decide) h1 hr1 hB
    replace m2 := Lib.hid m2
    replace m3 := Lib.hid m3
    clear hr h hr1 hB hno
    go_enter Tryd.func50, Tryd.ntmps50
    go_wp2_with (first
      | (go_at_call 54; (with_reducible refine m1.mono ?_); rintro e w1 ⟨rfl, h1, f1⟩; have k2 := m2.out w1 h1; have c1 := h1.rdr.cell 0; replace f1 := Lib.hid f1; replace h1 := Lib.hid h1; clear m1)
      | (go_at_call 54; (with_reducible refine k2.mono ?_); rintro e w2 ⟨rfl, h2, f2⟩; have k3 := m3.out w2 h2; replace f2 := Lib.hid f2; replace h2 := Lib.hid h2)
      | (go_at_call 60; (with_reducible refine k3.mono ?_); rintro e w3 ⟨rfl, hq, f3⟩; replace f3 := Lib.hid f3; replace hq := Lib.hid hq))
    go_ret2
    exact ⟨rfl, hq.out, (f1.out.trans f2.out).trans f3.out⟩
  | no _ h1' h2' =>
    have m1 : Calls Tryd.prog 54 #[.pointer (some ⟨L, 0, none⟩), .string ⟨#[60, 33, 45, 45]⟩] w fun e w' => e = .returned (.bool false) ∧ RS w' L R bv A c bs p many ∧ Fr L R w w' := rs_no h ⟨#[60, 33, 45, 45]⟩ (by decide) (by decide) (by rw [hr.eq]; exact h1')
    have m2 : ∀ w1, RS w1 L R bv A c bs p many → Calls Tryd.prog 54 #[.pointer (some ⟨L, 0, none⟩), .string ⟨#[60, 63]⟩] w1 fun e w' => e = .returned (.bool false) ∧ RS w' L R bv A c bs p many ∧ Fr L R w1 w' := fun w1 h1 => rs_no h1 ⟨#[60, 63]⟩ (by decide) (by decide) (by rw [hr.eq]; exact h2')
    replace m2 := Lib.hid m2
    replace hr := Lib.hid hr
    clear h h1' h2'
    go_enter Tryd.func50, Tryd.ntmps50
    go_wp2_with (first
      | (go_at_call 54; (with_reducible refine m1.mono ?_); rintro e w1 ⟨rfl, h1, f1⟩; have k2 := m2.out w1 h1; have c1 := h1.rdr.cell 0; replace f1 := Lib.hid f1; replace h1 := Lib.hid h1; clear m1)
      | (go_at_call 54; (with_reducible refine k2.mono ?_); rintro e w2 ⟨rfl, h2, f2⟩; replace f2 := Lib.hid f2; replace h2 := Lib.hid h2))
    go_ret2
    exact ⟨rfl, ⟨_, h2.out, hr.out⟩, f1.out.trans f2.out⟩
end Go.Proofs.YtgomlebemefdcaaDoor

/- The reader passes what stands around the root; it reads names. No condition. -/
namespace Go.Proofs.YtgomlebemefdcaaDoor
open Go Go.RowKit Go.Wk Go.Xt Go.Xe
theorem behind_len {s r r' : List UInt8} (h : Behind s r r') : r'.length ≤ r.length := by
  induction h with
  | here r => simp
  | next c r r' _ _ ih => simp; omega
theorem misc_len {r r' : List UInt8} (h : Misc r true r') : r'.length < r.length := by
  cases h with
  | com r0 _ hB => have := behind_len hB; simp at this ⊢; omega
  | ins r0 _ _ hB => have := behind_len hB; simp at this ⊢; omega
theorem Rest.len {bs r : List UInt8} {p : Nat} (h : Rest bs p r) : p + r.length = bs.length := by
  have := congrArg List.length h.eq; have := h.le; simp at *; omega
theorem Rest.ws_ {bs r : List UInt8} {p : Nat} (h : Rest bs p r) : Rest bs (p + ws r) (r.drop (ws r)) := by
  have h1 := h.len
  have h2 := ws_le r
  exact ⟨by rw [← h.eq, List.drop_drop], by omega⟩
set_option maxHeartbeats 2000000 in
set_option maxRecDepth 100000 in
theorem xml_around {w : World} {L R c p many : Nat} {bv : Value} {A : Option Addr} {bs r r' : List UInt8} (h : RS w L R bv A c bs p many) (hr : Rest bs p r) (hA : Around r r') :
    Calls Tryd.prog 39 #[.pointer (some ⟨R, 0, none⟩)] w fun e w' => e = .returned (.int .i64 0) ∧ End w L R bv A c bs many r' w' := by
  replace h := Lib.hid h
  replace hr := Lib.hid hr
  replace hA := Lib.hid hA
  go_enter Tryd.func39, Tryd.ntmps39
  go_wp2
  go_loopw [3] (fun _ wr => ∃ q r1, Rest bs q r1 ∧ Around r1 r' ∧ RS wr L R bv A c bs q many ∧ Fr L R w wr) (fun _ wr => bs.length + 1 - posOf L wr)
  case atStart => exact ⟨p, r, hr.out, hA.out, h.out, Fr.refl _ _ _⟩
  case round =>
    obtain ⟨q, r1, hq, hA1, hS, hF⟩ := hrel
    have cb := xml_blank hS hq.eq
    have hq1 := hq.ws_
    have hpos := Lib.hid hS.pos
    replace hF := Lib.hid hF
    replace hS := Lib.hid hS
    clear h hr hA
    cases hA1 with
    | stop _ hM =>
      have cm : ∀ w1, RS w1 L R bv A c bs (q + ws r1) many → Calls Tryd.prog 50 #[.pointer (some ⟨R, 0, none⟩)] w1 fun e w' => e = .returned (.tuple #[.bool false, .int .i64 0]) ∧ End w1 L R bv A c bs many (r1.drop (ws r1)) w' := fun w1 h1 => xml_misc h1 hq1 hM
      replace cm := Lib.hid cm
      clear hq hq1 hM
      generalize hn : ws r1 = n at *
      replace hn := Lib.hid hn
      go_wp2_with (first
        | (go_at_call 49; (with_reducible refine cb.mono ?_); rintro e w1 ⟨rfl, h1, f1⟩; have k1 := cm.out w1 h1; replace f1 := Lib.hid f1; replace h1 := Lib.hid h1)
        | (go_at_call 50; (with_reducible refine k1.mono ?_); rintro e w2 ⟨rfl, h2⟩; replace h2 := Lib.hid h2))
      go_ret
      have h3 := h2.out
      rw [← hn.out] at h3
      exact ⟨rfl, h3.1, (hF.out.trans f1.out).trans h3.2⟩
    | more _ r2 _ hM hA2 =>
      have cm : ∀ w1, RS w1 L R bv A c bs (q + ws r1) many → Calls Tryd.prog 50 #[.pointer (some ⟨R, 0, none⟩)] w1 fun e w' => e = .returned (.tuple #[.bool true, .int .i64 0]) ∧ End w1 L R bv A c bs many r2 w' := fun w1 h1 => xml_misc h1 hq1 hM
      have hl1 := misc_len hM
      have hl2 := hq1.len
      have hl3 := hq.len
      have hl4 := ws_le r1
      replace cm := Lib.hid cm
      replace hA2 := Lib.hid hA2
      replace hl1 := Lib.hid hl1
      replace hl2 := Lib.hid hl2
      replace hl3 := Lib.hid hl3
      replace hl4 := Lib.hid hl4
      clear hq hq1 hM
      generalize hn : ws r1 = n at *
      replace hn := Lib.hid hn
      go_wp2_with (first
        | (go_at_call 49; (with_reducible refine cb.mono ?_); rintro e w1 ⟨rfl, h1, f1⟩; have k1 := cm.out w1 h1; replace f1 := Lib.hid f1; replace h1 := Lib.hid h1)
        | (go_at_call 50; (with_reducible refine k1.mono ?_); rintro e w2 ⟨rfl, h2⟩; replace h2 := Lib.hid h2))
      obtain ⟨⟨q2, hS2, hq2⟩, f2⟩ := h2.out
      go_roundw
      case rel => exact ⟨q2, r2, hq2, hA2.out, hS2, (hF.out.trans f1.out).trans f2⟩
      case measure =>
        rw [hS2.pos, hpos.out]
        have a1 := hl1.out
        have a2 := hl2.out
        have a3 := hl3.out
        have a4 := hl4.out
        have a5 := hq2.len
        simp at a1 a2
        omega
set_option maxHeartbeats 1000000 in
set_option maxRecDepth 100000 in
theorem cur_peekN {w0 w : World} {L : Nat} {A : Option Addr} {c : Nat} {bs : List UInt8} {p : Nat} (n : Nat) (hn : n ≤ 100000) (h : Cur w0 w L A c bs p) :
    Calls Tryd.prog 58 #[.pointer (some ⟨L, 0, none⟩), .int .i64 n] w fun e w' => e = .returned (.int .i64 (peekS bs (p + n))) ∧ Cur w0 w' L A c bs p := by
  have H := Lib.hid h
  obtain ⟨h1, h2, h3, h4, h5, h6, h7, h8⟩ := h
  have hS := Lib.hid (show peekS bs (p + n) = match bs[p + n]? with | some b => (b.toNat : Int) | none => -1 from rfl)
  generalize peekS bs (p + n) = S at *
  have hneg : ¬ (n : Int) < -(p : Int) := by omega
  by_cases hlt : p + n < bs.length
  · obtain ⟨b, o, rfl, hc⟩ := h6.2 (by omega)
    have hck := (h2.cell (p := ⟨b, o + (p + n), none⟩) (show b ≠ L from h1 (by omega) ⟨b, o, none⟩ rfl) (cell_lt (hc (p + n) hlt))).trans (hc (p + n) hlt)
    have hS2 := Lib.hid (show S = (bs[p + n].toNat : Int) by rw [hS.out, List.getElem?_eq_getElem hlt])
    generalize bs[p + n] = x at *
    have hg : ¬ (bs.length : Int) - (p : Int) ≤ (n : Int) := by omega
    clear hc h6 h2 h1
    go_enter Tryd.func58, Tryd.ntmps58
    go_wp2
    · go_quiet (fail)
      go_wp2
      go_ret
      have hxw : wrap64 (x.toNat : Int) = (x.toNat : Int) := by have := u8_lt x; unfold wrap64; omega
      exact ⟨by rw [hS2.out]; exact congrArg (fun z => Ending.returned (.int .i64 z)) hxw, H.out.drawn _⟩
  · have hS2 := Lib.hid (show S = -1 by rw [hS.out, List.getElem?_eq_none (by omega)])
    have hg : (bs.length : Int) - (p : Int) ≤ (n : Int) := by omega
    clear h6 h2 h1
    go_enter Tryd.func58, Tryd.ntmps58
    go_wp2
    go_ret
    exact ⟨by rw [hS2.out]; rfl, H.out⟩
theorem rs_peekN {w : World} {L R c p many : Nat} {bv : Value} {A : Option Addr} {bs : List UInt8} (n : Nat) (hn : n ≤ 100000) (h : RS w L R bv A c bs p many) : Calls Tryd.prog 58 #[.pointer (some ⟨L, 0, none⟩), .int .i64 n] w fun e w' => e = .returned (.int .i64 (peekS bs (p + n))) ∧ RS w' L R bv A c bs p many ∧ Fr L R w w' :=
  (cur_peekN n hn h.cur).mono fun e w' k => ⟨k.1, h.cur_to k.2⟩
end Go.Proofs.YtgomlebemefdcaaDoor

import Derived.Test.YtgomlebemefdcaaDoorAmD
import Derived.ChangeSlices
import Derived.WalkKit
import Derived.OwnWalk
/-! Words for memory, of whatever program: bytes, rows of bytes -/
namespace Go.Wk
open Go Go.RowKit Go.ChangeShapes
theorem cell_lt {w : World} {a : Addr} {v : Value} (h : w.cell? a = some v) : a.block < w.heap.size := by
  rcases Nat.lt_or_ge a.block w.heap.size with h' | h'
  · exact h'
  · unfold World.cell? at h; rw [Array.getElem?_eq_none h'] at h; cases h
theorem add_none (b o j : Nat) : (⟨b, o, none⟩ : Addr).add j = ⟨b, o + j, none⟩ := by unfold Addr.add; split <;> simp_all
/-- bytes that lie at an address, if there are any -/
def Byt (w : World) (A : Option Addr) (bs : List UInt8) : Prop :=
  bs.length ≤ maxLen ∧ (0 < bs.length → ∃ b o, A = some ⟨b, o, none⟩ ∧ ∀ i (h : i < bs.length), w.cell? ⟨b, o + i, none⟩ = some (.int .u8 (bs[i].toNat : Int)))
theorem u8_lt (b : UInt8) : (b.toNat : Int) < 256 := by have := b.toNat_lt; omega
theorem Byt.nil {w : World} {A : Option Addr} : Byt w A [] := ⟨Nat.zero_le _, fun h => by simp at h⟩
theorem Byt.below {w w' : World} {A : Option Addr} {bs : List UInt8} (h : Byt w A bs) (hb : Below w.heap.size w w') : Byt w' A bs := by
  refine ⟨h.1, fun h0 => ?_⟩
  obtain ⟨b, o, e, hc⟩ := h.2 h0
  refine ⟨b, o, e, fun i hi => ?_⟩
  rw [hb.cell (p := ⟨b, o + i, none⟩) (cell_lt (hc i hi))]
  exact hc i hi
/-- a row of bytes, as rows hold them: where each lies, its room, its bytes -/
abbrev Part := Option Addr × Nat × List UInt8
def Parts (w : World) (A : Option Addr) (ps : List Part) : Prop :=
  ps.length ≤ maxLen ∧ (0 < ps.length → ∃ b o, A = some ⟨b, o, none⟩ ∧ ∀ i (h : i < ps.length), w.cell? ⟨b, o + i, none⟩ = some (.slice ps[i].1 ps[i].2.2.length ps[i].2.1)) ∧ ∀ p ∈ ps, Byt w p.1 p.2.2 ∧ (p.1 = none → p.2.1 = 0)
theorem Parts.below {w w' : World} {A : Option Addr} {ps : List Part} (h : Parts w A ps) (hb : Below w.heap.size w w') : Parts w' A ps := by
  refine ⟨h.1, fun h0 => ?_, fun p hp => ⟨(h.2.2 p hp).1.below hb, (h.2.2 p hp).2⟩⟩
  obtain ⟨b, o, e, hc⟩ := h.2.1 h0
  refine ⟨b, o, e, fun i hi => ?_⟩
  rw [hb.cell (p := ⟨b, o + i, none⟩) (cell_lt (hc i hi))]
  exact hc i hi
def valsB (bs : List UInt8) : List Value := bs.map fun b => .int .u8 (b.toNat : Int)
theorem valsB_len (bs : List UInt8) : (valsB bs).length = bs.length := by simp [valsB]
theorem valsB_one (bs : List UInt8) : ∀ u ∈ valsB bs, u.oneCell' = true := by
  intro u hu
  obtain ⟨b, _, rfl⟩ := List.mem_map.1 hu
  rfl
theorem valsB_app (a b : List UInt8) : valsB (a ++ b) = valsB a ++ valsB b := by simp [valsB]
theorem Byt.news {w : World} {a : Addr} {bs : List UInt8} (h : Byt w (some a) bs) : ∀ j u, (valsB bs)[j]? = some u → w.cell? (a.add j) = some u := by
  intro j u hu
  have hj : j < bs.length := by have := (List.getElem?_eq_some_iff.1 hu).1; rwa [valsB_len] at this
  obtain ⟨b, o, e, hc⟩ := h.2 (by omega)
  cases e
  rw [add_none, hc j hj, ← hu]
  simp [valsB, hj]
/-- an own row reads as bytes -/
theorem own_byt {w : World} {B e : Nat} {v : Value} {bs : List UInt8} (h : w.ownsRow B e 1 v bs.length (valsB bs)) : ∃ A c, v = .slice A bs.length c ∧ (bs.length ≤ maxLen → Byt w A bs) := by
  rcases h.2 with ⟨rfl, h0⟩ | ⟨g, cap, cur, rfl, _, hh, hnc, hcm, hsz, htk⟩
  · exact ⟨none, 0, by rw [h0], fun hm => ⟨hm, fun h1 => by omega⟩⟩
  · refine ⟨_, _, rfl, fun hm => ⟨hm, fun h1 => ⟨g, 0, rfl, fun i hi => ?_⟩⟩⟩
    have hv : (valsB bs)[i]? = some (.int .u8 (bs[i].toNat : Int)) := by simp [valsB, hi]
    rw [← htk, List.getElem?_take_of_lt (by omega), Array.getElem?_toList] at hv
    rw [Nat.zero_add]
    unfold World.cell?
    rw [hh]
    simpa using hv

/-! ### What is read -/
section
variable {H : Type} {enc : TypeId × Value → H} {P : Program} {w : World} {base : Nat} {sp : Nat → Bool} {held : Bool}
theorem wf_u8 {n : Int} (h : (Lit.int .u8 n).wf = true) : ∃ b : UInt8, n = (b.toNat : Int) := by
  have : 0 ≤ n ∧ n ≤ 255 := by simpa [Lit.wf, IntKind.min, IntKind.max, IntKind.signed, IntKind.bits] using h
  refine ⟨UInt8.ofNat n.toNat, ?_⟩
  have h2 : n.toNat < 256 := by omega
  rw [UInt8.toNat_ofNat_of_lt' h2]; omega
theorem open_byt {t e fuel : Nat} {cs : List Value} {x : DataW H × List MemPlace} (ht : P.underlying t = some (.slice e)) (he : P.underlying e = some (.int .u8)) (hc : P.cellsOf e = 1) (h : DataW.trod enc P w base sp held fuel t cs = some x) :
    ∃ A c bs, cs = [.slice A (bs : List UInt8).length c] ∧ Byt w A bs ∧ (A = none → c = 0) ∧ (bs : List UInt8).length ≤ c := by
  rcases open_ints ht he hc h with ⟨rfl, _⟩ | ⟨a, len, cap, zs, rfl, _, hlc, hcm, hz, _, hcell, hwf⟩
  · exact ⟨none, 0, [], rfl, Byt.nil, fun _ => rfl, Nat.le_refl _⟩
  · have hlz : len ≤ zs.length := by rw [hz]; split <;> omega
    have hbs : ∃ bs : List UInt8, bs.length = len ∧ ∀ i (h : i < bs.length), zs.getD i 0 = (bs[i].toNat : Int) := by
      refine ⟨(zs.take len).map fun n => UInt8.ofNat n.toNat, by simp; omega, fun i hi => ?_⟩
      have hil : i < len := by simp at hi; omega
      have hiz : i < zs.length := by omega
      obtain ⟨b, hb⟩ := wf_u8 (hwf zs[i] (List.getElem_mem hiz))
      rw [List.getElem_map, List.getElem_take, List.getD_eq_getElem?_getD, List.getElem?_eq_getElem hiz, Option.getD_some, hb]
      simp
    obtain ⟨bs, rfl, hb⟩ := hbs
    refine ⟨some a, cap, bs, rfl, ⟨by omega, fun h0 => ?_⟩, (fun h => by cases h), hlc⟩
    obtain ⟨b, o, spot⟩ := a
    have h1 := hcell 0 (by omega)
    have hspot : spot = none := by simpa [Addr.add] using World.cell?_spot h1
    subst hspot
    refine ⟨b, o, rfl, fun i hi => ?_⟩
    have := hcell i (by omega)
    rw [add_none, hb i hi] at this
    exact this
theorem list_of {α : Type} {n : Nat} {P : Nat → α → Prop} (h : ∀ i, i < n → ∃ x, P i x) : ∃ l : List α, l.length = n ∧ ∀ i (hi : i < l.length), P i l[i] := by
  induction n with
  | zero => exact ⟨[], rfl, fun i hi => by simp at hi⟩
  | succ n ih =>
    obtain ⟨l, h1, h2⟩ := ih fun i hi => h i (by omega)
    obtain ⟨x, hx⟩ := h n (by omega)
    refine ⟨l ++ [x], by simp [h1], fun i hi => ?_⟩
    by_cases hil : i < l.length
    · rw [List.getElem_append_left hil]; exact h2 i hil
    · have : i = l.length := by simp at hi; omega
      subst this
      simp; rw [h1]; exact hx
theorem open_parts {t e u fuel : Nat} {cs : List Value} {x : DataW H × List MemPlace} (ht : P.underlying t = some (.slice e)) (he : P.underlying e = some (.slice u)) (hu : P.underlying u = some (.int .u8)) (hce : P.cellsOf e = 1) (hcu : P.cellsOf u = 1)
    (h : DataW.trod enc P w base sp held fuel t cs = some x) : ∃ A c ps, cs = [.slice A (ps : List Part).length c] ∧ Parts w A ps := by
  rcases DataW.trod_slice ht h with ⟨rfl, _⟩ | ⟨a, len, cap, elems, rest, n, _, rfl, rfl, hb, hl, hm, hlen, hel, _⟩
  · exact ⟨none, 0, [], rfl, Nat.zero_le _, fun h => by simp at h, fun p hp => by simp at hp⟩
  · have each : ∀ i, i < len → ∃ p : Part, w.cell? (a.add i) = some (.slice p.1 p.2.2.length p.2.1) ∧ Byt w p.1 p.2.2 ∧ (p.1 = none → p.2.1 = 0) := by
      intro i hi
      have h1 := hel i hi
      rw [List.getElem?_eq_getElem (by omega), hce, Nat.mul_one] at h1
      cases hcs : w.cells? base (a.add i) 1 with
      | none => rw [hcs] at h1; cases h1
      | some cs =>
        rw [hcs] at h1
        obtain ⟨_, h2, h3⟩ := World.cells?_some hcs
        have h4 := h3 0 (by omega)
        obtain ⟨A, c, bs, rfl, h5, h6, _⟩ := open_byt he hu hcu (show DataW.trod enc P w base sp held n e cs = some _ from h1)
        refine ⟨(A, c, bs), ?_, h5, h6⟩
        have h7 : (a.add i).add 0 = a.add i := by simp [Addr.add]
        rw [h7] at h4
        simpa using h4
    obtain ⟨ps, hps, hp⟩ := list_of each
    subst hps
    refine ⟨some a, cap, ps, rfl, by omega, fun h0 => ?_, fun p hp' => ?_⟩
    · obtain ⟨b, o, spot⟩ := a
      have h1 := (hp 0 h0).1
      have hspot : spot = none := by simpa [Addr.add] using World.cell?_spot h1
      subst hspot
      refine ⟨b, o, rfl, fun i hi => ?_⟩
      have := (hp i hi).1
      rw [add_none] at this; exact this
    · obtain ⟨i, hi, rfl⟩ := List.getElem_of_mem hp'
      exact (hp i hi).2
end
end Go.Wk

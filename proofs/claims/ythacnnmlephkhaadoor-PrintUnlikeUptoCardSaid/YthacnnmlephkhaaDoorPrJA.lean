/- Walks and laws, joined: part A. No condition. -/
import Derived.Test.YthacnnmlephkhaaDoorAmD
import Derived.ChangeSlices
import Derived.WalkKit
import Derived.OwnWalk
import Derived.Shelf.LaysM
import Derived.Shelf.Strconv.Itoa0
import Derived.Shelf.Strconv.Itoa1
import Derived.Shelf.Strconv.Itoa2
import Derived.Shelf.Strconv.Itoa3
import Derived.Shelf.Strconv.Itoa4
import Derived.Shelf.Strings.Trim
import Derived.Test.YthacnnmlephkhaaDoorProg
import Derived.ProofKit
import Derived.Lib.Hide
import Derived.IntWalk
import Derived.Laws.BitsAllLaws
import Derived.RegionTactic
import Derived.Lib.Walk
import Derived.Lib.ItoaMem
import Derived.BigCall
import Derived.BigGuard
import Derived.Deep.QuietTactic
import Derived.BigQuiet
import Derived.Shelf.Small.Strs
import Derived.Shelf.Strings.Search3
import Derived.Shelf.Bytes.SlJoin
import Derived.Maps.AppendAt
import Derived.Laws.AppendOwnNone
import Derived.Lib.AppendStr
import Derived.Lib.ItoaNum
import Derived.Lib.TrimByte
import Derived.Orders
import Derived.Tactics2
import Derived.BigRegion
set_option linter.unusedSimpArgs false
set_option linter.unusedVariables false
/-! Words for memory, of whatever program: bytes, rows of bytes -/
namespace Go.Wk
open Go Go.RowKit Go.ChangeShapes
theorem cell_lt {w : World} {a : Addr} {v : Value} (h : w.cell? a = some v) : a.block < w.heap.size := by
  rcases Nat.lt_or_ge a.block w.heap.size with h' | h'
  · exact h'
  · unfold World.cell? at h; rw [Array.getElem?_eq_none h'] at h; cases h
theorem add_none (b o j : Nat) : (⟨b, o, none⟩ : Addr).add j = ⟨b, o + j, none⟩ := by unfold Addr.add; split <;> simp_all
/-- bytes that lie at an address, if there are any -/
def Byt (w : World) (A : Option Addr) (bs : List UInt8) : Prop :=
  bs.length ≤ maxLen ∧ (0 < bs.length → ∃ b o, A = some ⟨b, o, none⟩ ∧ ∀ i (h : i < bs.length), w.cell? ⟨b, o + i, none⟩ = some (.int .u8 (bs[i].toNat : Int)))
theorem u8_lt (b : UInt8) : (b.toNat : Int) < 256 := by have := b.toNat_lt; omega
theorem Byt.nil {w : World} {A : Option Addr} : Byt w A [] := ⟨Nat.zero_le _, fun h => by simp at h⟩
theorem Byt.below {w w' : World} {A : Option Addr} {bs : List UInt8} (h : Byt w A bs) (hb : Below w.heap.size w w') : Byt w' A bs := by
  refine ⟨h.1, fun h0 => ?_⟩
  obtain ⟨b, o, e, hc⟩ := h.2 h0
  refine ⟨b, o, e, fun i hi => ?_⟩
  rw [hb.cell (p := ⟨b, o + i, none⟩) (cell_lt (hc i hi))]
  exact hc i hi
/-- a row of bytes, as rows hold them: where each lies, its room, its bytes -/
abbrev Part := Option Addr × Nat × List UInt8
def Parts (w : World) (A : Option Addr) (ps : List Part) : Prop :=
  ps.length ≤ maxLen ∧ (0 < ps.length → ∃ b o, A = some ⟨b, o, none⟩ ∧ ∀ i (h : i < ps.length), w.cell? ⟨b, o + i, none⟩ = some (.slice ps[i].1 ps[i].2.2.length ps[i].2.1)) ∧ ∀ p ∈ ps, Byt w p.1 p.2.2 ∧ (p.1 = none → p.2.1 = 0)
theorem Parts.below {w w' : World} {A : Option Addr} {ps : List Part} (h : Parts w A ps) (hb : Below w.heap.size w w') : Parts w' A ps := by
  refine ⟨h.1, fun h0 => ?_, fun p hp => ⟨(h.2.2 p hp).1.below hb, (h.2.2 p hp).2⟩⟩
  obtain ⟨b, o, e, hc⟩ := h.2.1 h0
  refine ⟨b, o, e, fun i hi => ?_⟩
  rw [hb.cell (p := ⟨b, o + i, none⟩) (cell_lt (hc i hi))]
  exact hc i hi
def valsB (bs : List UInt8) : List Value := bs.map fun b => .int .u8 (b.toNat : Int)
theorem valsB_len (bs : List UInt8) : (valsB bs).length = bs.length := by simp [valsB]
theorem valsB_one (bs : List UInt8) : ∀ u ∈ valsB bs, u.oneCell' = true := by
  intro u hu
  obtain ⟨b, _, rfl⟩ := List.mem_map.1 hu
  rfl
theorem valsB_app (a b : List UInt8) : valsB (a ++ b) = valsB a ++ valsB b := by simp [valsB]
theorem Byt.news {w : World} {a : Addr} {bs : List UInt8} (h : Byt w (some a) bs) : ∀ j u, (valsB bs)[j]? = some u → w.cell? (a.add j) = some u := by
  intro j u hu
  have hj : j < bs.length := by have := (List.getElem?_eq_some_iff.1 hu).1; rwa [valsB_len] at this
  obtain ⟨b, o, e, hc⟩ := h.2 (by omega)
  cases e
  rw [add_none, hc j hj, ← hu]
  simp [valsB, hj]
/-- an own row reads as bytes -/
theorem own_byt {w : World} {B e : Nat} {v : Value} {bs : List UInt8} (h : w.ownsRow B e 1 v bs.length (valsB bs)) : ∃ A c, v = .slice A bs.length c ∧ (bs.length ≤ maxLen → Byt w A bs) := by
  rcases h.2 with ⟨rfl, h0⟩ | ⟨g, cap, cur, rfl, _, hh, hnc, hcm, hsz, htk⟩
  · exact ⟨none, 0, by rw [h0], fun hm => ⟨hm, fun h1 => by omega⟩⟩
  · refine ⟨_, _, rfl, fun hm => ⟨hm, fun h1 => ⟨g, 0, rfl, fun i hi => ?_⟩⟩⟩
    have hv : (valsB bs)[i]? = some (.int .u8 (bs[i].toNat : Int)) := by simp [valsB, hi]
    rw [← htk, List.getElem?_take_of_lt (by omega), Array.getElem?_toList] at hv
    rw [Nat.zero_add]
    unfold World.cell?
    rw [hh]
    simpa using hv

/-! ### What is read -/
section
variable {H : Type} {enc : TypeId × Value → H} {P : Program} {w : World} {base : Nat} {sp : Nat → Bool} {held : Bool}
theorem wf_u8 {n : Int} (h : (Lit.int .u8 n).wf = true) : ∃ b : UInt8, n = (b.toNat : Int) := by
  have : 0 ≤ n ∧ n ≤ 255 := by simpa [Lit.wf, IntKind.min, IntKind.max, IntKind.signed, IntKind.bits] using h
  refine ⟨UInt8.ofNat n.toNat, ?_⟩
  have h2 : n.toNat < 256 := by omega
  rw [UInt8.toNat_ofNat_of_lt' h2]; omega
theorem open_byt {t e fuel : Nat} {cs : List Value} {x : DataW H × List MemPlace} (ht : P.underlying t = some (.slice e)) (he : P.underlying e = some (.int .u8)) (hc : P.cellsOf e = 1) (h : DataW.trod enc P w base sp held fuel t cs = some x) :
    ∃ A c bs, cs = [.slice A (bs : List UInt8).length c] ∧ Byt w A bs ∧ (A = none → c = 0) ∧ (bs : List UInt8).length ≤ c := by
  rcases open_ints ht he hc h with ⟨rfl, _⟩ | ⟨a, len, cap, zs, rfl, _, hlc, hcm, hz, _, hcell, hwf⟩
  · exact ⟨none, 0, [], rfl, Byt.nil, fun _ => rfl, Nat.le_refl _⟩
  · have hlz : len ≤ zs.length := by rw [hz]; split <;> omega
    have hbs : ∃ bs : List UInt8, bs.length = len ∧ ∀ i (h : i < bs.length), zs.getD i 0 = (bs[i].toNat : Int) := by
      refine ⟨(zs.take len).map fun n => UInt8.ofNat n.toNat, by simp; omega, fun i hi => ?_⟩
      have hil : i < len := by simp at hi; omega
      have hiz : i < zs.length := by omega
      obtain ⟨b, hb⟩ := wf_u8 (hwf zs[i] (List.getElem_mem hiz))
      rw [List.getElem_map, List.getElem_take, List.getD_eq_getElem?_getD, List.getElem?_eq_getElem hiz, Option.getD_some, hb]
      simp
    obtain ⟨bs, rfl, hb⟩ := hbs
    refine ⟨some a, cap, bs, rfl, ⟨by omega, fun h0 => ?_⟩, (fun h => by cases h), hlc⟩
    obtain ⟨b, o, spot⟩ := a
    have h1 := hcell 0 (by omega)
    have hspot : spot = none := by simpa [Addr.add] using World.cell?_spot h1
    subst hspot
    refine ⟨b, o, rfl, fun i hi => ?_⟩
    have := hcell i (by omega)
    rw [add_none, hb i hi] at this
    exact this
theorem list_of {α : Type} {n : Nat} {P : Nat → α → Prop} (h : ∀ i, i < n → ∃ x, P i x) : ∃ l : List α, l.length = n ∧ ∀ i (hi : i < l.length), P i l[i] := by
  induction n with
  | zero => exact ⟨[], rfl, fun i hi => by simp at hi⟩
  | succ n ih =>
    obtain ⟨l, h1, h2⟩ := ih fun i hi => h i (by omega)
    obtain ⟨x, hx⟩ := h n (by omega)
    refine ⟨l ++ [x], by simp [h1], fun i hi => ?_⟩
    by_cases hil : i < l.length
    · rw [List.getElem_append_left hil]; exact h2 i hil
    · have : i = l.length := by simp at hi; omega
      subst this
      simp; rw [h1]; exact hx
theorem open_parts {t e u fuel : Nat} {cs : List Value} {x : DataW H × List MemPlace} (ht : P.underlying t = some (.slice e)) (he : P.underlying e = some (.slice u)) (hu : P.underlying u = some (.int .u8)) (hce : P.cellsOf e = 1) (hcu : P.cellsOf u = 1)
    (h : DataW.trod enc P w base sp held fuel t cs = some x) : ∃ A c ps, cs = [.slice A (ps : List Part).length c] ∧ Parts w A ps := by
  rcases DataW.trod_slice ht h with ⟨rfl, _⟩ | ⟨a, len, cap, elems, rest, n, _, rfl, rfl, hb, hl, hm, hlen, hel, _⟩
  · exact ⟨none, 0, [], rfl, Nat.zero_le _, fun h => by simp at h, fun p hp => by simp at hp⟩
  · have each : ∀ i, i < len → ∃ p : Part, w.cell? (a.add i) = some (.slice p.1 p.2.2.length p.2.1) ∧ Byt w p.1 p.2.2 ∧ (p.1 = none → p.2.1 = 0) := by
      intro i hi
      have h1 := hel i hi
      rw [List.getElem?_eq_getElem (by omega), hce, Nat.mul_one] at h1
      cases hcs : w.cells? base (a.add i) 1 with
      | none => rw [hcs] at h1; cases h1
      | some cs =>
        rw [hcs] at h1
        obtain ⟨_, h2, h3⟩ := World.cells?_some hcs
        have h4 := h3 0 (by omega)
        obtain ⟨A, c, bs, rfl, h5, h6, _⟩ := open_byt he hu hcu (show DataW.trod enc P w base sp held n e cs = some _ from h1)
        refine ⟨(A, c, bs), ?_, h5, h6⟩
        have h7 : (a.add i).add 0 = a.add i := by simp [Addr.add]
        rw [h7] at h4
        simpa using h4
    obtain ⟨ps, hps, hp⟩ := list_of each
    subst hps
    refine ⟨some a, cap, ps, rfl, by omega, fun h0 => ?_, fun p hp' => ?_⟩
    · obtain ⟨b, o, spot⟩ := a
      have h1 := (hp 0 h0).1
      have hspot : spot = none := by simpa [Addr.add] using World.cell?_spot h1
      subst hspot
      refine ⟨b, o, rfl, fun i hi => ?_⟩
      have := (hp i hi).1
      rw [add_none] at this; exact this
    · obtain ⟨i, hi, rfl⟩ := List.getElem_of_mem hp'
      exact (hp i hi).2
end
end Go.Wk

/- Contracts of the library's functions on numerals, at this program's numbers. No condition. -/
namespace Go.Proofs
open Go.Shelf
def Tryd.lays162_ren : Go.Shelf.Ren := ⟨fun | 162 => 39 | 232 => 52 | 227 => 53 | 234 => 54 | 236 => 55 | 228 => 65 | 271 => 66 | 151 => 67 | 120 => 76 | 197 => 77 | 152 => 78 | 260 => 85 | 137 => 58 | 119 => 86 | 224 => 81 | 225 => 80 | 217 => 68 | 266 => 79 | n => n, fun | 9 => 9 | 4 => 4 | 3 => 3 | 5 => 5 | 117 => 81 | 116 => 80 | 0 => 0 | 124 => 84 | 21 => 21 | 105 => 98 | 46 => 101 | 119 => 116 | 139 => 119 | 138 => 118 | n => n, fun | 3 => 4 | 4 => 5 | n => n⟩
theorem Tryd.lays162 : Go.Proofs.Lays.n162 Tryd.prog Tryd.lays162_ren := {
  mixed := by kernel_rfl
  f119 := Tryd.func86.trans (congrArg some (by kernel_rfl))
  f120 := Tryd.func76.trans (congrArg some (by kernel_rfl))
  f137 := Tryd.func58.trans (congrArg some (by kernel_rfl))
  f151 := Tryd.func67.trans (congrArg some (by kernel_rfl))
  f152 := Tryd.func78.trans (congrArg some (by kernel_rfl))
  f162 := Tryd.func39.trans (congrArg some (by kernel_rfl))
  f197 := Tryd.func77.trans (congrArg some (by kernel_rfl))
  f217 := Tryd.func68.trans (congrArg some (by kernel_rfl))
  f224 := Tryd.func81.trans (congrArg some (by kernel_rfl))
  f225 := Tryd.func80.trans (congrArg some (by kernel_rfl))
  f227 := Tryd.func53.trans (congrArg some (by kernel_rfl))
  f228 := Tryd.func65.trans (congrArg some (by kernel_rfl))
  f232 := Tryd.func52.trans (congrArg some (by kernel_rfl))
  f234 := Tryd.func54.trans (congrArg some (by kernel_rfl))
  f236 := Tryd.func55.trans (congrArg some (by kernel_rfl))
  f260 := Tryd.func85.trans (congrArg some (by kernel_rfl))
  f266 := Tryd.func79.trans (congrArg some (by kernel_rfl))
  f271 := Tryd.func66.trans (congrArg some (by kernel_rfl))
  t0 := Tryd.underlying0
  a0 := Tryd.isAgg0
  z0 := Tryd.sizeOf0
  v0 := Tryd.zeroValue0
  t3 := Tryd.underlying3
  a3 := Tryd.isAgg3
  z3 := Tryd.sizeOf3
  v3 := Tryd.zeroValue3
  t4 := Tryd.underlying4
  a4 := Tryd.isAgg4
  z4 := Tryd.sizeOf4
  v4 := Tryd.zeroValue4
  t5 := Tryd.underlying5
  a5 := Tryd.isAgg5
  z5 := Tryd.sizeOf5
  v5 := Tryd.zeroValue5
  t9 := Tryd.underlying9
  a9 := Tryd.isAgg9
  z9 := Tryd.sizeOf9
  v9 := Tryd.zeroValue9
  t21 := Tryd.underlying21
  a21 := Tryd.isAgg21
  z21 := Tryd.sizeOf21
  v21 := Tryd.zeroValue21
  t46 := Tryd.underlying101
  a46 := Tryd.isAgg101
  z46 := Tryd.sizeOf101
  v46 := Tryd.zeroValue101
  t105 := Tryd.underlying98
  a105 := Tryd.isAgg98
  z105 := Tryd.sizeOf98
  v105 := Tryd.zeroValue98
  t116 := Tryd.underlying80
  a116 := Tryd.isAgg80
  z116 := Tryd.sizeOf80
  t117 := Tryd.underlying81
  a117 := Tryd.isAgg81
  z117 := Tryd.sizeOf81
  v117 := Tryd.zeroValue81
  t119 := Tryd.underlying116
  a119 := Tryd.isAgg116
  z119 := Tryd.sizeOf116
  t124 := Tryd.underlying84
  a124 := Tryd.isAgg84
  z124 := Tryd.sizeOf84
  v124 := Tryd.zeroValue84
  t138 := Tryd.underlying118
  a138 := Tryd.isAgg118
  z138 := Tryd.sizeOf118
  v138 := Tryd.zeroValue118
  t139 := Tryd.underlying119
  a139 := Tryd.isAgg119
  z139 := Tryd.sizeOf119
  v139 := Tryd.zeroValue119
  g3 := by kernel_rfl
  g4 := by kernel_rfl }
open Go.RowKit in
theorem Tryd.strings_TrimRight_one (s : ByteArray) (c : UInt8) (hc : c.toNat < 128) (w : World) (hs : s.size ≤ 9223372036854775807) :
    Calls Tryd.prog 39 #[.string s, .string ⟨#[c]⟩] w fun e w' => e = .returned (.string ⟨(Lib.trimRightB s.data.toList c).toArray⟩) ∧ w' = w := Any.strings_TrimRight_one Tryd.lays162 s c hc w hs
def Tryd.lays283_ren : Go.Shelf.Ren := ⟨fun | 283 => 61 | n => n, fun | 3 => 3 | 9 => 9 | 4 => 4 | n => n, fun | n => n⟩
theorem Tryd.lays283 : Go.Proofs.Lays.n283 Tryd.prog Tryd.lays283_ren := {
  mixed := by kernel_rfl
  f283 := Tryd.func61.trans (congrArg some (by kernel_rfl))
  t3 := Tryd.underlying3
  a3 := Tryd.isAgg3
  z3 := Tryd.sizeOf3
  v3 := Tryd.zeroValue3
  t4 := Tryd.underlying4
  a4 := Tryd.isAgg4
  z4 := Tryd.sizeOf4
  v4 := Tryd.zeroValue4
  t9 := Tryd.underlying9
  a9 := Tryd.isAgg9
  z9 := Tryd.sizeOf9
  v9 := Tryd.zeroValue9 }
open Go.Lib in
theorem Tryd.internal_strconv_small (i : Nat) (h : i < 100) (w : World) :
    Calls Tryd.prog 61 #[.int .i64 i] w fun e w' => e = .returned (.string ⟨(Lib.decDigits i).toArray⟩) ∧ w' = w := Any.internal_strconv_small Tryd.lays283 i h w
def Tryd.laysM284_ren : Go.Shelf.Ren := ⟨fun | 284 => 62 | 129 => 72 | 317 => 71 | 318 => 73 | n => n, fun | 53 => 62 | 3 => 3 | 212 => 105 | 0 => 0 | 4 => 4 | 46 => 101 | 5 => 5 | 9 => 9 | n => n, fun | 17 => 0 | n => n⟩
theorem Tryd.laysM284 : Go.Proofs.LaysM.n284 Tryd.prog Tryd.laysM284_ren := {
  mixed := by kernel_rfl
  f129 := Tryd.func72.trans (congrArg some (by kernel_rfl))
  f284 := Tryd.func62.trans (congrArg some (by kernel_rfl))
  f317 := Tryd.func71.trans (congrArg some (by kernel_rfl))
  f318 := Tryd.func73.trans (congrArg some (by kernel_rfl))
  t0 := Tryd.underlying0
  a0 := Tryd.isAgg0
  z0 := Tryd.sizeOf0
  v0 := Tryd.zeroValue0
  t3 := Tryd.underlying3
  a3 := Tryd.isAgg3
  z3 := Tryd.sizeOf3
  v3 := Tryd.zeroValue3
  t4 := Tryd.underlying4
  a4 := Tryd.isAgg4
  z4 := Tryd.sizeOf4
  v4 := Tryd.zeroValue4
  t5 := Tryd.underlying5
  a5 := Tryd.isAgg5
  z5 := Tryd.sizeOf5
  v5 := Tryd.zeroValue5
  t9 := Tryd.underlying9
  a9 := Tryd.isAgg9
  z9 := Tryd.sizeOf9
  v9 := Tryd.zeroValue9
  t46 := Tryd.underlying101
  a46 := Tryd.isAgg101
  z46 := Tryd.sizeOf101
  v46 := Tryd.zeroValue101
  t53 := Tryd.underlying62
  a53 := Tryd.isAgg62
  z53 := Tryd.sizeOf62
  v53 := Tryd.zeroValue62
  t212 := Tryd.underlying105
  a212 := Tryd.isAgg105
  z212 := Tryd.sizeOf105
  v212 := Tryd.zeroValue105
  g17 := by kernel_rfl
  i0 := by kernel_rfl
  i3 := by kernel_rfl
  i4 := by kernel_rfl
  i5 := by kernel_rfl
  i9 := by kernel_rfl
  i46 := by kernel_rfl
  i53 := by kernel_rfl
  i212 := by kernel_rfl
  m17 := by kernel_rfl }
open Go.Lib in
theorem Tryd.internal_strconv_numDigits (u : Nat) (h1 : 1 ≤ u) (h2 : u < 18446744073709551616) (w : World) (htab : Lib.TabIs Tryd.prog w "internal/strconv.uint64pow10" .u64 Lib.pow10Tab) :
    Calls Tryd.prog 62 #[.int .u64 u] w fun e w' => e = .returned (.int .i64 (Lib.nDigits u)) ∧ w' = w := Any.internal_strconv_numDigits Tryd.laysM284 u h1 h2 w htab
def Tryd.lays285_ren : Go.Shelf.Ren := ⟨fun | 285 => 63 | n => n, fun | 37 => 22 | 53 => 62 | 3 => 3 | 4 => 4 | 51 => 106 | 9 => 9 | 5 => 5 | 0 => 0 | n => n, fun | n => n⟩
theorem Tryd.lays285 : Go.Proofs.Lays.n285 Tryd.prog Tryd.lays285_ren := {
  mixed := by kernel_rfl
  f285 := Tryd.func63.trans (congrArg some (by kernel_rfl))
  t0 := Tryd.underlying0
  a0 := Tryd.isAgg0
  z0 := Tryd.sizeOf0
  v0 := Tryd.zeroValue0
  t3 := Tryd.underlying3
  a3 := Tryd.isAgg3
  z3 := Tryd.sizeOf3
  v3 := Tryd.zeroValue3
  t4 := Tryd.underlying4
  a4 := Tryd.isAgg4
  z4 := Tryd.sizeOf4
  v4 := Tryd.zeroValue4
  t5 := Tryd.underlying5
  a5 := Tryd.isAgg5
  z5 := Tryd.sizeOf5
  v5 := Tryd.zeroValue5
  t9 := Tryd.underlying9
  a9 := Tryd.isAgg9
  z9 := Tryd.sizeOf9
  v9 := Tryd.zeroValue9
  t37 := Tryd.underlying22
  a37 := Tryd.isAgg22
  z37 := Tryd.sizeOf22
  v37 := Tryd.zeroValue22
  t51 := Tryd.underlying106
  a51 := Tryd.isAgg106
  z51 := Tryd.sizeOf106
  v51 := Tryd.zeroValue106
  t53 := Tryd.underlying62
  a53 := Tryd.isAgg62
  z53 := Tryd.sizeOf62
  v53 := Tryd.zeroValue62 }
open Go.RowKit Go.Sort Go.Lib in
theorem Tryd.internal_strconv_formatBase10 (blk off cap : Nat) (u : Nat) (d : Array UInt8) (w : World) (hH : Holds (fun (b : UInt8) => Value.int .u8 (b.toNat : Int)) w blk off d) (hu : u < 10 ^ d.size) (hu64 : u < 18446744073709551616) (hsz : d.size < 4611686018427387904) :
    Calls Tryd.prog 63 #[.slice (some ⟨blk, off, none⟩) d.size cap, .int .u64 u] w fun e w' =>
      e = .returned (.tuple #[]) ∧ ∃ (n v' : Nat) (dk : Array UInt8), w' = (putRow (fun (b : UInt8) => Value.int .u8 (b.toNat : Int)) w blk off dk).drewN n ∧ FmtInv d.size u 0 v' dk := Any.internal_strconv_formatBase10 Tryd.lays285 blk off cap u d w hH hu hu64 hsz
def Tryd.laysM173_ren : Go.Shelf.Ren := ⟨fun | 173 => 37 | 246 => 50 | 283 => 61 | 284 => 62 | 285 => 63 | 286 => 64 | 129 => 72 | 317 => 71 | 318 => 73 | 319 => 74 | 320 => 75 | 337 => 83 | 338 => 84 | n => n, fun | 2 => 2 | 3 => 3 | 9 => 9 | 4 => 4 | 171 => 93 | 0 => 0 | 53 => 62 | 37 => 22 | 5 => 5 | 173 => 96 | 212 => 105 | 51 => 106 | 20 => 20 | 213 => 107 | 46 => 101 | 232 => 114 | 233 => 115 | n => n, fun | 17 => 0 | 18 => 2 | 19 => 3 | n => n⟩
theorem Tryd.laysM173 : Go.Proofs.LaysM.n173 Tryd.prog Tryd.laysM173_ren := {
  mixed := by kernel_rfl
  f129 := Tryd.func72.trans (congrArg some (by kernel_rfl))
  f173 := Tryd.func37.trans (congrArg some (by kernel_rfl))
  f246 := Tryd.func50.trans (congrArg some (by kernel_rfl))
  f283 := Tryd.func61.trans (congrArg some (by kernel_rfl))
  f284 := Tryd.func62.trans (congrArg some (by kernel_rfl))
  f285 := Tryd.func63.trans (congrArg some (by kernel_rfl))
  f286 := Tryd.func64.trans (congrArg some (by kernel_rfl))
  f317 := Tryd.func71.trans (congrArg some (by kernel_rfl))
  f318 := Tryd.func73.trans (congrArg some (by kernel_rfl))
  f319 := Tryd.func74.trans (congrArg some (by kernel_rfl))
  f320 := Tryd.func75.trans (congrArg some (by kernel_rfl))
  f337 := Tryd.func83.trans (congrArg some (by kernel_rfl))
  f338 := Tryd.func84.trans (congrArg some (by kernel_rfl))
  t0 := Tryd.underlying0
  a0 := Tryd.isAgg0
  z0 := Tryd.sizeOf0
  v0 := Tryd.zeroValue0
  t2 := Tryd.underlying2
  a2 := Tryd.isAgg2
  z2 := Tryd.sizeOf2
  v2 := Tryd.zeroValue2
  t3 := Tryd.underlying3
  a3 := Tryd.isAgg3
  z3 := Tryd.sizeOf3
  v3 := Tryd.zeroValue3
  t4 := Tryd.underlying4
  a4 := Tryd.isAgg4
  z4 := Tryd.sizeOf4
  v4 := Tryd.zeroValue4
  t5 := Tryd.underlying5
  a5 := Tryd.isAgg5
  z5 := Tryd.sizeOf5
  v5 := Tryd.zeroValue5
  t9 := Tryd.underlying9
  a9 := Tryd.isAgg9
  z9 := Tryd.sizeOf9
  v9 := Tryd.zeroValue9
  t20 := Tryd.underlying20
  a20 := Tryd.isAgg20
  z20 := Tryd.sizeOf20
  v20 := Tryd.zeroValue20
  t37 := Tryd.underlying22
  a37 := Tryd.isAgg22
  z37 := Tryd.sizeOf22
  v37 := Tryd.zeroValue22
  t46 := Tryd.underlying101
  a46 := Tryd.isAgg101
  z46 := Tryd.sizeOf101
  v46 := Tryd.zeroValue101
  t51 := Tryd.underlying106
  a51 := Tryd.isAgg106
  z51 := Tryd.sizeOf106
  v51 := Tryd.zeroValue106
  t53 := Tryd.underlying62
  a53 := Tryd.isAgg62
  z53 := Tryd.sizeOf62
  v53 := Tryd.zeroValue62
  t171 := Tryd.underlying93
  a171 := Tryd.isAgg93
  z171 := Tryd.sizeOf93
  v171 := Tryd.zeroValue93
  t173 := Tryd.underlying96
  a173 := Tryd.isAgg96
  z173 := Tryd.sizeOf96
  v173 := Tryd.zeroValue96
  t212 := Tryd.underlying105
  a212 := Tryd.isAgg105
  z212 := Tryd.sizeOf105
  v212 := Tryd.zeroValue105
  t213 := Tryd.underlying107
  a213 := Tryd.isAgg107
  z213 := Tryd.sizeOf107
  t232 := Tryd.underlying114
  a232 := Tryd.isAgg114
  z232 := Tryd.sizeOf114
  v232 := Tryd.zeroValue114
  t233 := Tryd.underlying115
  a233 := Tryd.isAgg115
  z233 := Tryd.sizeOf115
  v233 := Tryd.zeroValue115
  g17 := by kernel_rfl
  g18 := by kernel_rfl
  g19 := by kernel_rfl
  i0 := by kernel_rfl
  i2 := by kernel_rfl
  i3 := by kernel_rfl
  i4 := by kernel_rfl
  i5 := by kernel_rfl
  i9 := by kernel_rfl
  i20 := by kernel_rfl
  i37 := by kernel_rfl
  i46 := by kernel_rfl
  i51 := by kernel_rfl
  i53 := by kernel_rfl
  i171 := by kernel_rfl
  i173 := by kernel_rfl
  i212 := by kernel_rfl
  i232 := by kernel_rfl
  i233 := by kernel_rfl
  m17 := by kernel_rfl
  m18 := by kernel_rfl
  m19 := by kernel_rfl }
open Go.RowKit Go.Sort Go.Lib in
theorem Tryd.strconv_FormatInt_10 (n : Int) (h0 : -9223372036854775808 ≤ n) (h1 : n ≤ 9223372036854775807) (w : World) (htab : Lib.TabIs Tryd.prog w "internal/strconv.uint64pow10" .u64 Lib.pow10Tab) :
    Calls Tryd.prog 37 #[.int .i64 n, .int .i64 10] w fun e w' => e = .returned (.string ⟨(Lib.itoa n).toArray⟩) ∧ ∃ k os, w' = grow (w.drewN k) os := Any.strconv_FormatInt_10 Tryd.laysM173 n h0 h1 w htab
end Go.Proofs

/- Words for numbers. No condition. -/
namespace Go.Proofs.YthacnnmlephkhaaDoor
open Go Go.RowKit Go.Wk
def i64 (n : Int) : Prop := -9223372036854775808 ≤ n ∧ n ≤ 9223372036854775807
theorem hidE (a : Int) : ∃ A : Int, Hid (A = a) := ⟨a, Lib.hid rfl⟩
theorem alloc_cell {w : World} {vs : Array Value} {e i : Nat} : (w.alloc (.cells vs e)).cell? ⟨w.heap.size, 0 + i, none⟩ = vs[i]? := by
  have h : (w.alloc (.cells vs e)).heap[w.heap.size]? = some (.cells vs e) := by
    show (w.heap.push _)[w.heap.size]? = _
    simp
  unfold World.cell?
  rw [h, Nat.zero_add]
  rfl
theorem bthen {a b c : World} (h : Below a.heap.size a b) (k : Below b.heap.size b c) : Below a.heap.size a c := h.trans (k.mono h.size)
end Go.Proofs.YthacnnmlephkhaaDoor

/- Fixed: the contract of FormatUint at base 10. No condition. -/
namespace Go.Proofs.YthacnnmlephkhaaDoor
open Go Go.RowKit Go.Wk Go.Sort Go.Lib
theorem holds_zero0 (w : World) (T : TypeId) (nd : Nat) (hs : nd ≤ 24) : Holds (fun (b : UInt8) => Value.int .u8 (b.toNat : Int)) (w.alloc (.cells Lib.zeros24 T)) w.heap.size 0 (Array.replicate nd (0 : UInt8)) := fun j hj => by
  have hj' : j < nd := by simpa using hj
  refine ⟨?_, World.frozen?_alloc_new _ _ _ _⟩
  rw [World.cell?_alloc_new, Lib.zeros24_at _ (by omega), getElem!_pos _ j hj]
  simp
theorem below_grow (w : World) (os : Array Obj) (k : Nat) : Below w.heap.size w ((grow w os).drewN k) :=
  ⟨rfl, rfl, rfl, by show w.heap.size ≤ (grow w os).heap.size; rw [size_grow]; omega, fun j hj => heap_grow_old w os hj⟩
/-- a text of the program, as it stands there -/
abbrev Tab (w : World) : Prop := Lib.TabIs Tryd.prog w "internal/strconv.uint64pow10" .u64 Lib.pow10Tab
set_option maxHeartbeats 2000000 in
set_option maxRecDepth 100000 in
theorem int_FormatUint (u : Nat) (h : u < 18446744073709551616) (w : World) (htab : Tab w) :
    Calls Tryd.prog 51 #[.int .u64 u, .int .i64 10] w fun e w' => e = .returned (.string ⟨(Lib.decDigits u).toArray⟩) ∧ Below w.heap.size w w' := by
  by_cases hs : u < 100
  · have hs2 : (u : Int) < 100 := by omega
    go_enter Tryd.func51, Tryd.ntmps51
    go_wp2_with (go_at_call 61; (with_reducible refine (Tryd.internal_strconv_small u hs _).mono ?_); rintro e w1 ⟨rfl, rfl⟩)
    go_ret
    exact ⟨rfl, Below.refl _ _⟩
  · have hu1 : 1 ≤ u := by omega
    have hnd20 : Lib.nDigits u ≤ 20 := by have := Lib.numDigits_eq u hu1 h; split at this <;> omega
    have hb3 : Lib.nDigits u ≤ 23 := by omega
    have hal : Tryd.prog.arrayLen 93 = 24 := by kernel_rfl
    have hsl1 : ∀ W, (Instr.sliceAt 93 (.pointer (some ⟨w.heap.size, 0, none⟩)) none (some (.int .i64 (Lib.nDigits u : Int))) none).run Tryd.prog W = .ok (.slice (some ⟨w.heap.size, 0, none⟩) (Lib.nDigits u) 24) W := fun W => by
      rw [run_sliceAt_array_h W 93 ⟨w.heap.size, 0, none⟩ (by simp [Program.arrayLen, Program.elem, Tryd.underlying93]) .i64 (Lib.nDigits u : Int) (by omega) (by rw [hal]; omega)]
      go_simp
    have hH0 := holds_zero0 w 93 (Lib.nDigits u) (by omega)
    have hfmt := Tryd.internal_strconv_formatBase10 w.heap.size 0 24 u (Array.replicate (Lib.nDigits u) 0) (w.alloc (.cells Lib.zeros24 93)) hH0 (by rw [Array.size_replicate]; exact Lib.lt_pow_nDigits u) h (by rw [Array.size_replicate]; omega)
    rw [Array.size_replicate] at hfmt
    have HH0 := Lib.hid hH0
    have hnd := Tryd.internal_strconv_numDigits u hu1 h
    have hu3 : ¬ ((u : Int) < 100) := by omega
    clear hH0 hal
    go_enter Tryd.func51, Tryd.ntmps51
    go_wp2_with (go_at_call 62; (with_reducible refine (hnd _ (Lib.tabIs_alloc htab _)).mono ?_); rintro e w1 ⟨rfl, rfl⟩)
    refine hfmt.mono ?_
    rintro e w' ⟨rfl, k, v', dk, rfl, hF⟩
    have hcv : (convert 22 9 (.slice (some ⟨w.heap.size, 0, none⟩) (Lib.nDigits u) 24)).run Tryd.prog ((putRow (fun (b : UInt8) => Value.int .u8 (b.toNat : Int)) (w.alloc (.cells Lib.zeros24 93)) w.heap.size 0 dk).drewN k) = .ok (.string ⟨(Lib.decDigits u).toArray⟩) ((putRow (fun (b : UInt8) => Value.int .u8 (b.toNat : Int)) (w.alloc (.cells Lib.zeros24 93)) w.heap.size 0 dk).drewN k) := by
      have h := run_convert_bytes_back (P := Tryd.prog) ((putRow (fun (b : UInt8) => Value.int .u8 (b.toNat : Int)) (w.alloc (.cells Lib.zeros24 93)) w.heap.size 0 dk).drewN k) 22 9 5 ⟨w.heap.size, 0, none⟩ 24 (Lib.decDigits u) Tryd.underlying22 Tryd.underlying5 Tryd.underlying9 (fun j hj => by
        rw [Lib.add_plain, Lib.row_is_numeral hF j hj, World.cell?_drewN]
        exact cell?_putRow (fun (b : UInt8) => Value.int .u8 (b.toNat : Int)) _ w.heap.size 0 _ dk HH0.out (by rw [hF.size, Array.size_replicate]) j (by rw [hF.size]; rw [Lib.decDigits_length] at hj; exact hj))
      rw [Lib.decDigits_length] at h
      exact h
    have hbel : Below w.heap.size w ((putRow (fun (b : UInt8) => Value.int .u8 (b.toNat : Int)) (w.alloc (.cells Lib.zeros24 93)) w.heap.size 0 dk).drewN k) := by
      rw [alloc_eq_grow]
      obtain ⟨os', _, e⟩ := putRow_grow_new (fun (b : UInt8) => Value.int .u8 (b.toNat : Int)) w #[.cells Lib.zeros24 93] w.heap.size 0 dk (Nat.le_refl _)
      rw [e]
      exact below_grow w os' k
    generalize (putRow (fun (b : UInt8) => Value.int .u8 (b.toNat : Int)) (w.alloc (.cells Lib.zeros24 93)) w.heap.size 0 dk).drewN k = W at *
    go_wp2
    go_ret
    exact ⟨rfl, hbel⟩
set_option maxHeartbeats 400000 in
theorem str_FormatUint (u : Nat) (h : u < 18446744073709551616) (w : World) (htab : Tab w) :
    Calls Tryd.prog 38 #[.int .u64 u, .int .i64 10] w fun e w' => e = .returned (.string ⟨(Lib.decDigits u).toArray⟩) ∧ Below w.heap.size w w' := by
  have c := int_FormatUint u h w htab
  go_enter Tryd.func38, Tryd.ntmps38
  go_wp2_with (go_at_call 51; (with_reducible refine c.mono ?_); rintro e w1 ⟨rfl, hw1⟩)
  go_ret
  exact ⟨rfl, hw1⟩
end Go.Proofs.YthacnnmlephkhaaDoor

/- Fixed: the contracts of both Text. No condition. -/
namespace Go.Proofs.YthacnnmlephkhaaDoor
open Go Go.RowKit Go.Wk Go.Sort Go.Lib
theorem Tab.below {w w' : World} (h : Tab w) (hb : Below w.heap.size w w') : Tab w' := by
  unfold Tab TabIs World.var? at *
  cases hg : Tryd.prog.globalNamed "internal/strconv.uint64pow10" with
  | none => simp [hg] at h
  | some g =>
    simp only [hg, Option.bind_some] at h ⊢
    have hlt : g < w.heap.size := by
      rcases Nat.lt_or_ge g w.heap.size with h' | h'
      · exact h'
      · rw [Array.getElem?_eq_none h'] at h; simp at h
    rw [hb.block g hlt]
    exact h
theorem below_drawn (w : World) (n : Nat) : Below w.heap.size w (w.drewN n) := ⟨rfl, rfl, rfl, Nat.le_refl _, fun _ _ => rfl⟩
def str (l : List UInt8) : Value := .string ⟨l.toArray⟩
theorem str_FormatInt (n : Int) (h : i64 n) (w : World) (htab : Tab w) :
    Calls Tryd.prog 37 #[.int .i64 n, .int .i64 10] w fun e w' => e = .returned (.string ⟨(Lib.itoa n).toArray⟩) ∧ Below w.heap.size w w' := by
  refine (Tryd.strconv_FormatInt_10 n h.1 h.2 w htab).mono ?_
  rintro e w' ⟨rfl, k, os, rfl⟩
  exact ⟨rfl, below_grow w os k⟩
def fracL (r : Nat) : List UInt8 := ((decDigits (100000 + r)).drop 1).take 1 ++ trimRightB (((decDigits (100000 + r)).drop 1).drop 1) 48
/-- a number's text -/
def textL (n : Int) (whole : Bool) : List UInt8 := if whole then itoa n else (if n < 0 then [45] else []) ++ (decDigits (n.natAbs / 100000) ++ (46 :: fracL (n.natAbs % 100000)))
theorem bytes_ext {a b : ByteArray} (h : a.data.toList = b.data.toList) : a = b := by
  cases a; cases b; simp at h; rw [h]
theorem bytes_app (a b : ByteArray) : (a ++ b).data.toList = a.data.toList ++ b.data.toList := by simp
theorem bytes_cut (a : ByteArray) (i j : Nat) : (a.extract i j).data.toList = (a.data.toList.take j).drop i := by
  simp [ByteArray.data_extract, Array.toList_extract, List.extract]
  rw [List.drop_take]
theorem six (r : Nat) (h : r < 100000) : (decDigits (100000 + r)).length = 6 := by
  rw [decDigits_length]
  exact nDigits_unique 5 _ (by omega) (by omega)
theorem trim_le (l : List UInt8) (c : UInt8) : (trimRightB l c).length ≤ l.length := by
  unfold trimRightB
  rw [List.length_reverse]
  have := (List.dropWhile_sublist (fun x => x == c) (l := l.reverse)).length_le
  simpa using this
set_option maxHeartbeats 1000000 in
theorem fixed_Text (n : Int) (h : i64 n) (w : World) (htab : Tab w) :
    Calls Tryd.prog 22 #[.int .i64 n, .bool false] w fun e w' => e = .returned (str (textL n false)) ∧ Below w.heap.size w w' := by
  obtain ⟨m, hm⟩ : ∃ m, m = n.natAbs := ⟨_, rfl⟩
  have hm2 : m ≤ 9223372036854775808 := by unfold i64 at h; omega
  have f1 := fun w htab => str_FormatUint (100000 + m % 100000) (by omega) w htab
  have f2 := fun w htab => str_FormatUint (m / 100000) (by omega) w htab
  obtain ⟨P, hP⟩ : ∃ P : ByteArray, P = ⟨(decDigits (100000 + m % 100000)).toArray⟩ := ⟨_, rfl⟩
  have hPs : P.size = 6 := by rw [hP]; show (decDigits (100000 + m % 100000)).toArray.size = 6; rw [List.size_toArray]; exact six _ (Nat.mod_lt _ (by omega))
  have hDl : (decDigits (m / 100000)).length ≤ 20 := by
    rw [decDigits_length]
    by_cases h0 : m / 100000 = 0
    · rw [h0, nDigits_small (by omega)]; omega
    · have := Lib.numDigits_eq (m / 100000) (by omega) (by omega); split at this <;> omega
  obtain ⟨S, hS⟩ : ∃ S, S = textL n false := ⟨_, rfl⟩
  rw [← hS]
  have hS := Lib.hid (show S = (if n < 0 then [45] else []) ++ (decDigits (m / 100000) ++ (46 :: fracL (m % 100000))) by rw [hS, hm]; rfl)
  have hfr := Lib.hid (show fracL (m % 100000) = ((decDigits (100000 + m % 100000)).drop 1).take 1 ++ trimRightB (((decDigits (100000 + m % 100000)).drop 1).drop 1) 48 from rfl)
  generalize fracL (m % 100000) = F at *
  rw [← hP] at f1
  replace hP := Lib.hid hP
  obtain ⟨h1, h2⟩ := h
  obtain ⟨U, hU⟩ := hidE (m : Int)
  have g1 : ∀ w, Tab w → Calls Tryd.prog 38 #[.int .u64 (100000 + U % 100000), .int .i64 10] w fun e w' => e = .returned (.string P) ∧ Below w.heap.size w w' := by
    intro w ht; have := f1 w ht; rw [hU.out]
    rwa [show ((100000 + m % 100000 : Nat) : Int) = 100000 + (m : Int) % 100000 by omega] at this
  have g2 : ∀ w, Tab w → Calls Tryd.prog 38 #[.int .u64 (U / 100000), .int .i64 10] w fun e w' => e = .returned (str (decDigits (m / 100000))) ∧ Below w.heap.size w w' := by
    intro w ht; have := f2 w ht; rw [hU.out]
    rwa [show ((m / 100000 : Nat) : Int) = (m : Int) / 100000 by omega] at this
  have hU0 : 0 ≤ U ∧ U ≤ 9223372036854775808 := by rw [hU.out]; omega
  generalize decDigits (m / 100000) = D at *
  clear f1 f2
  have G1 := Lib.hid g1
  have G2 := Lib.hid g2
  clear g1 g2
  by_cases hn : n < 0
  · have e1 : IntKind.u64.wrap (-IntKind.u64.wrap n) = U := by rw [hU.out, IntKind.wrap_u64, IntKind.wrap_u64]; omega
    clear hm hm2
    go_enter Tryd.func22, Tryd.ntmps22
    go_wp2_with (first
      | (go_at_call 38; (with_reducible refine (G1.out _ htab).mono ?_); rintro e w1 ⟨rfl, hw1⟩; have ht1 := htab.below hw1; have g2 := G2.out _ ht1; clear htab)
      | (go_at_call 38; (with_reducible refine g2.mono ?_); rintro e w2 ⟨rfl, hw2⟩))
    have hEs : (P.extract 1 6).size = 5 := by rw [ByteArray.size_extract]; omega
    generalize hE : P.extract 1 6 = E at *
    replace hE := Lib.hid hE
    have tr := fun w => Tryd.strings_TrimRight_one (E.extract 1 5) 48 (by decide) w (by rw [ByteArray.size_extract]; omega)
    obtain ⟨T, hT⟩ : ∃ T : ByteArray, T = ⟨(trimRightB (E.extract 1 5).data.toList 48).toArray⟩ := ⟨_, rfl⟩
    rw [← hT] at tr
    replace hT := Lib.hid hT
    have hTs : T.size ≤ 4 := by
      rw [hT.out]
      show (trimRightB (E.extract 1 5).data.toList 48).toArray.size ≤ 4
      rw [List.size_toArray]
      refine Nat.le_trans (trim_le _ _) ?_
      have : (E.extract 1 5).data.toList.length = (E.extract 1 5).size := by simp; omega
      rw [this, ByteArray.size_extract]; omega
    have hTs2 : ¬ 9223372036854775807 < 1 + T.size := by omega
    go_quiet ((go_at_call 39; refine Calls.quiet_of_same (tr _)))
    have hb1 := below_drawn w1 nq
    go_wp2_with (go_at_call 38; (with_reducible refine (G2.out _ (ht1.below hb1)).mono ?_); rintro e w2 ⟨rfl, hw2⟩; unfold str)
    go_ret
    refine ⟨?_, bthen (bthen hw1 hb1) hw2⟩
    unfold str
    refine congrArg (fun b => Ending.returned (.string b)) (bytes_ext ?_)
    rw [hS.out, if_pos hn]
    have hEd : E.data.toList = (decDigits (100000 + m % 100000)).drop 1 := by
      rw [← hE.out, bytes_cut, hP.out]
      show ((decDigits (100000 + m % 100000)).take 6).drop 1 = _
      rw [List.take_of_length_le (by rw [six _ (Nat.mod_lt _ (by omega))]; omega)]
    have hEl : E.data.toList.length = 5 := by rw [hEd, List.length_drop, six _ (Nat.mod_lt _ (by omega))]
    have hTd : T.data.toList = trimRightB (E.data.toList.drop 1) 48 := by
      rw [hT.out]
      show trimRightB (E.extract 1 5).data.toList 48 = _
      rw [bytes_cut, List.take_of_length_le (by omega)]
    have hF : (E.extract 0 1 ++ T).data.toList = F := by
      rw [hfr.out, bytes_app, bytes_cut, hTd, hEd]; rfl
    rw [bytes_app, bytes_app, bytes_app, hF]
    simp
  · have e1 : IntKind.u64.wrap n = U := by rw [hU.out, IntKind.wrap_u64]; omega
    clear hm hm2
    go_enter Tryd.func22, Tryd.ntmps22
    go_wp2_with (first
      | (go_at_call 38; (with_reducible refine (G1.out _ htab).mono ?_); rintro e w1 ⟨rfl, hw1⟩; have ht1 := htab.below hw1; have g2 := G2.out _ ht1; clear htab)
      | (go_at_call 38; (with_reducible refine g2.mono ?_); rintro e w2 ⟨rfl, hw2⟩))
    have hEs : (P.extract 1 6).size = 5 := by rw [ByteArray.size_extract]; omega
    generalize hE : P.extract 1 6 = E at *
    replace hE := Lib.hid hE
    have tr := fun w => Tryd.strings_TrimRight_one (E.extract 1 5) 48 (by decide) w (by rw [ByteArray.size_extract]; omega)
    obtain ⟨T, hT⟩ : ∃ T : ByteArray, T = ⟨(trimRightB (E.extract 1 5).data.toList 48).toArray⟩ := ⟨_, rfl⟩
    rw [← hT] at tr
    replace hT := Lib.hid hT
    have hTs : T.size ≤ 4 := by
      rw [hT.out]
      show (trimRightB (E.extract 1 5).data.toList 48).toArray.size ≤ 4
      rw [List.size_toArray]
      refine Nat.le_trans (trim_le _ _) ?_
      have : (E.extract 1 5).data.toList.length = (E.extract 1 5).size := by simp; omega
      rw [this, ByteArray.size_extract]; omega
    have hTs2 : ¬ 9223372036854775807 < 1 + T.size := by omega
    go_quiet ((go_at_call 39; refine Calls.quiet_of_same (tr _)))
    have hb1 := below_drawn w1 nq
    go_wp2_with (go_at_call 38; (with_reducible refine (G2.out _ (ht1.below hb1)).mono ?_); rintro e w2 ⟨rfl, hw2⟩; unfold str)
    go_ret
    refine ⟨?_, bthen (bthen hw1 hb1) hw2⟩
    unfold str
    refine congrArg (fun b => Ending.returned (.string b)) (bytes_ext ?_)
    rw [hS.out, if_neg (by omega)]
    have hEd : E.data.toList = (decDigits (100000 + m % 100000)).drop 1 := by
      rw [← hE.out, bytes_cut, hP.out]
      show ((decDigits (100000 + m % 100000)).take 6).drop 1 = _
      rw [List.take_of_length_le (by rw [six _ (Nat.mod_lt _ (by omega))]; omega)]
    have hEl : E.data.toList.length = 5 := by rw [hEd, List.length_drop, six _ (Nat.mod_lt _ (by omega))]
    have hTd : T.data.toList = trimRightB (E.data.toList.drop 1) 48 := by
      rw [hT.out]
      show trimRightB (E.extract 1 5).data.toList 48 = _
      rw [bytes_cut, List.take_of_length_le (by omega)]
    have hF : (E.extract 0 1 ++ T).data.toList = F := by
      rw [hfr.out, bytes_app, bytes_cut, hTd, hEd]; rfl
    rw [bytes_app, bytes_app, bytes_app, hF]
    simp
set_option maxHeartbeats 400000 in
theorem fixed_Text_whole (n : Int) (h : i64 n) (w : World) (htab : Tab w) :
    Calls Tryd.prog 22 #[.int .i64 n, .bool true] w fun e w' => e = .returned (str (textL n true)) ∧ Below w.heap.size w w' := by
  have c := str_FormatInt n h w htab
  have hS : textL n true = itoa n := rfl
  rw [hS]
  generalize itoa n = S at *
  go_enter Tryd.func22, Tryd.ntmps22
  go_wp2_with (go_at_call 37; (with_reducible refine c.mono ?_); rintro e w1 ⟨rfl, hw1⟩)
  go_ret
  exact ⟨rfl, hw1⟩
end Go.Proofs.YthacnnmlephkhaaDoor

/- Fixed: the contracts of the reference's digits and Text. No condition. -/
namespace Go.Proofs.YthacnnmlephkhaaDoor
open Go Go.RowKit Go.Wk Go.Sort Go.Lib
theorem conv_one (w : World) (d : UInt8) (x : Int) (h : (d.toNat : Int) = x) : (convert 22 9 (.slice (some ⟨w.heap.size, 0, none⟩) 1 1)).run Tryd.prog (w.alloc (.cells #[.int .u8 x] 5)) = .ok (.string ⟨#[d]⟩) (w.alloc (.cells #[.int .u8 x] 5)) := by
  subst h
  have h := run_convert_bytes_back (P := Tryd.prog) (w.alloc (.cells #[.int .u8 (d.toNat : Int)] 5)) 22 9 5 ⟨w.heap.size, 0, none⟩ 1 [d] Tryd.underlying22 Tryd.underlying5 Tryd.underlying9 (fun j hj => by
    have : j = 0 := by simpa using hj
    subst this
    rw [Lib.add_plain, alloc_cell]; rfl)
  exact h
theorem byte_at (G : ByteArray) (i : Nat) (h : i < G.size) : G.data.toList[i]? = some G[i] := by
  have h2 : i < G.data.size := h
  rw [Array.getElem?_toList, Array.getElem?_eq_getElem h2]; rfl
theorem frac_cut (p : List UInt8) (k : Nat) (h1 : 1 ≤ k) (h5 : k ≤ p.length) (hz : ∀ j b, k ≤ j → p[j]? = some b → b = 48) (hl : k = 1 ∨ ∃ b, p[k - 1]? = some b ∧ b ≠ 48) : p.take k = p.take 1 ++ trimRightB (p.drop 1) 48 := by
  rw [trimRightB_take (p.drop 1) 48 (k - 1) (by rw [List.length_drop]; omega) ?_ ?_]
  · rw [← List.take_add]; congr 1; omega
  · intro j b hj hb
    rw [List.getElem?_drop] at hb
    exact hz (1 + j) b (by omega) hb
  · intro b hk hb
    rcases hl with rfl | ⟨b', hb', hne⟩
    · omega
    · rw [List.getElem?_drop, show 1 + (k - 1 - 1) = k - 1 by omega, hb'] at hb
      cases hb; exact hne
end Go.Proofs.YthacnnmlephkhaaDoor

/- Contracts of the library's functions on bytes and strings, at this program's numbers. No condition. -/
namespace Go.Proofs
open Go.Shelf
def Tryd.lays137_ren : Go.Shelf.Ren := ⟨fun | 137 => 58 | 217 => 68 | 266 => 79 | n => n, fun | 9 => 9 | 5 => 5 | 3 => 3 | n => n, fun | n => n⟩
theorem Tryd.lays137 : Go.Proofs.Lays.n137 Tryd.prog Tryd.lays137_ren := {
  mixed := by kernel_rfl
  f137 := Tryd.func58.trans (congrArg some (by kernel_rfl))
  f217 := Tryd.func68.trans (congrArg some (by kernel_rfl))
  f266 := Tryd.func79.trans (congrArg some (by kernel_rfl))
  t3 := Tryd.underlying3
  a3 := Tryd.isAgg3
  z3 := Tryd.sizeOf3
  v3 := Tryd.zeroValue3
  t5 := Tryd.underlying5
  a5 := Tryd.isAgg5
  z5 := Tryd.sizeOf5
  v5 := Tryd.zeroValue5
  t9 := Tryd.underlying9
  a9 := Tryd.isAgg9
  z9 := Tryd.sizeOf9
  v9 := Tryd.zeroValue9 }
open Go.RowKit in
theorem Tryd.strings_IndexByte (s : ByteArray) (c : Int) (w : World) :
    Calls Tryd.prog 58 #[.string s, .int .u8 c] w fun e w' => e = .returned (.int .i64 (Lib.indexByte s.data.toList c.toNat.toUInt8)) ∧ w' = w := Any.strings_IndexByte Tryd.lays137 s c w
def Tryd.lays144_ren : Go.Shelf.Ren := ⟨fun | 144 => 45 | 143 => 60 | 219 => 70 | 217 => 68 | 225 => 80 | 224 => 81 | 267 => 82 | 266 => 79 | 314 => 87 | n => n, fun | 9 => 9 | 4 => 4 | 3 => 3 | 5 => 5 | 46 => 101 | 146 => 112 | 51 => 106 | n => n, fun | 1 => 1 | n => n⟩
theorem Tryd.lays144 : Go.Proofs.Lays.n144 Tryd.prog Tryd.lays144_ren := {
  mixed := by kernel_rfl
  f143 := Tryd.func60.trans (congrArg some (by kernel_rfl))
  f144 := Tryd.func45.trans (congrArg some (by kernel_rfl))
  f217 := Tryd.func68.trans (congrArg some (by kernel_rfl))
  f219 := Tryd.func70.trans (congrArg some (by kernel_rfl))
  f224 := Tryd.func81.trans (congrArg some (by kernel_rfl))
  f225 := Tryd.func80.trans (congrArg some (by kernel_rfl))
  f266 := Tryd.func79.trans (congrArg some (by kernel_rfl))
  f267 := Tryd.func82.trans (congrArg some (by kernel_rfl))
  f314 := Tryd.func87.trans (congrArg some (by kernel_rfl))
  t3 := Tryd.underlying3
  a3 := Tryd.isAgg3
  z3 := Tryd.sizeOf3
  v3 := Tryd.zeroValue3
  t4 := Tryd.underlying4
  a4 := Tryd.isAgg4
  z4 := Tryd.sizeOf4
  v4 := Tryd.zeroValue4
  t5 := Tryd.underlying5
  a5 := Tryd.isAgg5
  z5 := Tryd.sizeOf5
  v5 := Tryd.zeroValue5
  t9 := Tryd.underlying9
  a9 := Tryd.isAgg9
  z9 := Tryd.sizeOf9
  v9 := Tryd.zeroValue9
  t46 := Tryd.underlying101
  a46 := Tryd.isAgg101
  z46 := Tryd.sizeOf101
  v46 := Tryd.zeroValue101
  t51 := Tryd.underlying106
  a51 := Tryd.isAgg106
  z51 := Tryd.sizeOf106
  v51 := Tryd.zeroValue106
  t146 := Tryd.underlying112
  a146 := Tryd.isAgg112
  z146 := Tryd.sizeOf112
  v146 := Tryd.zeroValue112
  g1 := by kernel_rfl }
open Go.RowKit Go.Lib in
theorem Tryd.strings_Contains_one (s : ByteArray) (c : UInt8) (w : World) :
    Calls Tryd.prog 45 #[.string s, .string ⟨#[c]⟩] w fun e w' => e = .returned (.bool (decide (0 ≤ Lib.indexByte s.data.toList c))) ∧ w' = w := Any.strings_Contains_one Tryd.lays144 s c w
def Tryd.laysSlJ14_ren : Go.Shelf.Ren := ⟨fun | 14 => 59 | 15 => 69 | n => n, fun | 26 => 86 | 22 => 22 | 3 => 3 | 4 => 4 | 0 => 0 | 9 => 9 | 20 => 20 | 5 => 5 | n => n, fun | n => n⟩
theorem Tryd.laysSlJ14 : Go.Proofs.SlLaysJ.n14 Tryd.prog Tryd.laysSlJ14_ren := {
  mixed := by kernel_rfl
  f14 := Tryd.func59.trans (congrArg some (by kernel_rfl))
  f15 := Tryd.func69.trans (congrArg some (by kernel_rfl))
  t0 := Tryd.underlying0
  a0 := Tryd.isAgg0
  z0 := Tryd.sizeOf0
  v0 := Tryd.zeroValue0
  t3 := Tryd.underlying3
  a3 := Tryd.isAgg3
  z3 := Tryd.sizeOf3
  v3 := Tryd.zeroValue3
  t4 := Tryd.underlying4
  a4 := Tryd.isAgg4
  z4 := Tryd.sizeOf4
  v4 := Tryd.zeroValue4
  t9 := Tryd.underlying9
  a9 := Tryd.isAgg9
  z9 := Tryd.sizeOf9
  v9 := Tryd.zeroValue9
  t20 := Tryd.underlying20
  a20 := Tryd.isAgg20
  z20 := Tryd.sizeOf20
  v20 := Tryd.zeroValue20
  t22 := Tryd.underlying22
  a22 := Tryd.isAgg22
  z22 := Tryd.sizeOf22
  v22 := Tryd.zeroValue22
  t26 := Tryd.underlying86
  a26 := Tryd.isAgg86
  z26 := Tryd.sizeOf86
  v26 := Tryd.zeroValue86
  t5 := Tryd.underlying5
  z5 := Tryd.sizeOf5
  i5 := by kernel_rfl }
open Go.RowKit Go.Lib in
theorem Tryd.bytes_Join_many (b o n c : Nat) (vs : List Value) (ls : List (List UInt8)) (sv : Value) (sep : List UInt8) (w : World) (hn : ls.length = n) (h2 : 2 ≤ n) (hP : Lib.PartsAt w ⟨b, o, none⟩ vs ls) (hcap : n ≤ c) (hS : Lib.HoldsBytes w sv sep) (hn47 : n ≤ 140737488355328) (hlen : Lib.lens ls + sep.length * (n - 1) ≤ 140737488355328) :
    Calls Tryd.prog 59 #[.slice (some ⟨b, o, none⟩) n c, sv] w fun e w' => ∃ v', e = .returned v' ∧ Lib.FreshBytes w.heap.size w' v' (Lib.join ls sep) ∧ Below w.heap.size w w' := Any.bytes_Join_many Tryd.laysSlJ14 b o n c vs ls sv sep w hn h2 hP hcap hS hn47 hlen
end Go.Proofs

/- Bytes appended to bytes. No condition. -/
namespace Go.Proofs.YthacnnmlephkhaaDoor
open Go Go.RowKit Go.Wk
/-- own bytes: a row that nobody else names -/
structure Own (B : Nat) (w : World) (v : Value) (bs : List UInt8) : Prop where
  row : w.ownsRow B 5 1 v bs.length (valsB bs)
theorem Own.nil (B : Nat) (w : World) : Own B w (.slice none 0 0) [] := ⟨World.ownsRow_nil _ _ _ _⟩
theorem Own.out {B : Nat} {w : World} {v : Value} {bs : List UInt8} (h : Own B w v bs) (hm : bs.length ≤ maxLen) : ∃ A c, v = .slice A bs.length c ∧ Byt w A bs ∧ (A = none → c = 0) := by
  obtain ⟨A, c, rfl, hb⟩ := own_byt h.row
  refine ⟨A, c, rfl, hb hm, ?_⟩
  rintro rfl
  rcases h.row.2 with ⟨e, _⟩ | ⟨g, cap, cur, e, _⟩
  · injection e
  · injection e with e; cases e
theorem Own.base {B B' : Nat} {w : World} {v : Value} {bs : List UInt8} (h : Own B' w v bs) (hB : B ≤ B') : Own B w v bs := by
  refine ⟨h.row.1, ?_⟩
  rcases h.row.2 with h2 | ⟨g, cap, cur, e, hB', rest⟩
  · exact .inl h2
  · exact .inr ⟨g, cap, cur, e, Nat.le_trans hB hB', rest⟩
theorem Own.below {B : Nat} {w w' : World} {v : Value} {bs : List UInt8} (h : Own B w v bs) (hb : Below w.heap.size w w') : Own B w' v bs := by
  refine ⟨h.row.1, ?_⟩
  rcases h.row.2 with h2 | ⟨g, cap, cur, e, hB, hh, rest⟩
  · exact .inl h2
  · exact .inr ⟨g, cap, cur, e, hB, (hb.block g (Array.getElem?_eq_some_iff.1 hh).1).trans hh, rest⟩
/-- a result: bytes -/
def RB (w : World) (bs : List UInt8) (e : Ending) (w' : World) : Prop := ∃ A c, e = .returned (.slice A bs.length c) ∧ Byt w' A bs ∧ (A = none → c = 0) ∧ Below w.heap.size w w'
def RO (w : World) (bs : List UInt8) (e : Ending) (w' : World) : Prop := ∃ v, e = .returned v ∧ Own w.heap.size w' v bs ∧ Below w.heap.size w w'
theorem RO.rb {w w' : World} {bs : List UInt8} {e : Ending} (h : RO w bs e w') (hm : bs.length ≤ maxLen) : RB w bs e w' := by
  obtain ⟨v, rfl, h1, h2⟩ := h
  obtain ⟨A, c, rfl, h3, h4⟩ := h1.out hm
  exact ⟨A, c, rfl, h3, h4, h2⟩
theorem byte_info : ∃ i, Tryd.prog.info? 5 = some i ∧ i.zero = some (.int .u8 0) ∧ i.size = 1 ∧ i.bytes = 1 := ⟨Tryd.t5, by kernel_rfl, by kernel_rfl, by kernel_rfl, by kernel_rfl⟩
/-- bytes behind own bytes -/
theorem app_b {w : World} {ops : Array Oper} {rest : List Oper} {o : Oper} {a : Act} {Q : Exit → Act → World → Prop} (hgd : o.guard = none) (s x : Operand)
    (ho : o.op = .call { callee := .builtin .append, args := #[s, x], argTypes := #[22, 22] }) (B : Nat) (v : Value) (out : List UInt8) (hs : a.eval s = v) (hown : Own B w v out)
    (A : Option Addr) (n c : Nat) (bs : List UInt8) (hx : a.eval x = .slice A n c) (hn : n = bs.length) (hb : Byt w A bs) (hA : A = none → c = 0) (hl : out.length + bs.length ≤ 70368744177664) (hB : B ≤ w.heap.size)
    (h : ∀ v' w', Own B w' v' (out ++ bs) → Below B w w' → wpList Tryd.prog ops Q rest (a.put o.dst v') w') : wpList Tryd.prog ops Q (o :: rest) a w := by
  obtain ⟨i0, hi, hz0, hz1, hz2⟩ := byte_info
  cases A with
  | none =>
    have hbs : bs = [] := by
      cases bs with
      | nil => rfl
      | cons y l => obtain ⟨b, o, e, _⟩ := hb.2 (by simp); cases e
    subst hbs
    have hc := hA rfl
    subst hc
    obtain rfl : n = 0 := hn
    refine wpList_append_own_none hgd s x 22 ho B 5 i0 1 Tryd.underlying22 hi v out.length (valsB out) hs hown.row hx ?_
    exact h v w (by rw [List.append_nil]; exact hown) (Below.refl _ _ |>.mono hB)
  | some ad =>
    refine wpList_append_own_at w hgd s x 22 ho B 5 i0 (.int .u8 0) 1 1 Tryd.underlying22 hi hz0 hz1 hz2 rfl (by decide) v out.length (valsB out) hs hown.row ad n c (valsB bs) hx (by rw [valsB_len, hn, Nat.mul_one]) hb.news (valsB_one bs) (by unfold maxLen; omega) (by omega) hB ?_
    intro v' w' h1 h2 _ h3
    refine h v' w' ⟨?_⟩ ((Below.refl _ _ |>.mono hB).grown h2 hB fun k hk => (hown.row.lt k hk).1)
    rw [List.length_append, valsB_app, ← hn]
    exact h1
/-- a text behind own bytes -/
theorem app_s {w : World} {ops : Array Oper} {rest : List Oper} {o : Oper} {a : Act} {Q : Exit → Act → World → Prop} (hgd : o.guard = none) (s x : Operand)
    (ho : o.op = .call { callee := .builtin .append, args := #[s, x], argTypes := #[22, 9] }) (B : Nat) (v : Value) (out : List UInt8) (hs : a.eval s = v) (hown : Own B w v out)
    (S : ByteArray) (bs : List UInt8) (hx : a.eval x = .string S) (hS : S.data.toList = bs) (hl : out.length + bs.length ≤ 70368744177664) (hB : B ≤ w.heap.size)
    (h : ∀ v' w', Own B w' v' (out ++ bs) → Below B w w' → wpList Tryd.prog ops Q rest (a.put o.dst v') w') : wpList Tryd.prog ops Q (o :: rest) a w := by
  obtain ⟨i0, hi, hz0, hz1, hz2⟩ := byte_info
  subst hS
  have hlen : S.data.toList.length = S.size := Array.length_toList
  refine Lib.wpList_append_own_string w hgd s x 22 9 ho B 5 i0 Tryd.underlying22 Tryd.underlying9 hi hz0 hz1 hz2 v out.length (valsB out) hs hown.row S hx (by unfold maxLen; omega) (by omega) hB ?_
  intro v' w' h1 h2 h3
  refine h v' w' ⟨?_⟩ ((Below.refl _ _ |>.mono hB).grown h2 hB fun k hk => (hown.row.lt k hk).1)
  have e : Lib.strCells S = valsB S.data.toList := rfl
  rw [List.length_append, valsB_app, hlen, ← e]
  exact h1
end Go.Proofs.YthacnnmlephkhaaDoor

/- Objects of documents: plain, in memory, out of an argument. No condition. -/
namespace Go.Wk
open Go Go.RowKit Go.ChangeShapes
/-- an object: its kind, a number, bytes, items, entries -/
inductive Ob where
  | mk (k n : Int) (b : List UInt8) (l : List Ob) (d : List (List UInt8 × Ob))
mutual
/-- how many values and letters it holds, at the least -/
def Ob.bulk : Ob → Nat
  | .mk _ _ b l d => b.length + bulkL l + bulkD d + 1
def bulkL : List Ob → Nat
  | [] => 0
  | o :: r => o.bulk + bulkL r
def bulkD : List (List UInt8 × Ob) → Nat
  | [] => 0
  | e :: r => e.1.length + e.2.bulk + 1 + bulkD r
end
theorem bulkL_at : ∀ (l : List Ob) (i : Nat) (h : i < l.length), l[i].bulk ≤ bulkL l
  | [], i, h => by simp at h
  | o :: r, 0, _ => by simp [bulkL]
  | o :: r, i + 1, h => by have := bulkL_at r i (by simpa using h); simp [bulkL]; omega
theorem bulkD_at : ∀ (l : List (List UInt8 × Ob)) (i : Nat) (h : i < l.length), l[i].1.length + l[i].2.bulk + 1 ≤ bulkD l
  | [], i, h => by simp at h
  | o :: r, 0, _ => by simp [bulkD]
  | o :: r, i + 1, h => by have := bulkD_at r i (by simpa using h); simp [bulkD]; omega
theorem bulk_pos (o : Ob) : 1 ≤ o.bulk := by cases o; simp [Ob.bulk]
theorem bulkL_len : ∀ (l : List Ob), l.length ≤ bulkL l
  | [] => Nat.le_refl _
  | o :: r => by have := bulkL_len r; have := bulk_pos o; simp [bulkL]; omega
theorem bulkD_len : ∀ (l : List (List UInt8 × Ob)), l.length ≤ bulkD l
  | [] => Nat.le_refl _
  | o :: r => by have := bulkD_len r; simp [bulkD]; omega
def strV (l : List UInt8) : Value := .string ⟨l.toArray⟩
/-- an object in memory: its five values -/
inductive ObAt (w : World) : Ob → List Value → Prop
  | mk (k n : Int) (b : List UInt8) (l : List Ob) (d : List (List UInt8 × Ob)) (A AL AD : Option Addr) (c cL cD gL oL gD oD : Nat) (vl vd : Nat → List Value) :
      -9223372036854775808 ≤ k → k ≤ 9223372036854775807 → -9223372036854775808 ≤ n → n ≤ 9223372036854775807 → Byt w A b → b.length ≤ c → (A = none → c = 0) → l.length ≤ cL → l.length ≤ maxLen → d.length ≤ cD → d.length ≤ maxLen →
      (0 < l.length → AL = some ⟨gL, oL, none⟩) → (∀ i, (hi : i < l.length) → ObAt w l[i] (vl i)) → (∀ i, i < l.length → ∀ j, j < 5 → w.cell? ⟨gL, oL + (5 * i + j), none⟩ = (vl i)[j]?) →
      (0 < d.length → AD = some ⟨gD, oD, none⟩) → (∀ i, (hi : i < d.length) → ObAt w d[i].2 (vd i)) → (∀ i, (hi : i < d.length) → d[i].1.length ≤ maxLen ∧ w.cell? ⟨gD, oD + 6 * i, none⟩ = some (strV d[i].1)) → (∀ i, i < d.length → ∀ j, j < 5 → w.cell? ⟨gD, oD + (6 * i + 1 + j), none⟩ = (vd i)[j]?) →
      ObAt w (.mk k n b l d) [.int .i64 k, .int .i64 n, .slice A b.length c, .slice AL l.length cL, .slice AD d.length cD]
theorem ObAt.five {w : World} {o : Ob} {vs : List Value} (h : ObAt w o vs) : vs.length = 5 := by cases h; rfl
theorem ObAt.kept {w w' : World} {o : Ob} {vs : List Value} (h : ObAt w o vs) (hb : Below w.heap.size w w') : ObAt w' o vs := by
  induction h with
  | mk k n b l d A AL AD c cL cD gL oL gD oD vl vd h1 h2 h3 h4 h5 h6 h7 h8 h9 h10 h11 h12 h13 h14 h15 h16 h17 h18 ihl ihd =>
    have keep : ∀ {p : Addr} {v : Option Value}, (∃ u, v = some u) → w.cell? p = v → w'.cell? p = v := fun {p v} hv hp => by
      obtain ⟨u, rfl⟩ := hv
      rw [hb.cell (cell_lt hp)]; exact hp
    have five : ∀ (vs : List Value) (j : Nat), vs.length = 5 → j < 5 → ∃ u, vs[j]? = some u := fun vs j h hj => ⟨vs[j], List.getElem?_eq_getElem (by omega)⟩
    exact .mk k n b l d A AL AD c cL cD gL oL gD oD vl vd h1 h2 h3 h4 (h5.below hb) h6 h7 h8 h9 h10 h11 h12 ihl (fun i hi j hj => keep (five _ j (h13 i hi).five hj) (h14 i hi j hj)) h15 ihd
      (fun i hi => ⟨(h17 i hi).1, keep ⟨_, rfl⟩ (h17 i hi).2⟩) (fun i hi j hj => keep (five _ j (h16 i hi).five hj) (h18 i hi j hj))
/-! ### Out of an argument -/
section
variable {H : Type} {enc : TypeId × Value → H} {P : Program} {w : World} {base : Nat} {sp : Nat → Bool} {held : Bool}
/-- the types of objects -/
structure ObTy (P : Program) (tO tE tB tL tD tI tN tS u8 : TypeId) : Prop where
  o : ∃ fs, P.underlying tO = some (.struct fs) ∧ fs.toList.map (fun f => (f.type, f.offset)) = [(tI, 0), (tN, 1), (tB, 2), (tL, 3), (tD, 4)]
  e : ∃ fs, P.underlying tE = some (.struct fs) ∧ fs.toList.map (fun f => (f.type, f.offset)) = [(tS, 0), (tO, 1)]
  b : P.underlying tB = some (.slice u8)
  u : P.underlying u8 = some (.int .u8)
  l : P.underlying tL = some (.slice tO)
  d : P.underlying tD = some (.slice tE)
  i : P.underlying tI = some (.int .i64)
  n : P.underlying tN = some (.int .i64)
  s : P.underlying tS = some .string
  co : P.cellsOf tO = 5
  ce : P.cellsOf tE = 6
  cb : P.cellsOf tB = 1
  cl : P.cellsOf tL = 1
  cd : P.cellsOf tD = 1
  ci : P.cellsOf tI = 1
  cn : P.cellsOf tN = 1
  cs : P.cellsOf tS = 1
  cu : P.cellsOf u8 = 1
theorem fields_at {fs : Array Field} {l : List (TypeId × Nat)} (h : fs.toList.map (fun f => (f.type, f.offset)) = l) {i : Nat} {t o : Nat} (hi : l[i]? = some (t, o)) : ∃ f, fs[i]? = some f ∧ f.type = t ∧ f.offset = o := by
  rw [← h, List.getElem?_map] at hi
  cases hf : fs[i]? with
  | none => rw [← Array.getElem?_toList] at hf; rw [hf] at hi; cases hi
  | some f =>
    rw [← Array.getElem?_toList] at hf
    rw [hf] at hi
    injection hi with hi
    injection hi with h1 h2
    exact ⟨f, rfl, h1, h2⟩
theorem i64_wf {n : Int} (h : (Lit.int .i64 n).wf = true) : -9223372036854775808 ≤ n ∧ n ≤ 9223372036854775807 := by
  simpa [Lit.wf, IntKind.min, IntKind.max, IntKind.signed, IntKind.bits] using h
/-- a row's elements, each by itself -/
theorem rows_at {e k : Nat} {a : Addr} {len n : Nat} {elems : List (DataW H × List MemPlace)} (hce : P.cellsOf e = k) (hlen : elems.length = len)
    (hel : ∀ i, i < len → (w.cells? base (a.add (i * P.cellsOf e)) (P.cellsOf e)).bind (DataW.trod enc P w base sp held n e) = elems[i]?) :
    ∀ i, i < len → ∃ cs x, cs.length = k ∧ elems[i]? = some x ∧ DataW.trod enc P w base sp held n e cs = some x ∧ ∀ j, j < k → w.cell? (a.add (k * i + j)) = cs[j]? := by
  intro i hi
  have h1 := hel i hi
  rw [List.getElem?_eq_getElem (by omega), hce] at h1
  cases hcs : w.cells? base (a.add (i * k)) k with
  | none => rw [hcs] at h1; cases h1
  | some cs =>
    rw [hcs] at h1
    obtain ⟨h0, h2, h3⟩ := World.cells?_some hcs
    refine ⟨cs, _, h2, List.getElem?_eq_getElem (by omega), h1, fun j hj => ?_⟩
    have := h3 j (by omega)
    rw [← this, Addr.add_add, Nat.mul_comm k i]
/-- a measure of readings -/
structure BulkLaw {H : Type} (B : DataW H → Nat) (BA : List (DataW H) → Nat) : Prop where
  pos : ∀ d, 1 ≤ B d
  str : ∀ b, B (.lit (.string b)) = b.length + 1
  slice : ∀ e s, B (.slice e s) = BA e + BA s + 1
  agg : ∀ p, B (.agg p) = BA p + 1
  nil : BA [] = 0
  cons : ∀ d r, BA (d :: r) = B d + BA r
theorem BulkLaw.len {B : DataW H → Nat} {BA : List (DataW H) → Nat} (M : BulkLaw B BA) : ∀ l, l.length ≤ BA l := by
  intro l
  induction l with
  | nil => simp
  | cons d r ih => have := M.pos d; rw [M.cons]; simp; omega
theorem BulkLaw.sumL {B : DataW H → Nat} {BA : List (DataW H) → Nat} (M : BulkLaw B BA) : ∀ (l : List Ob) (E : List (DataW H)), l.length = E.length → (∀ i (h : i < l.length) (h' : i < E.length), l[i].bulk ≤ B E[i]) → bulkL l ≤ BA E := by
  intro l
  induction l with
  | nil => intro E _ _; simp [bulkL]
  | cons o r ih =>
    intro E hl h
    cases E with
    | nil => simp at hl
    | cons d E =>
      have h0 := h 0 (by simp) (by simp)
      have := ih E (by simpa using hl) fun i h1 h2 => by have := h (i + 1) (by simpa using h1) (by simpa using h2); simpa using this
      rw [M.cons]
      simp only [bulkL]
      simp at h0
      omega
theorem BulkLaw.sumD {B : DataW H → Nat} {BA : List (DataW H) → Nat} (M : BulkLaw B BA) : ∀ (l : List (List UInt8 × Ob)) (E : List (DataW H)), l.length = E.length → (∀ i (h : i < l.length) (h' : i < E.length), l[i].1.length + l[i].2.bulk + 1 ≤ B E[i]) → bulkD l ≤ BA E := by
  intro l
  induction l with
  | nil => intro E _ _; simp [bulkD]
  | cons o r ih =>
    intro E hl h
    cases E with
    | nil => simp at hl
    | cons d E =>
      have h0 := h 0 (by simp) (by simp)
      have := ih E (by simpa using hl) fun i h1 h2 => by have := h (i + 1) (by simpa using h1) (by simpa using h2); simpa using this
      rw [M.cons]
      simp only [bulkD]
      simp at h0
      omega
theorem byt_bulk {B : DataW H → Nat} {BA : List (DataW H) → Nat} (M : BulkLaw B BA) {tB u8 : TypeId} (hb : P.underlying tB = some (.slice u8)) {fuel : Nat} {A : Option Addr} {len c : Nat} {x : DataW H × List MemPlace} (h : DataW.trod enc P w base sp held fuel tB [.slice A len c] = some x) : len ≤ B x.1 := by
  rcases DataW.trod_slice hb h with ⟨e, _⟩ | ⟨a, len', cap, elems, rest, n', rfl, e, rfl, _, _, _, hlen, _⟩
  · injection e with e; injection e with _ e _; omega
  · injection e with e
    injection e with _ e _
    rw [M.slice]
    have := M.len (elems.map (·.1))
    simp at this
    omega
theorem open_obj {B : DataW H → Nat} {BA : List (DataW H) → Nat} (M : BulkLaw B BA) {tO tE tB tL tD tI tN tS u8 : TypeId} (T : ObTy P tO tE tB tL tD tI tN tS u8) : ∀ (fuel : Nat) (cs : List Value) (x : DataW H × List MemPlace), DataW.trod enc P w base sp held fuel tO cs = some x → ∃ o, ObAt w o cs ∧ o.bulk ≤ B x.1 := by
  intro fuel
  induction fuel using Nat.strongRecOn with
  | _ fuel ih =>
    intro cs x h
    obtain ⟨fs, hfs, hfl⟩ := T.o
    obtain ⟨xs, n, rfl, ex, hcl, hxl, hF⟩ := DataW.trod_struct hfs h
    have hsz : fs.size = 5 := by have := congrArg List.length hfl; simpa using this
    rw [T.co] at hcl
    have fld : ∀ i t o, [(tI, 0), (tN, 1), (tB, 2), (tL, 3), (tD, 4)][i]? = some (t, o) → ∃ y, DataW.trod enc P w base sp held n t ((cs.drop o).take (P.cellsOf t)) = some y := fun i t o hi => by
      obtain ⟨f, hf, rfl, rfl⟩ := fields_at hfl hi
      have hil : i < xs.length := by
        have := (Array.getElem?_eq_some_iff.1 hf).1; omega
      exact ⟨_, (hF i f hf).trans (List.getElem?_eq_getElem hil)⟩
    match cs, hcl with
    | [c0, c1, c2, c3, c4], _ =>
      obtain ⟨y0, z0⟩ := fld 0 tI 0 rfl
      obtain ⟨y1, z1⟩ := fld 1 tN 1 rfl
      obtain ⟨y2, z2⟩ := fld 2 tB 2 rfl
      obtain ⟨y3, z3⟩ := fld 3 tL 3 rfl
      obtain ⟨y4, z4⟩ := fld 4 tD 4 rfl
      rw [T.ci] at z0
      rw [T.cn] at z1
      rw [T.cb] at z2
      rw [T.cl] at z3
      rw [T.cd] at z4
      obtain ⟨k, e0, _, w0⟩ := DataW.trod_int T.i (show DataW.trod enc P w base sp held n tI [c0] = some y0 from z0)
      obtain ⟨m, e1, _, w1⟩ := DataW.trod_int T.n (show DataW.trod enc P w base sp held n tN [c1] = some y1 from z1)
      obtain ⟨A, c, bs, e2, hB, hBn, hBl⟩ := open_byt T.b T.u T.cu (show DataW.trod enc P w base sp held n tB [c2] = some y2 from z2)
      injection e0 with e0
      injection e1 with e1
      injection e2 with e2
      subst e0 e1 e2
      have z3 : DataW.trod enc P w base sp held n tL [c3] = some y3 := z3
      have z4 : DataW.trod enc P w base sp held n tD [c4] = some y4 := z4
      have z2 : DataW.trod enc P w base sp held n tB [Value.slice A bs.length c] = some y2 := z2
      have b2 := byt_bulk M T.b z2
      have fx : ∀ i t o y, [(tI, 0), (tN, 1), (tB, 2), (tL, 3), (tD, 4)][i]? = some (t, o) → DataW.trod enc P w base sp held n t ((([Value.int .i64 k, .int .i64 m, .slice A bs.length c, c3, c4] : List Value).drop o).take (P.cellsOf t)) = some y → xs[i]? = some y := fun i t o y hi hy => by
        obtain ⟨f, hf, rfl, rfl⟩ := fields_at hfl hi
        rw [← hF i f hf]; exact hy
      have X2 := fx 2 tB 2 y2 rfl (by rw [T.cb]; exact z2)
      have X3 := fx 3 tL 3 y3 rfl (by rw [T.cl]; exact z3)
      have X4 := fx 4 tD 4 y4 rfl (by rw [T.cd]; exact z4)
      have hbulk : B y2.1 + B y3.1 + B y4.1 + 1 ≤ B (.agg (xs.map (·.1))) := by
        rw [M.agg]
        have hl5 : xs.length = 5 := by omega
        match xs, hl5 with
        | [x0, x1, x2, x3, x4], _ =>
          simp at X2 X3 X4
          subst X2 X3 X4
          have := M.pos x0.1
          have := M.pos x1.1
          simp only [List.map_cons, List.map_nil, M.cons, M.nil]
          omega
      -- the items
      have items : ∃ (l : List Ob) (AL : Option Addr) (cL gL oL : Nat) (vl : Nat → List Value), c3 = .slice AL l.length cL ∧ l.length ≤ cL ∧ l.length ≤ maxLen ∧ (0 < l.length → AL = some ⟨gL, oL, none⟩) ∧ (∀ i, (hi : i < l.length) → ObAt w l[i] (vl i)) ∧ (∀ i, i < l.length → ∀ j, j < 5 → w.cell? ⟨gL, oL + (5 * i + j), none⟩ = (vl i)[j]?) ∧ bulkL l ≤ B y3.1 := by
        rcases DataW.trod_slice T.l z3 with ⟨e3, _⟩ | ⟨a, len, cap, elems, rest, n', rfl, e3, ey, hb, hlc, hcm, hlen, hel, _⟩
        · injection e3 with e3
          exact ⟨[], none, 0, 0, 0, fun _ => [], e3, Nat.le_refl _, Nat.zero_le _, fun h => by simp at h, fun i hi => by simp at hi, fun i hi => by simp at hi, by simp [bulkL]⟩
        · injection e3 with e3
          have each : ∀ i, i < len → ∃ p : Ob × List Value, ObAt w p.1 p.2 ∧ (∃ h : i < elems.length, p.1.bulk ≤ B elems[i].1) ∧ ∀ j, j < 5 → w.cell? (a.add (5 * i + j)) = p.2[j]? := fun i hi => by
            obtain ⟨cs, x, hc5, hx, ht, hj⟩ := rows_at T.co hlen hel i hi
            obtain ⟨o, ho, hob⟩ := ih n' (by omega) cs x ht
            obtain ⟨hil, rfl⟩ := List.getElem?_eq_some_iff.1 hx
            exact ⟨(o, cs), ho, ⟨hil, hob⟩, hj⟩
          obtain ⟨ps, hps, hp⟩ := list_of each
          obtain ⟨g, o, spot⟩ := a
          refine ⟨ps.map (·.1), some ⟨g, o, spot⟩, cap, g, o, fun i => (ps.map (·.2)).getD i [], by rw [e3, List.length_map, hps], by rw [List.length_map]; omega, by rw [List.length_map]; omega, fun h0 => ?_, fun i hi => ?_, fun i hi j hj => ?_, ?_⟩
          · rw [List.length_map] at h0
            have h1 := (hp 0 h0).2.2 0 (by omega)
            have h5 := (hp 0 h0).1.five
            rw [List.getElem?_eq_getElem (by omega)] at h1
            have hspot : spot = none := by simpa [Addr.add] using World.cell?_spot h1
            rw [hspot]
          · rw [List.length_map] at hi
            have := (hp i hi).1
            simp only [List.getElem_map]
            rw [List.getD_eq_getElem?_getD, List.getElem?_map, List.getElem?_eq_getElem hi]
            exact this
          · rw [List.length_map] at hi
            have h1 := (hp i hi).2.2 j hj
            have hspot : spot = none := by
              have h2 := (hp 0 (by omega)).2.2 0 (by omega)
              have h5 := (hp 0 (by omega)).1.five
              rw [List.getElem?_eq_getElem (by omega)] at h2
              simpa [Addr.add] using World.cell?_spot h2
            subst hspot
            rw [add_none] at h1
            show _ = ((ps.map (·.2)).getD i [])[j]?
            rw [List.getD_eq_getElem?_getD, List.getElem?_map, List.getElem?_eq_getElem hi]
            exact h1
          · rw [ey, M.slice]
            have := M.sumL (ps.map (·.1)) (elems.map (·.1)) (by simp; omega) fun i h1 h2 => by
              simp only [List.getElem_map]
              exact (hp i (by simpa using h1)).2.1.2
            show bulkL _ ≤ BA (elems.map (·.1)) + _ + 1
            omega
      -- the entries
      have entries : ∃ (d : List (List UInt8 × Ob)) (AD : Option Addr) (cD gD oD : Nat) (vd : Nat → List Value), c4 = .slice AD d.length cD ∧ d.length ≤ cD ∧ d.length ≤ maxLen ∧ (0 < d.length → AD = some ⟨gD, oD, none⟩) ∧ (∀ i, (hi : i < d.length) → ObAt w d[i].2 (vd i)) ∧ (∀ i, (hi : i < d.length) → d[i].1.length ≤ maxLen ∧ w.cell? ⟨gD, oD + 6 * i, none⟩ = some (strV d[i].1)) ∧ (∀ i, i < d.length → ∀ j, j < 5 → w.cell? ⟨gD, oD + (6 * i + 1 + j), none⟩ = (vd i)[j]?) ∧ bulkD d ≤ B y4.1 := by
        rcases DataW.trod_slice T.d z4 with ⟨e4, _⟩ | ⟨a, len, cap, elems, rest, n', rfl, e4, ey, hb, hlc, hcm, hlen, hel, _⟩
        · injection e4 with e4
          exact ⟨[], none, 0, 0, 0, fun _ => [], e4, Nat.le_refl _, Nat.zero_le _, fun h => by simp at h, fun i hi => by simp at hi, fun i hi => by simp at hi, fun i hi => by simp at hi, by simp [bulkD]⟩
        · injection e4 with e4
          obtain ⟨gs, hgs, hgl⟩ := T.e
          have each : ∀ i, i < len → ∃ p : (List UInt8 × Ob) × List Value, ObAt w p.1.2 p.2 ∧ p.1.1.length ≤ maxLen ∧ w.cell? (a.add (6 * i)) = some (strV p.1.1) ∧ (∃ h : i < elems.length, p.1.1.length + p.1.2.bulk + 1 ≤ B elems[i].1) ∧ ∀ j, j < 5 → w.cell? (a.add (6 * i + 1 + j)) = p.2[j]? := fun i hi => by
            obtain ⟨cs, x, hc6, hx, ht, hj⟩ := rows_at T.ce hlen hel i hi
            obtain ⟨hil, hxe⟩ := List.getElem?_eq_some_iff.1 hx
            obtain ⟨ys, n2, rfl, exx, hcl2, hyl, hF2⟩ := DataW.trod_struct hgs ht
            have hsz2 : gs.size = 2 := by have := congrArg List.length hgl; simpa using this
            obtain ⟨f0, hf0, t0, o0⟩ := fields_at hgl (i := 0) rfl
            obtain ⟨f1, hf1, t1, o1⟩ := fields_at hgl (i := 1) rfl
            have a0 := hF2 0 f0 hf0
            have a1 := hF2 1 f1 hf1
            have y0 : 0 < ys.length := by omega
            have y1 : 1 < ys.length := by omega
            rw [t0, o0, T.cs, List.getElem?_eq_getElem y0] at a0
            rw [t1, o1, T.co, List.getElem?_eq_getElem y1] at a1
            match cs, hc6 with
            | [d0, d1, d2, d3, d4, d5], _ =>
              obtain ⟨s, es, ey0, hs⟩ := DataW.trod_string T.s (show DataW.trod enc P w base sp held n2 tS [d0] = some _ from a0)
              injection es with es
              obtain ⟨o, ho, hob⟩ := ih n2 (by omega) [d1, d2, d3, d4, d5] _ a1
              refine ⟨((s.data.toList, o), [d1, d2, d3, d4, d5]), ho, ?_, ?_, ⟨hil, ?_⟩, fun j hj' => ?_⟩
              · have : s.data.toList.length = s.size := Array.length_toList
                show s.data.toList.length ≤ maxLen
                rw [this]; exact hs
              · have := hj 0 (by omega)
                rw [Nat.add_zero] at this
                rw [this, es]; rfl
              · rw [hxe, exx, M.agg]
                have hl2 : ys.length = 2 := by omega
                match ys, hl2 with
                | [u0, u1], _ =>
                  have ey0 : u0 = (.lit (.string s.data.toList), []) := ey0
                  have hob : o.bulk ≤ B u1.1 := hob
                  simp only [List.map_cons, List.map_nil, M.cons, M.nil, ey0, M.str]
                  omega
              · have := hj (1 + j) (by omega)
                rw [← Nat.add_assoc] at this
                rw [this]
                match j with
                | 0 => rfl
                | 1 => rfl
                | 2 => rfl
                | 3 => rfl
                | 4 => rfl
                | j + 5 => omega
          obtain ⟨ps, hps, hp⟩ := list_of each
          obtain ⟨g, o, spot⟩ := a
          have hspot : 0 < ps.length → spot = none := fun h0 => by
            have h1 := (hp 0 h0).2.2.1
            simpa [Addr.add] using World.cell?_spot h1
          refine ⟨ps.map (·.1), some ⟨g, o, spot⟩, cap, g, o, fun i => (ps.map (·.2)).getD i [], by rw [e4, List.length_map, hps], by rw [List.length_map]; omega, by rw [List.length_map]; omega, fun h0 => ?_, fun i hi => ?_, fun i hi => ?_, fun i hi j hj => ?_, ?_⟩
          · rw [List.length_map] at h0; rw [hspot h0]
          · rw [List.length_map] at hi
            have := (hp i hi).1
            simp only [List.getElem_map]
            rw [List.getD_eq_getElem?_getD, List.getElem?_map, List.getElem?_eq_getElem hi]
            exact this
          · rw [List.length_map] at hi
            simp only [List.getElem_map]
            have h1 := (hp i hi).2.2.1
            rw [hspot (by omega), add_none] at h1
            exact ⟨(hp i hi).2.1, h1⟩
          · rw [List.length_map] at hi
            have h1 := (hp i hi).2.2.2.2 j hj
            rw [hspot (by omega), add_none] at h1
            show _ = ((ps.map (·.2)).getD i [])[j]?
            rw [List.getD_eq_getElem?_getD, List.getElem?_map, List.getElem?_eq_getElem hi]
            exact h1
          · rw [ey, M.slice]
            have := M.sumD (ps.map (·.1)) (elems.map (·.1)) (by simp; omega) fun i h1 h2 => by
              simp only [List.getElem_map]
              exact (hp i (by simpa using h1)).2.2.2.1.2
            show bulkD _ ≤ BA (elems.map (·.1)) + _ + 1
            omega
      obtain ⟨l, AL, cL, gL, oL, vl, rfl, i1, i2, i3, i4, i5, bL⟩ := items
      obtain ⟨d, AD, cD, gD, oD, vd, rfl, j1, j2, j3, j4, j5, j6, bD⟩ := entries
      exact ⟨.mk k m bs l d, .mk k m bs l d A AL AD c cL cD gL oL gD oD vl vd (i64_wf w0).1 (i64_wf w0).2 (i64_wf w1).1 (i64_wf w1).2 hB hBl hBn i1 i2 j1 j2 i3 i4 i5 j3 j4 j5 j6, by rw [ex]; simp only [Ob.bulk]; omega⟩
end
end Go.Wk

/- Objects, plain: which may be; their bytes. No condition. -/
namespace Go.Wk
open Go
/-! ### Which may be -/
def ltB : List UInt8 → List UInt8 → Bool
  | _, [] => false
  | [], _ :: _ => true
  | a :: r, b :: s => if a < b then true else if b < a then false else ltB r s
def nameOk (s : List UInt8) : Bool := decide (s.length ≤ 127) && !s.contains 0
def spareB (k n : Int) (b : List UInt8) (l : List Ob) (d : List (List UInt8 × Ob)) : Bool :=
  (k == 1 || k == 2 || k == 3 || k == 9 || n == 0) && (k == 4 || k == 5 || k == 8 || b.length == 0) && (k == 6 || l.length == 0) && (k == 7 || k == 8 || d.length == 0)
/-- keys, each behind the one ahead -/
def risesB : List (List UInt8 × Ob) → Bool
  | [] => true
  | [_] => true
  | a :: b :: r => ltB a.1 b.1 && risesB (b :: r)
def Ob.kind : Ob → Int
  | .mk k _ _ _ _ => k
mutual
def Ob.may (dep : Nat) : Ob → Bool
  | .mk k n b l d => spareB k n b l d && (
    if k = 0 then true
    else if k = 1 then decide (0 ≤ n ∧ n ≤ 1)
    else if k = 2 then decide (-2147483647 ≤ n ∧ n ≤ 2147483647)
    else if k = 3 then decide (-214748364799999 ≤ n ∧ n ≤ 214748364799999)
    else if k = 9 then decide (1 ≤ n ∧ n ≤ 8388607)
    else if k = 4 then decide (b.length ≤ 32767)
    else if k = 5 then nameOk b
    else if k = 6 then decide (0 < dep) && mayL (dep - 1) l
    else if k = 7 ∨ k = 8 then decide (0 < dep) && risesB d && decide (b.length ≤ 16777216) && mayD (dep - 1) d
    else false)
def mayL (dep : Nat) : List Ob → Bool
  | [] => true
  | o :: r => (o.kind != 8 && o.may dep) && mayL dep r
def mayD (dep : Nat) : List (List UInt8 × Ob) → Bool
  | [] => true
  | e :: r => (nameOk e.1 && e.2.kind != 0 && e.2.kind != 8 && e.2.may dep) && mayD dep r
end
/-! ### Bytes -/
def hexD (n : Nat) : UInt8 := if n < 10 then UInt8.ofNat (48 + n) else UInt8.ofNat (87 + n)
def hexS (b : List UInt8) : List UInt8 := b.flatMap fun c => [hexD (c.toNat / 16), hexD (c.toNat % 16)]
def regB (c : UInt8) : Bool := !(c == 0 || c == 9 || c == 10 || c == 12 || c == 13 || c == 32 || c == 40 || c == 41 || c == 60 || c == 62 || c == 91 || c == 93 || c == 123 || c == 125 || c == 47 || c == 37)
def nameC (c : UInt8) : List UInt8 := if 33 ≤ c.toNat ∧ c.toNat ≤ 126 ∧ c ≠ 35 ∧ regB c = true then [c] else 35 :: hexS [c]
def nameT (s : List UInt8) : List UInt8 := 47 :: s.flatMap nameC
def plainB (c : UInt8) : Bool := decide (32 ≤ c.toNat ∧ c.toNat ≤ 126) && c != 40 && c != 41 && c != 92
def textT (b : List UInt8) : List UInt8 := if b.all plainB then 40 :: (b ++ [41]) else 60 :: (hexS b ++ [62])
def fracL (f : Nat) : List UInt8 :=
  let p := (Lib.decDigits (100000 + f)).drop 1
  p.take 1 ++ Lib.trimRightB (p.drop 1) 48
def numT (n : Int) (whole : Bool) : List UInt8 := if whole then Lib.itoa n else (if n < 0 then [45] else []) ++ (Lib.decDigits (n.natAbs / 100000) ++ (46 :: fracL (n.natAbs % 100000)))
mutual
def Ob.show : Ob → List UInt8
  | .mk k n b l d =>
    if k = 1 then (if n = 1 then [116, 114, 117, 101] else [102, 97, 108, 115, 101])
    else if k = 2 then numT n true
    else if k = 3 then numT n false
    else if k = 4 then textT b
    else if k = 5 then nameT b
    else if k = 9 then numT n true ++ [32, 48, 32, 82]
    else if k = 6 then 91 :: (showL true l ++ [93])
    else if k = 7 ∨ k = 8 then 60 :: 60 :: (showD d ++ [62, 62])
    else [110, 117, 108, 108]
def showL (first : Bool) : List Ob → List UInt8
  | [] => []
  | o :: r => (if first then [] else [32]) ++ (o.show ++ showL false r)
def showD : List (List UInt8 × Ob) → List UInt8
  | [] => []
  | e :: r => nameT e.1 ++ (32 :: (e.2.show ++ showD r))
end
theorem showL_snoc : ∀ (l : List Ob) (f : Bool) (o : Ob), showL f (l ++ [o]) = showL f l ++ ((if f = true ∧ l = [] then [] else [32]) ++ o.show)
  | [], f, o => by cases f <;> simp [showL]
  | x :: l, f, o => by
    have := showL_snoc l false o
    simp only [List.cons_append, showL, this]
    simp
theorem showD_snoc : ∀ (l : List (List UInt8 × Ob)) (e : List UInt8 × Ob), showD (l ++ [e]) = showD l ++ (nameT e.1 ++ (32 :: e.2.show))
  | [], e => by simp [showD]
  | x :: l, e => by
    have := showD_snoc l e
    simp only [List.cons_append, showD, this]
    simp
/-! ### How long -/
theorem hexS_len (b : List UInt8) : (hexS b).length = 2 * b.length := by
  unfold hexS; induction b with
  | nil => rfl
  | cons x b ih => simp only [List.flatMap_cons, List.length_append, List.length_cons, List.length_nil, ih]; omega
theorem nameC_len (c : UInt8) : (nameC c).length ≤ 3 := by
  unfold nameC; split
  · simp
  · simp [hexS_len]
theorem nameT_len (s : List UInt8) : (nameT s).length ≤ 3 * s.length + 1 := by
  unfold nameT
  have : ∀ s : List UInt8, (s.flatMap nameC).length ≤ 3 * s.length := by
    intro s; induction s with
    | nil => simp
    | cons x s ih => have := nameC_len x; simp only [List.flatMap_cons, List.length_append, List.length_cons]; omega
  have := this s
  simp only [List.length_cons]; omega
theorem textT_len (b : List UInt8) : (textT b).length ≤ 2 * b.length + 2 := by
  unfold textT; split
  · simp; omega
  · simp [hexS_len]
theorem dec_len : ∀ (k u : Nat), u < 10 ^ (k + 1) → (Lib.decDigits u).length ≤ k + 1 := by
  intro k
  induction k with
  | zero => intro u h; rw [Lib.decDigits]; rw [dif_pos (by omega)]; simp
  | succ k ih =>
    intro u h
    rw [Lib.decDigits]
    split
    · simp
    · have := ih (u / 10) (by rw [Nat.pow_succ] at h; omega)
      simp only [List.length_append, List.length_cons, List.length_nil]; omega
theorem trim_len (l : List UInt8) (c : UInt8) : (Lib.trimRightB l c).length ≤ l.length := by
  unfold Lib.trimRightB
  have : ∀ k : List UInt8, (k.dropWhile (· == c)).length ≤ k.length := fun k => by
    induction k with
    | nil => simp
    | cons x k ih => simp only [List.dropWhile_cons]; split <;> simp <;> omega
  have := this l.reverse
  simp at this ⊢; omega
theorem numT_len (n : Int) (w : Bool) (h : -9223372036854775808 ≤ n ∧ n ≤ 9223372036854775807) : (numT n w).length ≤ 28 := by
  have h20 : ∀ u, u ≤ 9223372036854775808 → (Lib.decDigits u).length ≤ 19 := fun u hu => dec_len 18 u (by omega)
  unfold numT
  split
  · unfold Lib.itoa
    split
    · have := h20 n.natAbs (by omega); simp; omega
    · have := h20 n.toNat (by omega); omega
  · have h1 := h20 (n.natAbs / 100000) (by omega)
    have h2 := dec_len 5 (100000 + n.natAbs % 100000) (by omega)
    have h3 : (fracL (n.natAbs % 100000)).length ≤ 6 := by
      unfold fracL
      have := trim_len (((Lib.decDigits (100000 + n.natAbs % 100000)).drop 1).drop 1) 48
      simp only [List.length_append, List.length_take, List.length_drop] at this ⊢
      omega
    simp only [List.length_append, List.length_cons]
    have : (if n < 0 then [(45 : UInt8)] else []).length ≤ 1 := by split <;> simp
    omega
/-- numbers in their bounds -/
inductive Fits : Ob → Prop
  | mk (k n : Int) (b : List UInt8) (l : List Ob) (d : List (List UInt8 × Ob)) : -9223372036854775808 ≤ n ∧ n ≤ 9223372036854775807 → (∀ o ∈ l, Fits o) → (∀ e ∈ d, Fits e.2) → Fits (.mk k n b l d)
theorem ObAt.fits {w : World} {o : Ob} {vs : List Value} (h : ObAt w o vs) : Fits o := by
  induction h with
  | mk k n b l d A AL AD c cL cD gL oL gD oD vl vd h1 h2 h3 h4 h5 h6 h7 h8 h9 h10 h11 h12 h13 h14 h15 h16 h17 h18 ihl ihd =>
    refine .mk k n b l d ⟨h3, h4⟩ (fun o ho => ?_) (fun e he => ?_)
    · obtain ⟨i, hi, rfl⟩ := List.getElem_of_mem ho; exact ihl i hi
    · obtain ⟨i, hi, rfl⟩ := List.getElem_of_mem he; exact ihd i hi
mutual
theorem show_len : ∀ (o : Ob), Fits o → o.show.length + 1 ≤ 40 * o.bulk
  | .mk k n b l d, h => by
    cases h with
    | mk _ _ _ _ _ hn hl hd =>
      have h1 := numT_len n true hn
      have h2 := numT_len n false hn
      have h3 := textT_len b
      have h4 := nameT_len b
      have h5 := showL_len l hl true
      have h6 := showD_len d hd
      simp only [Ob.show, Ob.bulk]
      split
      · split <;> simp <;> omega
      split
      · omega
      split
      · omega
      split
      · omega
      split
      · omega
      split
      · simp; omega
      split
      · simp; omega
      split
      · simp; omega
      · simp; omega
theorem showL_len : ∀ (l : List Ob), (∀ o ∈ l, Fits o) → ∀ f, (showL f l).length ≤ 40 * bulkL l
  | [], _, _ => by simp [showL]
  | o :: r, h, f => by
    have h1 := show_len o (h o (by simp))
    have h2 := showL_len r (fun x hx => h x (by simp [hx])) false
    have h3 : (if f then ([] : List UInt8) else [32]).length ≤ 1 := by split <;> simp
    simp only [showL, bulkL, List.length_append, List.length_cons]
    omega
theorem showD_len : ∀ (l : List (List UInt8 × Ob)), (∀ e ∈ l, Fits e.2) → (showD l).length ≤ 40 * bulkD l
  | [], _ => by simp [showD]
  | e :: r, h => by
    have h1 := show_len e.2 (h e (by simp))
    have h2 := showD_len r (fun x hx => h x (by simp [hx]))
    have h3 := nameT_len e.1
    simp only [showD, bulkD, List.length_append, List.length_cons]
    omega
end
end Go.Wk

/- Signs: which are white, regular, plain. No condition. -/
namespace Go.Proofs.YthacnnmlephkhaaDoor
open Go Go.RowKit Go.Wk
def whiteI (x : Int) : Bool := x == 0 || x == 9 || x == 10 || x == 12 || x == 13 || x == 32
set_option maxHeartbeats 1000000 in
theorem asc_White (x : Int) (w : World) : Calls Tryd.prog 57 #[.int .i64 x] w fun e w' => e = .returned (.bool (whiteI x)) ∧ w = w' := by
  go_enter Tryd.func57, Tryd.ntmps57
  go_wp2
  all_goals go_ret
  all_goals refine ⟨?_, rfl⟩
  all_goals simp_all [whiteI]
set_option maxHeartbeats 1000000 in
theorem prt_plain (c : UInt8) (w : World) : Calls Tryd.prog 40 #[.int .u8 (c.toNat : Int)] w fun e w' => e = .returned (.bool (plainB c)) ∧ w = w' := by
  have hc := c.toNat_lt
  have k : plainB c = (decide (32 ≤ (c.toNat : Int)) && decide ((c.toNat : Int) ≤ 126) && ((c.toNat : Int) != 40) && ((c.toNat : Int) != 41) && ((c.toNat : Int) != 92)) := by
    have e : ∀ m : UInt8, (c != m) = ((c.toNat : Int) != (m.toNat : Int)) := fun m => by
      by_cases h : c = m
      · subst h; simp
      · have : c.toNat ≠ m.toNat := fun e => h (UInt8.toNat_inj.1 e)
        have h2 : (c.toNat : Int) ≠ (m.toNat : Int) := by omega
        rw [bne_iff_ne.2 h, bne_iff_ne.2 h2]
    unfold plainB
    rw [e 40, e 41, e 92]
    have : decide (32 ≤ c.toNat ∧ c.toNat ≤ 126) = (decide (32 ≤ (c.toNat : Int)) && decide ((c.toNat : Int) ≤ 126)) := by
      rw [Bool.decide_and]; congr 1 <;> (apply decide_eq_decide.2; omega)
    rw [this]; rfl
  rw [k]
  obtain ⟨x, hx⟩ : ∃ x : Int, x = (c.toNat : Int) := ⟨_, rfl⟩
  rw [← hx]
  clear hx k hc
  go_enter Tryd.func40, Tryd.ntmps40
  go_wp2
  all_goals go_ret
  all_goals refine ⟨?_, rfl⟩
  all_goals first | (simp_all; done) | (simp_all; omega)
set_option maxHeartbeats 4000000 in
theorem reg_all : ∀ c : Fin 256, regB (UInt8.ofNat c.val) = (!whiteI (c.val : Int) && decide (Lib.indexByte [40, 41, 60, 62, 91, 93, 123, 125, 47, 37] (UInt8.ofNat c.val) < 0)) := by decide +kernel
set_option maxHeartbeats 1000000 in
theorem lex_Regular (c : UInt8) (w : World) : Calls Tryd.prog 42 #[.int .i64 (c.toNat : Int)] w fun e w' => e = .returned (.bool (regB c)) ∧ w = w' := by
  have hc := c.toNat_lt
  have hr := reg_all ⟨c.toNat, hc⟩
  simp at hr
  rw [hr]
  have cw := fun w => asc_White (c.toNat : Int) w
  have ci := fun w => Tryd.strings_IndexByte ⟨#[40, 41, 60, 62, 91, 93, 123, 125, 47, 37]⟩ (c.toNat : Int) w
  obtain ⟨j, hj⟩ : ∃ j, j = Lib.indexByte [40, 41, 60, 62, 91, 93, 123, 125, 47, 37] c := ⟨_, rfl⟩
  rw [← hj]
  have e8 : UInt8.ofNat (c.toNat : Int).toNat = c := by simp
  simp only [e8] at ci
  rw [← hj] at ci
  obtain ⟨b, hb⟩ : ∃ b, b = whiteI (c.toNat : Int) := ⟨_, rfl⟩
  rw [← hb] at cw ⊢
  obtain ⟨x, hx⟩ : ∃ x : Int, x = (c.toNat : Int) := ⟨_, rfl⟩
  have hx2 : 0 ≤ x ∧ x ≤ 255 := by omega
  rw [← hx] at cw ci ⊢
  clear hx hr hc hj hb e8
  cases b
  all_goals
    go_enter Tryd.func42, Tryd.ntmps42
    go_wp2_with (first
      | (go_at_call 57; (with_reducible refine (cw _).mono ?_); rintro e w1 ⟨rfl, rfl⟩)
      | (go_at_call 58; (with_reducible refine (ci _).mono ?_); rintro e w1 ⟨rfl, rfl⟩))
    all_goals go_ret
    all_goals refine ⟨?_, rfl⟩
    all_goals simp_all
end Go.Proofs.YthacnnmlephkhaaDoor

/- A region that draws its order: each operation is looked at once. No condition. -/
/-! A region that draws its order, each operation looked at once -/
namespace Go.Wk
open Go
def upd (x : Nat → Value) (i : Nat) (v : Value) : Nat → Value := fun j => if j = i then v else x j
/-- what the operation waits for -/
def afters (ops : Array Oper) (i : Nat) : List Nat := match ops[i]? with
  | none => []
  | some o => (o.after.toList.filter fun e => Region.binds .any e).map (·.on)
def each (p : Nat → Prop) : Nat → Prop
  | 0 => True
  | n + 1 => each p n ∧ p n
theorem each_all {p : Nat → Prop} : ∀ {n : Nat}, each p n → ∀ i, i < n → p i
  | n + 1, h, i, hi => by
    rcases Nat.lt_or_ge i n with h' | h'
    · exact each_all h.1 i h'
    · have : i = n := by omega
      subst this; exact h.2
theorem getD_set (l : Array Bool) (i j : Nat) (b : Bool) (hi : i < l.size) : (l.setIfInBounds i true).getD j b = if j = i then true else l.getD j b := by
  simp only [Array.getD_eq_getD_getElem?, Array.getElem?_setIfInBounds]
  by_cases h : i = j
  · subst h; simp [hi]
  · simp [h, Ne.symm h]
theorem all_listed {ops : Array Oper} {listed : Array Bool} (back : ((List.range ops.size).all fun i => (afters ops i).all fun j => decide (j < i)) = true) (hs : listed.size = ops.size) (hr : Region.ready .any ops listed = []) :
    ∀ i, i < ops.size → listed.getD i false = true := by
  intro i
  induction i using Nat.strongRecOn with
  | _ i ih =>
    intro hi
    have hil : i < listed.size := by omega
    rcases hb : listed.getD i true with _ | _
    · exfalso
      have : i ∈ Region.ready .any ops listed := by
        rw [mem_ready]
        refine ⟨hb, ops[i], by simp [hi], fun e he hbd => ?_⟩
        have hm : e.on ∈ afters ops i := by
          unfold afters; rw [Array.getElem?_eq_getElem hi]
          exact List.mem_map.2 ⟨e, List.mem_filter.2 ⟨by simpa using he, hbd⟩, rfl⟩
        have h1 := List.all_eq_true.1 (List.all_eq_true.1 back i (List.mem_range.2 hi)) _ hm
        have h2 : e.on < i := of_decide_eq_true h1
        exact ih _ h2 (by omega)
      rw [hr] at this; cases this
    · simp only [Array.getD_eq_getD_getElem?, Array.getElem?_eq_getElem hil, Option.getD_some] at hb ⊢; exact hb
theorem wpAny_lin {P : Program} {ops : Array Oper} {Q : Exit → Act → World → Prop} (mk : (Nat → Value) → Act) {R : World → Prop} {Keeps : World → World → Prop} {Good : Nat → Value → World → Prop}
    (back : ((List.range ops.size).all fun i => (afters ops i).all fun j => decide (j < i)) = true)
    (mono : ∀ i v w w', Good i v w → Keeps w w' → Good i v w')
    (step : ∀ i, i < ops.size → ∀ x w, R w → (∀ j ∈ afters ops i, Good j (x j) w) → wpOp P ops Q i (fun a' w' => ∃ v, a' = mk (upd x i v) ∧ R w' ∧ Keeps w w' ∧ Good i v w') (mk x) w)
    (done : ∀ x w, R w → (∀ i, i < ops.size → Good i (x i) w) → Q .normal (mk x) w) :
    ∀ (fuel : Nat) (listed : Array Bool) (x : Nat → Value) (w : World), listed.toList.count false ≤ fuel → listed.size = ops.size → R w → (∀ i, i < ops.size → listed.getD i false = true → Good i (x i) w) →
      wpAny P .any ops Q fuel listed (mk x) w := by
  have fin : ∀ (listed : Array Bool) (x : Nat → Value) (w : World), listed.size = ops.size → R w → (∀ i, i < ops.size → listed.getD i false = true → Good i (x i) w) → Region.ready .any ops listed = [] → Q .normal (mk x) w :=
    fun listed x w hs hR hG hr => done x w hR fun i hi => hG i hi (all_listed back hs hr i hi)
  intro fuel
  induction fuel with
  | zero =>
    intro listed x w hc hs hR hG
    have hr : Region.ready .any ops listed = [] := by
      apply List.eq_nil_iff_forall_not_mem.2
      intro i hi
      obtain ⟨h1, o, ho, _⟩ := mem_ready.1 hi
      have hi' : i < ops.size := (Array.getElem?_eq_some_iff.1 ho).1
      have hil : i < listed.size := by omega
      have : false ∈ listed.toList := by
        simp only [Array.getD_eq_getD_getElem?, Array.getElem?_eq_getElem hil, Option.getD_some] at h1
        rw [← h1]; simp
      have := List.count_pos_iff.2 this
      omega
    exact ⟨hr, fin listed x w hs hR hG hr⟩
  | succ fuel ih =>
    intro listed x w hc hs hR hG
    refine ⟨fin listed x w hs hR hG, fun i hi => ?_⟩
    obtain ⟨h1, o, ho, hall⟩ := mem_ready.1 hi
    have hi' : i < ops.size := (Array.getElem?_eq_some_iff.1 ho).1
    have hil : i < listed.size := by omega
    have hdep : ∀ j ∈ afters ops i, Good j (x j) w := by
      intro j hj
      have hji : j < i := of_decide_eq_true (List.all_eq_true.1 (List.all_eq_true.1 back i (List.mem_range.2 hi')) _ hj)
      unfold afters at hj; rw [ho] at hj
      obtain ⟨e, he, rfl⟩ := List.mem_map.1 hj
      obtain ⟨he, hb⟩ := List.mem_filter.1 he
      exact hG _ (by omega) (hall e (by simpa using he) hb)
    refine wpOp_mono ?_ (step i hi' x w hR hdep)
    rintro a' w' ⟨v, rfl, hR', hK, hg⟩
    refine ih _ _ _ ?_ (by simpa using hs) hR' ?_
    · have hf : listed.toList[i]'(by simpa using hil) = false := by
        simp only [Array.getD_eq_getD_getElem?, Array.getElem?_eq_getElem hil, Option.getD_some] at h1
        simpa using h1
      rw [Array.toList_setIfInBounds, List.count_set (by simpa using hil)]
      have : 0 < listed.toList.count false := List.count_pos_iff.2 (by rw [← hf]; exact List.getElem_mem _)
      simp only [hf, beq_self_eq_true, if_true, Bool.true_beq, Bool.false_eq_true, if_false]
      omega
    · intro j hj hl
      rw [getD_set _ _ _ _ hil] at hl
      unfold upd
      by_cases hji : j = i
      · subst hji; simpa using hg
      · rw [if_neg hji] at hl ⊢
        exact mono _ _ _ _ (hG j hj hl) hK
theorem wp_region_lin {P : Program} {ops : Array Oper} {Q : Exit → Act → World → Prop} {id : Nat} {a0 : Act} {w0 : World} (hm : P.follows .mixedOrders = true) (mk : (Nat → Value) → Act) (x0 : Nat → Value) (h0 : a0 = mk x0)
    (R : World → Prop) (Keeps : World → World → Prop) (Good : Nat → Value → World → Prop)
    (back : ((List.range ops.size).all fun i => (afters ops i).all fun j => decide (j < i)) = true)
    (hR : R { w0 with drawn := w0.drawn + 1 })
    (mono : ∀ i v w w', Good i v w → Keeps w w' → Good i v w')
    (step : each (fun i => ∀ x w, R w → (∀ j ∈ afters ops i, Good j (x j) w) → wpOp P ops Q i (fun a' w' => ∃ v, a' = mk (upd x i v) ∧ R w' ∧ Keeps w w' ∧ Good i v w') (mk x) w) ops.size)
    (done : ∀ x w, R w → each (fun i => Good i (x i) w) ops.size → Q .normal (mk x) w) : (Code.region id ops true).wp P Q a0 w0 := by
  subst h0
  refine wp_region_any hm (wpAny_lin mk back mono (each_all step) (fun x w hR hG => done x w hR ?_) _ _ _ _ ?_ (by simp) hR ?_)
  · generalize ops.size = n at hG
    induction n with
    | zero => trivial
    | succ n ih => exact ⟨ih fun i hi => hG i (by omega), hG n (by omega)⟩
  · simp
  · intro i hi hl
    simp [Array.getD_eq_getD_getElem?, hi] at hl
end Go.Wk

/- A drawn region, one goal an operation, the frame said by a list. No condition. -/
/-! A drawn region, one goal an operation, the frame said by a list: which operation fills which place -/
namespace Go.Wk
open Go
/-- what is known of what was waited for -/
def All (G : Nat → Value → World → Prop) (x : Nat → Value) (w : World) : List Nat → Prop
  | [] => True
  | j :: js => G j (x j) w ∧ All G x w js
theorem all_of {G : Nat → Value → World → Prop} {x : Nat → Value} {w : World} : ∀ {js : List Nat}, (∀ j ∈ js, G j (x j) w) → All G x w js
  | [], _ => trivial
  | _ :: _, h => ⟨h _ (List.mem_cons_self ..), all_of fun j hj => h j (List.mem_cons_of_mem _ hj)⟩
/-- one operation -/
def Step (P : Program) (ops : Array Oper) (Q : Exit → Act → World → Prop) (mk : (Nat → Value) → Act) (R : World → Prop) (Keeps : World → World → Prop) (G : Nat → Value → World → Prop) (i : Nat) : Prop :=
  ∀ x w, R w → (∀ j ∈ afters ops i, G j (x j) w) → wpOp P ops Q i (fun a' w' => ∃ v, a' = mk (upd x i v) ∧ R w' ∧ Keeps w w' ∧ G i v w') (mk x) w
theorem step_of {P : Program} {ops : Array Oper} {Q : Exit → Act → World → Prop} {mk : (Nat → Value) → Act} {R : World → Prop} {Keeps : World → World → Prop} {G : Nat → Value → World → Prop} {i : Nat} {o : Oper} (js : List Nat)
    (ho : ops[i]? = some o) (hj : (js.all fun j => (afters ops i).contains j) = true)
    (h : ∀ x w, R w → All G x w js → ∀ K : Act → World → Prop, (∀ v w', R w' ∧ Keeps w w' ∧ G i v w' → K (mk (upd x i v)) w') →
      if Region.wanted o (yielded ops (mk x).tmps) = true then Oper.wp P o (mk x) w K Q else K ((mk x).put o.dst undef) w) : Step P ops Q mk R Keeps G i := by
  intro x w hR hd
  unfold wpOp
  simp only [ho]
  have h1 := h x w hR (all_of fun j hj' => hd j (List.contains_iff_mem.1 (List.all_eq_true.1 hj j hj'))) (fun a' w' => ∃ v, a' = mk (upd x i v) ∧ R w' ∧ Keeps w w' ∧ G i v w') (fun v w' h => ⟨v, rfl, h.1, h.2.1, h.2.2⟩)
  split
  · rename_i hw; rw [if_pos hw] at h1; exact .inl h1
  · rename_i hw; rw [if_neg hw] at h1; exact h1
inductive Steps (p : Nat → Prop) : Nat → Prop
  | nil : Steps p 0
  | cons (n : Nat) (h : p n) (t : Steps p n) : Steps p (n + 1)
theorem Steps.each {p : Nat → Prop} : ∀ {n : Nat}, Steps p n → Wk.each p n
  | _, .nil => trivial
  | _, .cons n h t => ⟨t.each, h⟩
/-- the frame: each place by the operation that fills it, or as it was -/
def fillL : List Value → List (Option Nat) → (Nat → Value) → List Value
  | v :: vs, some i :: ss, x => x i :: fillL vs ss x
  | v :: vs, none :: ss, x => v :: fillL vs ss x
  | vs, [], _ => vs
  | [], _, _ => []
def oldX : List Value → List (Option Nat) → Nat → Value
  | v :: vs, some i :: ss, j => if j = i then v else oldX vs ss j
  | _ :: vs, none :: ss, j => oldX vs ss j
  | _, _, _ => undef
theorem wp_lin {P : Program} {ops : Array Oper} {Q : Exit → Act → World → Prop} {id : Nat} {tm : List Value} {df : List Deferred} {w0 : World} (hm : P.follows .mixedOrders = true) (ss : List (Option Nat))
    (R : World → Prop) (Keeps : World → World → Prop) (G : Nat → Value → World → Prop)
    (h0 : fillL tm ss (oldX tm ss) = tm)
    (back : ((List.range ops.size).all fun i => (afters ops i).all fun j => decide (j < i)) = true)
    (n : Nat) (hn : ops.size = n)
    (hR : R w0.drew)
    (mono : ∀ i v w w', G i v w → Keeps w w' → G i v w')
    (step : Steps (Step P ops Q (fun x => { tmps := (fillL tm ss x).toArray, defers := df }) R Keeps G) n)
    (done : ∀ x w, R w → (∀ i, i < n → G i (x i) w) → Q .normal { tmps := (fillL tm ss x).toArray, defers := df } w) : (Code.region id ops true).wp P Q { tmps := tm.toArray, defers := df } w0 := by
  subst hn
  exact wp_region_lin hm (fun x => { tmps := (fillL tm ss x).toArray, defers := df }) (oldX tm ss) (by rw [h0]) R Keeps G back hR mono step.each fun x w hR h => done x w hR (each_all h)
end Go.Wk

/- A drawn region with one operation behind all others: each operation looked at once. No condition. -/
namespace Go.Wk
open Go
theorem wpAny_all {P : Program} {ops : Array Oper} {Q : Exit → Act → World → Prop} (listed : Array Bool) (a : Act) (w : World) (hl : ∀ i, i < ops.size → listed.getD i false = true) (hs : listed.size = ops.size) (hQ : Q .normal a w) : ∀ fuel, wpAny P .any ops Q fuel listed a w := by
  have hr : Region.ready .any ops listed = [] := by
    apply List.eq_nil_iff_forall_not_mem.2
    intro i hi
    obtain ⟨h1, o, ho, _⟩ := mem_ready.1 hi
    have hi' : i < ops.size := (Array.getElem?_eq_some_iff.1 ho).1
    have hil : i < listed.size := by omega
    have h2 := hl i hi'
    simp only [Array.getD_eq_getD_getElem?, Array.getElem?_eq_getElem hil, Option.getD_some] at h1 h2
    rw [h1] at h2; cases h2
  intro fuel
  cases fuel with
  | zero => exact ⟨hr, hQ⟩
  | succ fuel => exact ⟨fun _ => hQ, fun i hi => by rw [hr] at hi; cases hi⟩
theorem wpAny_last {P : Program} {ops : Array Oper} {Q : Exit → Act → World → Prop} (mk : (Nat → Value) → Act) {R : World → Prop} {Keeps : World → World → Prop} {Good : Nat → Value → World → Prop} (last : Nat) (hlast : last < ops.size)
    (back : ((List.range ops.size).all fun i => (afters ops i).all fun j => decide (j < i)) = true)
    (wit : List Nat) (cover : ((List.range ops.size).all fun i => i == last || (afters ops (wit.getD i 0)).contains i) = true)
    (mono : ∀ i v w w', Good i v w → Keeps w w' → Good i v w')
    (step : ∀ i, i < ops.size → i ≠ last → ∀ x w, R w → (∀ j ∈ afters ops i, Good j (x j) w) → wpOp P ops Q i (fun a' w' => ∃ v, a' = mk (upd x i v) ∧ R w' ∧ Keeps w w' ∧ Good i v w') (mk x) w)
    (fin : ∀ x w, R w → (∀ i, i < ops.size → i ≠ last → Good i (x i) w) → wpOp P ops Q last (fun a' w' => Q .normal a' w') (mk x) w) :
    ∀ (fuel : Nat) (listed : Array Bool) (x : Nat → Value) (w : World), listed.toList.count false ≤ fuel → listed.size = ops.size → R w → (∀ i, i < ops.size → listed.getD i false = true → Good i (x i) w) →
      listed.getD last false = false → (∀ i, i < ops.size → listed.getD i false = true → ∀ j ∈ afters ops i, listed.getD j false = true) → wpAny P .any ops Q fuel listed (mk x) w := by
  have gd : ∀ {listed : Array Bool} {i : Nat}, i < listed.size → listed.getD i true = listed.getD i false := fun {listed i} h => by
    simp only [Array.getD_eq_getD_getElem?, Array.getElem?_eq_getElem h, Option.getD_some]
  have ltj : ∀ i j, i < ops.size → j ∈ afters ops i → j < i := fun i j hi hj => of_decide_eq_true (List.all_eq_true.1 (List.all_eq_true.1 back i (List.mem_range.2 hi)) _ hj)
  intro fuel
  induction fuel with
  | zero =>
    intro listed x w hc hs hR hG hl hd
    exfalso
    have hil : last < listed.size := by omega
    have : false ∈ listed.toList := by
      simp only [Array.getD_eq_getD_getElem?, Array.getElem?_eq_getElem hil, Option.getD_some] at hl
      rw [← hl]; simp
    have := List.count_pos_iff.2 this
    omega
  | succ fuel ih =>
    intro listed x w hc hs hR hG hl hd
    refine ⟨fun hr => absurd (all_listed back hs hr last hlast) (by rw [hl]; simp), fun i hi => ?_⟩
    obtain ⟨h1, o, ho, hall⟩ := mem_ready.1 hi
    have hi' : i < ops.size := (Array.getElem?_eq_some_iff.1 ho).1
    have hil : i < listed.size := by omega
    have haft : ∀ j ∈ afters ops i, listed.getD j false = true := by
      intro j hj
      unfold afters at hj; rw [ho] at hj
      obtain ⟨e, he, rfl⟩ := List.mem_map.1 hj
      obtain ⟨he, hb⟩ := List.mem_filter.1 he
      exact hall e (by simpa using he) hb
    by_cases hil2 : i = last
    · subst hil2
      have hothers : ∀ n k, k < ops.size → ops.size ≤ k + n → k ≠ i → listed.getD k false = true := by
        intro n
        induction n with
        | zero => intro k hk hn; omega
        | succ n ihn =>
          intro k hk hn hki
          have hcv := List.all_eq_true.1 cover k (List.mem_range.2 hk)
          rw [Bool.or_eq_true, beq_iff_eq] at hcv
          rcases hcv with hcv | hcv
          · exact absurd hcv hki
          · obtain ⟨j, hjj⟩ : ∃ j, j = wit.getD k 0 := ⟨_, rfl⟩
            rw [← hjj] at hcv
            have hjk := List.contains_iff_mem.1 hcv
            have hj : j < ops.size := by
              rcases Nat.lt_or_ge j ops.size with h | h
              · exact h
              · unfold afters at hjk; rw [Array.getElem?_eq_none h] at hjk; cases hjk
            have hlt := ltj j k hj hjk
            by_cases hji : j = i
            · subst hji; exact haft k hjk
            · exact hd j hj (ihn j hj (by omega) hji) k hjk
      have hG' : ∀ k, k < ops.size → k ≠ i → Good k (x k) w := fun k hk hki => hG k hk (hothers ops.size k hk (by omega) hki)
      refine wpOp_mono ?_ (fin x w hR hG')
      intro a' w' hQ
      refine wpAny_all _ _ _ (fun k hk => ?_) (by simpa using hs) hQ fuel
      rw [getD_set _ _ _ _ hil]
      by_cases hki : k = i
      · rw [if_pos hki]
      · rw [if_neg hki]; exact hothers ops.size k hk (by omega) hki
    · refine wpOp_mono ?_ (step i hi' hil2 x w hR fun j hj => hG j (by have := ltj i j hi' hj; omega) (haft j hj))
      rintro a' w' ⟨v, rfl, hR', hK, hg⟩
      refine ih _ _ _ ?_ (by simpa using hs) hR' ?_ ?_ ?_
      · have hf : listed.toList[i]'(by simpa using hil) = false := by
          simp only [Array.getD_eq_getD_getElem?, Array.getElem?_eq_getElem hil, Option.getD_some] at h1
          simpa using h1
        rw [Array.toList_setIfInBounds, List.count_set (by simpa using hil)]
        have : 0 < listed.toList.count false := List.count_pos_iff.2 (by rw [← hf]; exact List.getElem_mem _)
        simp only [hf, beq_self_eq_true, if_true, Bool.true_beq, Bool.false_eq_true, if_false]
        omega
      · intro j hj hl
        rw [getD_set _ _ _ _ hil] at hl
        unfold upd
        by_cases hji : j = i
        · subst hji; simpa using hg
        · rw [if_neg hji] at hl ⊢
          exact mono _ _ _ _ (hG j hj hl) hK
      · rw [getD_set _ _ _ _ hil, if_neg (fun e => hil2 e.symm)]; exact hl
      · intro k hk hkl j hj
        rw [getD_set _ _ _ _ hil] at hkl ⊢
        by_cases hji : j = i
        · rw [if_pos hji]
        · rw [if_neg hji]
          by_cases hki : k = i
          · subst hki; exact haft j hj
          · rw [if_neg hki] at hkl; exact hd k hk hkl j hj
theorem wp_lin_last {P : Program} {ops : Array Oper} {Q : Exit → Act → World → Prop} {id : Nat} {tm : List Value} {df : List Deferred} {w0 : World} (hm : P.follows .mixedOrders = true) (ss : List (Option Nat))
    (R : World → Prop) (Keeps : World → World → Prop) (G : Nat → Value → World → Prop) (o : Oper)
    (h0 : fillL tm ss (oldX tm ss) = tm)
    (back : ((List.range ops.size).all fun i => (afters ops i).all fun j => decide (j < i)) = true)
    (n : Nat) (hn : ops.size = n + 1) (ho : ops[n]? = some o)
    (hgd : o.guard = none) (wit : List Nat) (cover : ((List.range ops.size).all fun i => i == n || (afters ops (wit.getD i 0)).contains i) = true)
    (hR : R w0.drew)
    (mono : ∀ i v w w', G i v w → Keeps w w' → G i v w')
    (step : Steps (Step P ops Q (fun x => { tmps := (fillL tm ss x).toArray, defers := df }) R Keeps G) n)
    (done : ∀ x w, R w → (∀ i, i < n → G i (x i) w) →
      ∀ fr, fr = fillL tm ss x → Oper.wp P o { tmps := fr.toArray, defers := df } w (fun a' w' => Q .normal a' w') Q) :
    (Code.region id ops true).wp P Q { tmps := tm.toArray, defers := df } w0 := by
  have e0 : ({ tmps := tm.toArray, defers := df } : Act) = (fun x => ({ tmps := (fillL tm ss x).toArray, defers := df } : Act)) (oldX tm ss) := by simp only [h0]
  rw [e0]
  refine wp_region_any hm (wpAny_last (fun x => { tmps := (fillL tm ss x).toArray, defers := df }) n (by omega) back wit cover mono (fun i hi hne => each_all step.each i (by omega)) (fun x w hR hG => ?_) _ _ _ _ ?_ (by simp) hR ?_ ?_ ?_)
  · have h1 := done x w hR (fun i hi => hG i (by omega) (by omega)) _ rfl
    unfold wpOp
    have hw : Region.wanted o (yielded ops (fillL tm ss x).toArray) = true := by simp [Region.wanted, hgd]
    simp only [ho, hw, if_true]
    exact .inl h1
  · simp
  · intro i hi hl
    simp [Array.getD_eq_getD_getElem?, hi] at hl
  · simp [Array.getD_eq_getD_getElem?, hn]
  · intro i hi hl
    simp [Array.getD_eq_getD_getElem?, hi] at hl
end Go.Wk

/- A drawn region: operations in whatever order, each looked at once, and a tail that is forced. No condition. -/
namespace Go.Wk
open Go
section
variable {P : Program} {ops : Array Oper} {Q : Exit → Act → World → Prop}
theorem afters_lt {n : Nat} (back : ((List.range ops.size).all fun i => (afters ops i).all fun j => decide (j < i)) = true) (i j : Nat) (hi : i < ops.size) (hj : j ∈ afters ops i) : j < i :=
  of_decide_eq_true (List.all_eq_true.1 (List.all_eq_true.1 back i (List.mem_range.2 hi)) _ hj)
theorem count_up {listed : Array Bool} {i fuel : Nat} (hil : i < listed.size) (h1 : listed.getD i true = false) (hc : listed.toList.count false ≤ fuel + 1) : (listed.setIfInBounds i true).toList.count false ≤ fuel := by
  have hf : listed.toList[i]'(by simpa using hil) = false := by
    simp only [Array.getD_eq_getD_getElem?, Array.getElem?_eq_getElem hil, Option.getD_some] at h1
    simpa using h1
  rw [Array.toList_setIfInBounds, List.count_set (by simpa using hil)]
  have : 0 < listed.toList.count false := List.count_pos_iff.2 (by rw [← hf]; exact List.getElem_mem _)
  simp only [hf, beq_self_eq_true, if_true, Bool.true_beq, Bool.false_eq_true, if_false]
  omega
theorem count_none {listed : Array Bool} {i : Nat} (hil : i < listed.size) (hl : listed.getD i false = false) (hc : listed.toList.count false ≤ 0) : False := by
  have : false ∈ listed.toList := by
    simp only [Array.getD_eq_getD_getElem?, Array.getElem?_eq_getElem hil, Option.getD_some] at hl
    rw [← hl]; simp
  have := List.count_pos_iff.2 this
  omega
theorem ready_after {listed : Array Bool} {i : Nat} (hi : i ∈ Region.ready .any ops listed) : i < ops.size ∧ listed.getD i true = false ∧ ∀ j ∈ afters ops i, listed.getD j false = true := by
  obtain ⟨h1, o, ho, hall⟩ := mem_ready.1 hi
  refine ⟨(Array.getElem?_eq_some_iff.1 ho).1, h1, fun j hj => ?_⟩
  unfold afters at hj; rw [ho] at hj
  obtain ⟨e, he, rfl⟩ := List.mem_map.1 hj
  obtain ⟨he, hb⟩ := List.mem_filter.1 he
  exact hall e (by simpa using he) hb
theorem wpAny_tail (n : Nat) (back : ((List.range ops.size).all fun i => (afters ops i).all fun j => decide (j < i)) = true)
    (chain : ((List.range ops.size).all fun j => Nat.ble j n || (afters ops j).contains (j - 1)) = true) :
    ∀ (l : List Oper) (k fuel : Nat) (listed : Array Bool) (a : Act) (w : World), n ≤ k → k + l.length = ops.size → (∀ j, l[j]? = ops[k + j]?) → listed.size = ops.size → listed.toList.count false ≤ fuel →
      (∀ i, i < ops.size → (listed.getD i false = true ↔ i < k)) → wpList P ops Q l a w → wpAny P .any ops Q fuel listed a w := by
  intro l
  induction l with
  | nil =>
    intro k fuel listed a w hn hk hl hs hc hL hw
    exact wpAny_all listed a w (fun i hi => (hL i hi).2 (by simp at hk; omega)) hs hw fuel
  | cons o l ih =>
    intro k fuel listed a w hn hk hl hs hc hL hw
    simp only [List.length_cons] at hk
    have hkn : k < ops.size := by omega
    have hkf : listed.getD k false = false := by
      cases h : listed.getD k false with
      | false => rfl
      | true => have := (hL k hkn).1 h; omega
    have ho : ops[k]? = some o := by have := hl 0; simpa using this.symm
    cases fuel with
    | zero => exact (count_none (by omega) hkf hc).elim
    | succ fuel =>
      refine ⟨fun hr => absurd (all_listed back hs hr k hkn) (by rw [hkf]; simp), fun i hi => ?_⟩
      obtain ⟨hi', h1, haft⟩ := ready_after hi
      have hif : listed.getD i false = false := by
        have hil : i < listed.size := by omega
        simp only [Array.getD_eq_getD_getElem?, Array.getElem?_eq_getElem hil, Option.getD_some] at h1 ⊢
        exact h1
      have hik : i = k := by
        have h2 : ¬ i < k := fun h => by rw [(hL i hi').2 h] at hif; cases hif
        rcases Nat.lt_or_ge k i with h3 | h3
        · exfalso
          have hch := List.all_eq_true.1 chain i (List.mem_range.2 hi')
          rw [Bool.or_eq_true] at hch
          rcases hch with hch | hch
          · have := Nat.le_of_ble_eq_true hch; omega
          · have := haft _ (List.contains_iff_mem.1 hch)
            have := (hL (i - 1) (by omega)).1 this
            omega
        · omega
      subst hik
      have hnext : ∀ a' w', wpList P ops Q l a' w' → wpAny P .any ops Q fuel (listed.setIfInBounds i true) a' w' := fun a' w' h =>
        ih (i + 1) fuel _ a' w' (by omega) (by omega) (fun j => by have := hl (j + 1); rw [List.getElem?_cons_succ] at this; rw [this]; congr 1; omega) (by simpa using hs) (count_up (by omega) h1 hc)
          (fun q hq => by
            rw [getD_set _ _ _ _ (by omega)]
            by_cases hqi : q = i
            · subst hqi; simp
            · rw [if_neg hqi, hL q hq]; omega) h
      unfold wpOp
      simp only [ho]
      unfold wpList at hw
      split
      · rename_i hwt
        rw [if_pos hwt] at hw
        rcases hw with hw | hw
        · exact .inl (Oper.wp_mono hnext hw)
        · exact .inr hw
      · rename_i hwt
        rw [if_neg hwt] at hw
        exact hnext _ _ hw
theorem wpAny_free (mk : (Nat → Value) → Act) {R : World → Prop} {Keeps : World → World → Prop} {Good : Nat → Value → World → Prop} (n : Nat) (hn : n < ops.size) (l : List Oper) (hln : n + l.length = ops.size) (hl : ∀ j, l[j]? = ops[n + j]?)
    (back : ((List.range ops.size).all fun i => (afters ops i).all fun j => decide (j < i)) = true)
    (chain : ((List.range ops.size).all fun j => Nat.ble j n || (afters ops j).contains (j - 1)) = true)
    (wit : List Nat) (cover : ((List.range n).all fun i => (afters ops (wit.getD i 0)).contains i && Nat.ble (wit.getD i 0) n) = true)
    (mono : ∀ i v w w', Good i v w → Keeps w w' → Good i v w')
    (step : ∀ i, i < n → ∀ x w, R w → (∀ j ∈ afters ops i, Good j (x j) w) → wpOp P ops Q i (fun a' w' => ∃ v, a' = mk (upd x i v) ∧ R w' ∧ Keeps w w' ∧ Good i v w') (mk x) w)
    (fin : ∀ x w, R w → (∀ i, i < n → Good i (x i) w) → wpList P ops Q l (mk x) w) :
    ∀ (fuel : Nat) (listed : Array Bool) (x : Nat → Value) (w : World), listed.toList.count false ≤ fuel → listed.size = ops.size → R w → (∀ i, i < n → listed.getD i false = true → Good i (x i) w) →
      (∀ i, n ≤ i → i < ops.size → listed.getD i false = false) → (∀ i, i < ops.size → listed.getD i false = true → ∀ j ∈ afters ops i, listed.getD j false = true) → wpAny P .any ops Q fuel listed (mk x) w := by
  intro fuel
  induction fuel with
  | zero =>
    intro listed x w hc hs hR hG hl0 hd
    exact (count_none (i := n) (by omega) (hl0 n (Nat.le_refl _) hn) hc).elim
  | succ fuel ih =>
    intro listed x w hc hs hR hG hl0 hd
    refine ⟨fun hr => absurd (all_listed back hs hr n hn) (by rw [hl0 n (Nat.le_refl _) hn]; simp), fun i hi => ?_⟩
    have hi0 := hi
    obtain ⟨hi', h1, haft⟩ := ready_after hi
    rcases Nat.lt_or_ge i n with hin | hin
    · refine wpOp_mono ?_ (step i hin x w hR fun j hj => hG j (by have := afters_lt (n := 0) back i j hi' hj; omega) (haft j hj))
      rintro a' w' ⟨v, rfl, hR', hK, hg⟩
      refine ih _ _ _ (count_up (by omega) h1 hc) (by simpa using hs) hR' ?_ ?_ ?_
      · intro j hj hlj
        rw [getD_set _ _ _ _ (by omega)] at hlj
        unfold upd
        by_cases hji : j = i
        · subst hji; simpa using hg
        · rw [if_neg hji] at hlj ⊢
          exact mono _ _ _ _ (hG j hj hlj) hK
      · intro j hj hj2
        rw [getD_set _ _ _ _ (by omega), if_neg (by omega)]; exact hl0 j hj hj2
      · intro k hk hkl j hj
        rw [getD_set _ _ _ _ (by omega)] at hkl ⊢
        by_cases hji : j = i
        · rw [if_pos hji]
        · rw [if_neg hji]
          by_cases hki : k = i
          · subst hki; exact haft j hj
          · rw [if_neg hki] at hkl; exact hd k hk hkl j hj
    · have hi2 : i = n := by
        rcases Nat.lt_or_ge n i with h3 | h3
        · exfalso
          have hch := List.all_eq_true.1 chain i (List.mem_range.2 hi')
          rw [Bool.or_eq_true] at hch
          rcases hch with hch | hch
          · have := Nat.le_of_ble_eq_true hch; omega
          · have := haft _ (List.contains_iff_mem.1 hch)
            rw [hl0 (i - 1) (by omega) (by omega)] at this; cases this
        · omega
      subst hi2
      have hothers : ∀ m k, k < i → i ≤ k + m → listed.getD k false = true := by
        intro m
        induction m with
        | zero => intro k hk hm; omega
        | succ m ihm =>
          intro k hk hm
          have hcv := List.all_eq_true.1 cover k (List.mem_range.2 hk)
          rw [Bool.and_eq_true] at hcv
          obtain ⟨j, hjj⟩ : ∃ j, j = wit.getD k 0 := ⟨_, rfl⟩
          rw [← hjj] at hcv
          have hjk := List.contains_iff_mem.1 hcv.1
          have hjn := Nat.le_of_ble_eq_true hcv.2
          have hlt := afters_lt (n := 0) back j k (by omega) hjk
          by_cases hji : j = i
          · subst hji; exact haft k hjk
          · exact hd j (by omega) (ihm j (by omega) (by omega)) k hjk
      have htail := fin x w hR fun k hk => hG k hk (hothers i k hk (by omega))
      have hfin := wpAny_tail (P := P) (Q := Q) i back chain l i (fuel + 1) listed (mk x) w (Nat.le_refl _) hln hl hs hc (fun q hq => ⟨fun h => by
          rcases Nat.lt_or_ge q i with h' | h'
          · exact h'
          · have h2 := hl0 q h' hq; rw [h2] at h; exact absurd h (by simp)
        , fun h => hothers i q h (by omega)⟩) htail
      exact hfin.2 i hi0
end
theorem wp_lin_tail {P : Program} {ops : Array Oper} {Q : Exit → Act → World → Prop} {id : Nat} {tm : List Value} {df : List Deferred} {w0 : World} (hm : P.follows .mixedOrders = true) (ss : List (Option Nat))
    (R : World → Prop) (Keeps : World → World → Prop) (G : Nat → Value → World → Prop)
    (h0 : fillL tm ss (oldX tm ss) = tm)
    (back : ((List.range ops.size).all fun i => (afters ops i).all fun j => decide (j < i)) = true)
    (n : Nat) (l : List Oper) (hdr : ops.toList.drop n = l) (hn : n < ops.size)
    (chain : ((List.range ops.size).all fun j => Nat.ble j n || (afters ops j).contains (j - 1)) = true)
    (wit : List Nat) (cover : ((List.range n).all fun i => (afters ops (wit.getD i 0)).contains i && Nat.ble (wit.getD i 0) n) = true)
    (hR : R w0.drew)
    (mono : ∀ i v w w', G i v w → Keeps w w' → G i v w')
    (step : Steps (Step P ops Q (fun x => { tmps := (fillL tm ss x).toArray, defers := df }) R Keeps G) n)
    (done : ∀ x w, R w → (∀ i, i < n → G i (x i) w) → ∀ fr, fr = fillL tm ss x → wpList P ops Q l { tmps := fr.toArray, defers := df } w) :
    (Code.region id ops true).wp P Q { tmps := tm.toArray, defers := df } w0 := by
  have e0 : ({ tmps := tm.toArray, defers := df } : Act) = (fun x => ({ tmps := (fillL tm ss x).toArray, defers := df } : Act)) (oldX tm ss) := by simp only [h0]
  rw [e0]
  refine wp_region_any hm (wpAny_free (fun x => { tmps := (fillL tm ss x).toArray, defers := df }) n hn l (by rw [← hdr]; simp; omega) (fun j => by rw [← hdr, List.getElem?_drop]; simp) back chain wit cover mono (fun i hi => each_all step.each i hi) (fun x w hR hG => done x w hR hG _ rfl) _ _ _ _ ?_ (by simp) hR ?_ ?_ ?_)
  · simp
  · intro i hi hl
    have : i < ops.size := by omega
    simp [Array.getD_eq_getD_getElem?, this] at hl
  · intro i hi hi2
    simp [Array.getD_eq_getD_getElem?, hi2]
  · intro i hi hl
    simp [Array.getD_eq_getD_getElem?, hi] at hl
end Go.Wk

/- Signs in base 16. No condition. -/
namespace Go.Proofs.YthacnnmlephkhaaDoor
open Go Go.RowKit Go.Wk
theorem reg_all2 : ∀ c : Fin 256, regB (UInt8.ofNat c.val) = (!whiteI (c.val : Int) && !((c.val : Int) == 40 || (c.val : Int) == 41 || (c.val : Int) == 60 || (c.val : Int) == 62 || (c.val : Int) == 91 || (c.val : Int) == 93 || (c.val : Int) == 123 || (c.val : Int) == 125 || (c.val : Int) == 47 || (c.val : Int) == 37)) := by decide +kernel
theorem and_all15 : ∀ n : Fin 256, bits BinOp.and IntKind.u8 ((n.val : Nat) : Int) 15 = ((n.val % 16 : Nat) : Int) := by decide +kernel
theorem and_15 (c : UInt8) : bits BinOp.and IntKind.u8 (c.toNat : Int) 15 = ((c.toNat % 16 : Nat) : Int) := and_all15 ⟨c.toNat, c.toNat_lt⟩
theorem hex_at : ∀ n : Fin 16, (⟨#[48, 49, 50, 51, 52, 53, 54, 55, 56, 57, 97, 98, 99, 100, 101, 102]⟩ : ByteArray)[n.val]? = some (hexD n.val) := by decide +kernel
def hexB : ByteArray := ⟨#[48, 49, 50, 51, 52, 53, 54, 55, 56, 57, 97, 98, 99, 100, 101, 102]⟩
set_option maxRecDepth 100000 in
theorem hex_idx (n : Nat) (h : n < 16) (W : World) : (Instr.index 9 (.string ⟨#[48, 49, 50, 51, 52, 53, 54, 55, 56, 57, 97, 98, 99, 100, 101, 102]⟩) (.int .u8 (n : Int))).run Tryd.prog W = .ok (.int .u8 ((hexD n).toNat : Int)) W := by
  have : n = 0 ∨ n = 1 ∨ n = 2 ∨ n = 3 ∨ n = 4 ∨ n = 5 ∨ n = 6 ∨ n = 7 ∨ n = 8 ∨ n = 9 ∨ n = 10 ∨ n = 11 ∨ n = 12 ∨ n = 13 ∨ n = 14 ∨ n = 15 := by omega
  rcases this with rfl | rfl | rfl | rfl | rfl | rfl | rfl | rfl | rfl | rfl | rfl | rfl | rfl | rfl | rfl | rfl
  all_goals rfl
set_option maxRecDepth 100000 in
theorem hex_cut (n : Nat) (h : n < 16) (W : World) : (Instr.slice 9 (.string ⟨#[48, 49, 50, 51, 52, 53, 54, 55, 56, 57, 97, 98, 99, 100, 101, 102]⟩) (some (.int .u8 (n : Int))) (some (.int .u8 ((n : Int) + 1))) none).run Tryd.prog W = .ok (.string ⟨#[hexD n]⟩) W := by
  have : n = 0 ∨ n = 1 ∨ n = 2 ∨ n = 3 ∨ n = 4 ∨ n = 5 ∨ n = 6 ∨ n = 7 ∨ n = 8 ∨ n = 9 ∨ n = 10 ∨ n = 11 ∨ n = 12 ∨ n = 13 ∨ n = 14 ∨ n = 15 := by omega
  rcases this with rfl | rfl | rfl | rfl | rfl | rfl | rfl | rfl | rfl | rfl | rfl | rfl | rfl | rfl | rfl | rfl
  all_goals rfl
end Go.Proofs.YthacnnmlephkhaaDoor

/- Walks and laws, joined: part D. No condition. -/
import Derived.Test.YthffpbkndnhlfaaGreatDoorPrJC
import Derived.Test.YthffpbkndnhlfaaGreatDoorPrJB
import Derived.Test.YthffpbkndnhlfaaGreatDoorPrJA
import Derived.BigRegion
import Derived.Shelf.Strings.Builder1
import Derived.Shelf.Strings.Builder2
import Derived.Shelf.Strings.Trim
import Derived.Shelf.Small.Utf8
import Derived.Shelf.Small.Strs
import Derived.Shelf.Strings.BuilderF
import Derived.Shelf.Strings.BuilderK
import Derived.Shelf.Strings.Builder2Cap
import Derived.Shelf.Strconv.Itoa0
import Derived.Shelf.Strconv.Itoa1
import Derived.Shelf.LaysM
import Derived.Shelf.Strconv.Itoa2
import Derived.Shelf.Strconv.Itoa3
import Derived.Shelf.Strconv.Itoa4
import Derived.Shelf.Strings.Search1
import Derived.Shelf.Strings.Search2
import Derived.Shelf.Strings.Search3
import Derived.Shelf.Strings.Shaped
import Derived.Shelf.Strings.Prefix
import Derived.Shelf.Unicode.Decode
import Derived.Shelf.Strings.Runes
import Derived.Shelf.Strings.AsciiSet
import Derived.Shelf.Bits.Mul64
import Derived.Shelf.Strings.Repeat
import Derived.Shelf.Unicode.DecodeSlow
import Derived.Shelf.Unicode.DecodeAny
import Derived.Shelf.Unicode.DecodeLast
import Derived.Shelf.Strings.BuilderCap
import Derived.Shelf.Bytes.SlClone
import Derived.Shelf.Bytes.SlJoin
import Derived.Test.YthffpbkndnhlfaaGreatDoorProg
import Derived.Below
import Derived.Laws.OwnMore
import Derived.Deep.Draws
import Derived.Laws.Rows
import Derived.Maps.AppendAt
import Derived.Laws.AppendOwnNone
set_option linter.unusedSimpArgs false
set_option linter.unusedVariables false
/- May an object be? By the document: a dictionary's entries. No condition. -/
namespace Go.Proofs.YthffpbkndnhlfaaGreatDoor
open Go Go.RowKit Go.Wk
set_option maxHeartbeats 2000000 in
theorem ref_In (n : Int) (w : World) : Calls Tryz.prog 72 #[.int .i64 n] w fun e w' => e = .returned (.bool (decide (-214748364799999 ≤ n ∧ n ≤ 214748364799999))) ∧ w = w' := by
 go_enter Tryz.func72, Tryz.ntmps72
 go_wp2
 all_goals go_ret
 all_goals refine ⟨?_, rfl⟩
 all_goals first | (simp_all; done) | (simp_all; omega)
theorem ob_five {w : World} {o : Ob} {vs : List Value} (h : ObAt w o vs) : ∃ (n : Int) (A1 A2 A3 : Option Addr) (n1 c1 n2 c2 n3 c3 : Nat), vs = [.int .i64 o.kind, .int .i64 n, .slice A1 n1 c1, .slice A2 n2 c2, .slice A3 n3 c3] := by
 cases h with
 | mk k n b l d A AL AD c cL cD gL oL gD oD vl vd => exact ⟨_, _, _, _, _, _, _, _, _, _, rfl⟩
def RMayC (dep : Nat) : Prop := ∀ (o : Ob) (vs : List Value) (w : World), ObAt w o vs → o.bulk ≤ 1048576 → Calls Tryz.prog 39 #[.agg vs.toArray, .int .i64 (dep : Int)] w fun e w' => e = .returned (.bool (o.may dep)) ∧ Below w.heap.size w w'
def entQ (dep : Nat) (d : List (List UInt8 × Ob)) (i : Nat) : Bool := atI d (fun e => nameOk e.1 && (e.2.kind != 8 && (e.2.kind != 0 && e.2.may dep))) i && (i == 0 || riseF d i)
theorem entQ_all (dep : Nat) (d : List (List UInt8 × Ob)) : ((List.range d.length).all (entQ dep d)) = (risesB d && mayD dep d) := by
 rw [← rises_upTo, mayD_all]
 unfold upTo entQ
 rw [Bool.eq_iff_iff]
 simp only [List.all_eq_true, List.mem_range, Bool.and_eq_true, Bool.or_eq_true]
 constructor
 ·intro h
  refine ⟨fun i hi => (h i hi).2, fun e he => ?_⟩
  obtain ⟨i, hi, rfl⟩ := List.getElem_of_mem he
  have := (h i hi).1
  unfold atI at this
  rw [List.getElem?_eq_getElem hi] at this
  simp only [Bool.and_eq_true] at this
  exact ⟨⟨this.1, this.2.2.1⟩, this.2.1, this.2.2.2⟩
 ·rintro ⟨h1, h2⟩ i hi
  refine ⟨?_, h1 i hi⟩
  unfold atI
  rw [List.getElem?_eq_getElem hi]
  have := h2 d[i] (List.getElem_mem hi)
  simp only [Bool.and_eq_true]
  exact ⟨this.1.1, this.2.1, this.1.2, this.2.2⟩
def G7 (p q gD oD m3 cD jj : Nat) (ii kk d1 d0 : Int) (S S0 : ByteArray) (ag : Array Value) (nk pos le a2 a3 a4 b8 b0 mm : Bool) : Nat → Value → World → Prop := fun j v w => match j with
 | 0 => v = .pointer (some ⟨p, 0, none⟩)
 | 1 => v = .string S
 | 2 => ∃ A c, v = .slice A S.size c ∧ Byt w A S.data.toList
 | 3 => v = .bool nk
 | 4 | 5 => v = .bool (!nk)
 | 6 => nk = true → v = .int .i64 ii
 | 7 => nk = true → v = .bool pos
 | 8 => (nk = true → v = .bool pos) ∧ (nk = false → v = undef)
 | 9 => nk = true → pos = true → v = .pointer (some ⟨p, 0, none⟩)
 | 10 => nk = true → pos = true → v = .string S
 | 11 => nk = true → pos = true → v = .pointer (some ⟨q, 4, none⟩)
 | 12 => nk = true → pos = true → v = .slice (some ⟨gD, oD, none⟩) m3 cD
 | 13 => nk = true → pos = true → v = .int .i64 ii
 | 14 => nk = true → pos = true → v = .int .i64 (jj : Int)
 | 15 | 16 => nk = true → pos = true → v = .pointer (some ⟨gD, oD + jj * 6, none⟩)
 | 17 => nk = true → pos = true → v = .string S0
 | 18 => nk = true → pos = true → v = .bool le
 | 19 => nk = true → v = .bool (pos && le)
 | 20 | 21 => v = .bool a2
 | 22 | 23 => a2 = false → v = .pointer (some ⟨p, 1, none⟩)
 | 24 => a2 = false → v = .int .i64 kk
 | 25 => a2 = false → v = .bool b8
 | 26 | 27 => v = .bool a3
 | 28 | 29 => a3 = false → v = .pointer (some ⟨p, 1, none⟩)
 | 30 => a3 = false → v = .int .i64 kk
 | 31 => a3 = false → v = .bool b0
 | 32 | 33 => v = .bool a4
 | 34 => a4 = false → v = .pointer (some ⟨p, 1, none⟩)
 | 35 => a4 = false → v = .agg ag
 | 36 => a4 = false → v = .int .i64 d1
 | 37 => a4 = false → v = .int .i64 d0
 | 38 => a4 = false → v = .bool mm
 | _ => a4 = false → v = .bool (!mm)
theorem G7_mono {p q gD oD m3 cD jj : Nat} {ii kk d1 d0 : Int} {S S0 : ByteArray} {ag : Array Value} {nk pos le a2 a3 a4 b8 b0 mm : Bool} (j : Nat) (v : Value) (w w' : World) (hG : G7 p q gD oD m3 cD jj ii kk d1 d0 S S0 ag nk pos le a2 a3 a4 b8 b0 mm j v w) (hk : Below w.heap.size w w') : G7 p q gD oD m3 cD jj ii kk d1 d0 S S0 ag nk pos le a2 a3 a4 b8 b0 mm j v w' := by
 unfold G7 at hG ⊢
 split at hG <;> first
  | exact hG
  | (obtain ⟨A, c, e, hb⟩ := hG; exact ⟨A, c, e, hb.below hk⟩)
set_option maxHeartbeats 8000000 in
set_option maxRecDepth 100000 in
theorem ref_ents (dep : Nat) (hd : dep ≤ 28) (hi : ∀ d', dep = d' + 1 → RMayC d') (k n : Int) (b : List UInt8) (l : List Ob) (d : List (List UInt8 × Ob)) (vs : List Value) (w : World) (h : ObAt w (.mk k n b l d) vs) (hbk : (Ob.mk k n b l d).bulk ≤ 1048576) :
 Calls Tryz.prog 74 #[.agg vs.toArray, .int .i64 (dep : Int)] w fun e w' => e = .returned (.bool (decide (0 < dep) && (risesB d && mayD (dep - 1) d))) ∧ Below w.heap.size w w' := by
 have zk : b.length + bulkL l + bulkD d + 1 ≤ 1048576 := hbk
 have zd := bulkD_len d
 have zdk := fun i hi => bulkD_at d i hi
 have zbd : bulkD d ≤ 1048576 := by omega
 rw [← entQ_all]
 cases h with
 | mk _ _ _ _ _ A AL AD c cL cD gL oL gD oD vl vd h1 h2 h3 h4 hB hbc hAc hlc hlm hdc hdm hAL hl hlv hAD hdo hdk hdv =>
 obtain ⟨W2, hW2⟩ : ∃ W, W = w.alloc (.cells #[.int .i64 k, .int .i64 n, .slice A b.length c, .slice AL l.length cL, .slice AD d.length cD] 32) := ⟨_, rfl⟩
 have hb2 : Below w.heap.size w W2 := by rw [hW2]; exact (Below.refl _ _).alloc (Nat.le_refl _) _
 have ocell : ∀ i v, #[Value.int .i64 k, .int .i64 n, .slice A b.length c, .slice AL l.length cL, .slice AD d.length cD][i]? = some v → W2.cell? ⟨w.heap.size, i, none⟩ = some v := by
  intro i v hv
  have h0 := alloc_cell (w := w) (vs := #[.int .i64 k, .int .i64 n, .slice A b.length c, .slice AL l.length cL, .slice AD d.length cD]) (e := 32) (i := i)
  rw [Nat.zero_add, hv] at h0
  rw [hW2]; exact h0
 have o2 := ocell 2 _ rfl
 have o4 := ocell 4 _ rfl
 clear ocell
 obtain ⟨m1, hm1⟩ : ∃ m, m = b.length := ⟨_, rfl⟩
 have zb : m1 ≤ 1048576 := by omega
 obtain ⟨m2, hm2⟩ : ∃ m, m = l.length := ⟨_, rfl⟩
 obtain ⟨m3, hm3⟩ : ∃ m, m = d.length := ⟨_, rfl⟩
 have zd3 : m3 ≤ 1048576 := by omega
 rw [← hm1] at hW2 o2 ⊢
 rw [← hm2] at hW2 ⊢
 rw [← hm3] at hW2 o4 ⊢
 clear hB hbc hAc hlc hlm hdc hdm hAL hl hlv hm1 hm2 zk zd
 replace hm3 := hi_ hm3
 replace hAD := hi_ hAD
 replace hdo := hi_ hdo
 replace hdk := hi_ hdk
 replace hdv := hi_ hdv
 replace zdk := hi_ zdk
 replace hW2 := hi_ hW2
 replace hb2 := hi_ hb2
 cases dep with
 | zero =>
  clear hi
  go_enter Tryz.func74, Tryz.ntmps74
  go_upto_region 1 with (fail)
  rw [← hW2.out]
  go_wp2
  go_ret
  exact ⟨rfl, hb2.out⟩
 | succ dp =>
  have hi := hi dp rfl
  have e1 : decide (0 < dp + 1) = true := by simp
  rw [e1, Bool.true_and, Nat.add_sub_cancel]
  replace hi := hi_ hi
  clear e1
  obtain ⟨E, hE⟩ : ∃ E, E = (List.range m3).all (entQ dp d) := ⟨_, rfl⟩
  rw [← hE]
  replace hE := hi_ hE
  have e2 : (((dp + 1 : Nat) : Int)) = (dp : Int) + 1 := by omega
  rw [e2]
  clear e2
  go_enter Tryz.func74, Tryz.ntmps74
  go_upto_region 1 with (fail)
  rw [← hW2.out]
  go_wp2
  go_loopw [5, 6] (fun s5 _ wr => ∃ i : Nat, i ≤ m3 ∧ s5 = .int .i64 i ∧ (∀ j, j < i → entQ dp d j = true) ∧ Below W2.heap.size W2 wr) (fun s5 _ _ => m3 - (RowKit.intOf s5).toNat)
  case atStart => exact ⟨0, by omega, rfl, fun j hj => by omega, Below.refl _ _⟩
  case round =>
   obtain ⟨i, hin, rfl, hP, hBr⟩ := hrel
   have r2 := (hBr.cell (cell_lt o2)).trans o2
   have r4 := (hBr.cell (cell_lt o4)).trans o4
   by_cases him : i < m3
   ·have hil : i < d.length := by rw [← hm3.out]; exact him
    have hAe := hAD.out (by omega)
    subst hAe
    obtain ⟨e, he⟩ : ∃ e, e = d[i] := ⟨_, rfl⟩
    have hob := hdo.out i hil
    rw [← he] at hob
    have hzk := zdk.out i hil
    rw [← he] at hzk
    obtain ⟨us, hus⟩ : ∃ us, us = vd i := ⟨_, rfl⟩
    have hcv := hdv.out i hil
    rw [← hus] at hob hcv
    have hck := (hdk.out i hil).2
    rw [← he] at hck
    have hbw : Below w.heap.size w wr := bthen hb2.out hBr
    have hobr := hob.kept hbw
    have x0 : wr.cell? ⟨gD, oD + i * 6, none⟩ = some (.string (bytes e.1)) := by
     rw [Nat.mul_comm] at hck; exact (hbw.cell (cell_lt hck)).trans hck
    obtain ⟨en, E1, E2, E3, en1, ec1, en2, ec2, en3, ec3, hys⟩ := ob_five hob
    obtain ⟨S, hS⟩ : ∃ S, S = bytes e.1 := ⟨_, rfl⟩
    rw [← hS] at x0
    have hSl : S.data.toList = e.1 := by rw [hS]; rfl
    have hSz : S.size = e.1.length := by rw [hS, bytes_size]
    have zS : S.size ≤ 1048576 := by omega
    subst hys
    obtain ⟨kk, hkk⟩ : ∃ k, k = e.2.kind := ⟨_, rfl⟩
    rw [← hkk] at hob hcv hobr
    have five : ∀ j u, [Value.int .i64 kk, .int .i64 en, .slice E1 en1 ec1, .slice E2 en2 ec2, .slice E3 en3 ec3][j]? = some u → wr.cell? ⟨gD, oD + i * 6 + 1 + j, none⟩ = some u := fun j u hj => by
     have h0 := hcv j (by have := (List.getElem?_eq_some_iff.1 hj).1; simpa using this)
     rw [hj] at h0
     have h1 := (hbw.cell (cell_lt h0)).trans h0
     rw [show oD + (6 * i + 1 + j) = oD + i * 6 + 1 + j by omega] at h1
     exact h1
    have x1 := five 0 _ rfl
    have x2 := five 1 _ rfl
    have x3 := five 2 _ rfl
    have x4 := five 3 _ rfl
    have x5 := five 4 _ rfl
    have hrise : i ≠ 0 → ∀ (S0 : ByteArray), S0 = bytes (d[i - 1]'(by omega)).1 → riseF d i = ltB S0.data.toList S.data.toList := fun h0 S0 hS0 => by
     unfold riseF
     rw [List.getElem?_eq_getElem (by omega : i - 1 < d.length), List.getElem?_eq_getElem hil, hSl, hS0, he]
     rfl
    have hentq : entQ dp d i = ((nameOk e.1 && (kk != 8 && (kk != 0 && e.2.may dp))) && (i == 0 || riseF d i)) := by
     unfold entQ atI
     rw [List.getElem?_eq_getElem hil, ← he, hkk]
    clear five hcv hck hob hSz
    have hP' := hP
    replace hP := hi_ hP
    replace hS := hi_ hS
    replace he := hi_ he
    replace hkk := hi_ hkk
    replace hus := hi_ hus
    replace hentq := hi_ hentq
    replace hrise := hi_ hrise
    replace hSl := hi_ hSl
    replace hobr := hi_ hobr
    replace hBr := hi_ hBr
    replace hbw := hi_ hbw
    replace hP' := hi_ hP'
    have hgeD : gD < wr.heap.size := cell_lt x0
    have hgw : w.heap.size < wr.heap.size := cell_lt r4
    go_upto_region 7 with (fail)
    clear x0 x1 x2 x3 x4 x5
    obtain ⟨W3, hW3⟩ : ∃ W, W = wr.alloc (.cells #[.string S, .int .i64 kk, .int .i64 en, .slice E1 en1 ec1, .slice E2 en2 ec2, .slice E3 en3 ec3] 91) := ⟨_, rfl⟩
    have hb3 : Below wr.heap.size wr W3 := by rw [hW3]; exact (Below.refl _ _).alloc (Nat.le_refl _) _
    have ecell : ∀ i v, #[Value.string S, .int .i64 kk, .int .i64 en, .slice E1 en1 ec1, .slice E2 en2 ec2, .slice E3 en3 ec3][i]? = some v → W3.cell? ⟨wr.heap.size, i, none⟩ = some v := by
     intro i v hv
     have h0 := alloc_cell (w := wr) (vs := #[Value.string S, .int .i64 kk, .int .i64 en, .slice E1 en1 ec1, .slice E2 en2 ec2, .slice E3 en3 ec3]) (e := 91) (i := i)
     rw [Nat.zero_add, hv] at h0
     rw [hW3]; exact h0
    rw [← hW3]
    obtain ⟨nk, hnk⟩ : ∃ z, nameOk e.1 = z := ⟨_, rfl⟩
    obtain ⟨mm, hmm⟩ : ∃ z, e.2.may dp = z := ⟨_, rfl⟩
    obtain ⟨b8, hb8⟩ : ∃ z, (kk == 8) = z := ⟨_, rfl⟩
    obtain ⟨b0, hb0⟩ : ∃ z, (kk == 0) = z := ⟨_, rfl⟩
    obtain ⟨pos, hpos⟩ : ∃ z, decide ((0 : Int) < (i : Int)) = z := ⟨_, rfl⟩
    obtain ⟨jj, hjj⟩ : ∃ z : Nat, z = i - 1 := ⟨_, rfl⟩
    have hjm : jj < m3 := by omega
    have hij : pos = true → (i : Int) - 1 = (jj : Int) := fun h => by rw [← hpos] at h; have := of_decide_eq_true h; omega
    have hwj : IntKind.i64.wrap (jj : Int) = (jj : Int) := IntWalk.i64_in _ (by omega)
    have hwd : IntKind.i64.wrap (dp : Int) = (dp : Int) := IntWalk.i64_in _ (by omega)
    have hpos2 : decide (0 < i) = pos := by rw [← hpos]; simp
    have hii2 : 0 ≤ (i : Int) ∧ (i : Int) ≤ 1048576 := by omega
    have hpi : (i == 0) = !pos := by rw [← hpos]; cases i <;> simp
    obtain ⟨S0, hS0⟩ : ∃ S0 : ByteArray, pos = true → wr.cell? ⟨gD, oD + jj * 6, none⟩ = some (.string S0) ∧ riseF d i = ltB S0.data.toList S.data.toList := by
     cases hp : pos with
     | false => exact ⟨S, fun h => by cases h⟩
     | true =>
      rw [hp] at hpos
      have hi0 : 0 < i := by have := of_decide_eq_true hpos; omega
      have hjl : jj < d.length := by omega
      have h0 := (hdk.out jj hjl).2
      rw [Nat.mul_comm] at h0
      have h1 := (hbw.out.cell (cell_lt h0)).trans h0
      refine ⟨bytes d[jj].1, fun _ => ⟨h1, ?_⟩⟩
      exact hrise.out (by omega) (bytes d[jj].1) (by simp only [hjj])
    obtain ⟨le, hle⟩ : ∃ z, (Op.bytesLess S.toList S0.toList || S.toList == S0.toList) = z := ⟨_, rfl⟩
    have hle2 : pos = true → riseF d i = !le := fun h => by rw [(hS0 h).2, ← hle, le_keys]; simp
    obtain ⟨a2, ha2⟩ : ∃ z, z = (!nk || (pos && le)) := ⟨_, rfl⟩
    obtain ⟨a3, ha3⟩ : ∃ z, z = (a2 || b8) := ⟨_, rfl⟩
    obtain ⟨a4, ha4⟩ : ∃ z, z = (a3 || b0) := ⟨_, rfl⟩
    have hent : entQ dp d i = !(a4 || !mm) := by
     rw [hentq.out, hnk, hmm, hpi, show (kk != 8) = !b8 by rw [← hb8]; rfl, show (kk != 0) = !b0 by rw [← hb0]; rfl, ha4, ha3, ha2]
     cases hp : pos with
     | false => cases nk <;> cases b8 <;> cases b0 <;> cases mm <;> rfl
     | true => rw [hle2 hp]; cases nk <;> cases b8 <;> cases b0 <;> cases mm <;> cases le <;> rfl
    have hEf : entQ dp d i = false → E = false := fun h => by
     rw [hE.out, List.all_eq_false]; exact ⟨i, List.mem_range.2 him, by rw [h]; decide⟩
    have zz : ∀ W, Below W3.heap.size W3 W → (W.cell? ⟨wr.heap.size, 0, none⟩ = some (.string S) ∧ W.cell? ⟨wr.heap.size, 1, none⟩ = some (.int .i64 kk) ∧ W.cell? ⟨wr.heap.size, 2, none⟩ = some (.int .i64 en) ∧ W.cell? ⟨wr.heap.size, 3, none⟩ = some (.slice E1 en1 ec1) ∧ W.cell? ⟨wr.heap.size, 4, none⟩ = some (.slice E2 en2 ec2) ∧ W.cell? ⟨wr.heap.size, 5, none⟩ = some (.slice E3 en3 ec3)) ∧ W.cell? ⟨w.heap.size, 4, none⟩ = some (.slice (some ⟨gD, oD, none⟩) m3 cD) ∧ (pos = true → W.cell? ⟨gD, oD + jj * 6, none⟩ = some (.string S0)) := fun W hW => by
     have ez : ∀ t v, #[Value.string S, .int .i64 kk, .int .i64 en, .slice E1 en1 ec1, .slice E2 en2 ec2, .slice E3 en3 ec3][t]? = some v → W.cell? ⟨wr.heap.size, t, none⟩ = some v := fun t v hv => (hW.cell (cell_lt (ecell t v hv))).trans (ecell t v hv)
     refine ⟨⟨ez 0 _ rfl, ez 1 _ rfl, ez 2 _ rfl, ez 3 _ rfl, ez 4 _ rfl, ez 5 _ rfl⟩, ?_, fun h => ?_⟩
     ·have h0 := (hb3.cell (cell_lt r4)).trans r4
      exact (hW.cell (cell_lt h0)).trans h0
     ·have h0 := (hb3.cell (cell_lt (hS0 h).1)).trans (hS0 h).1
      exact (hW.cell (cell_lt h0)).trans h0
    have c76 : ∀ W A c, Byt W A S.data.toList → Calls Tryz.prog 73 #[.slice A S.size c] W fun e' w' => e' = .returned (.bool nk) ∧ W = w' := fun W A c hb => by
     have h0 := ref_name A c S.data.toList W hb
     rw [show S.data.toList.length = S.size from Array.length_toList, hSl.out, hnk] at h0
     exact h0
    have c49 : ∀ W, Below W3.heap.size W3 W → Calls Tryz.prog 39 #[.agg #[.int .i64 kk, .int .i64 en, .slice E1 en1 ec1, .slice E2 en2 ec2, .slice E3 en3 ec3], .int .i64 (dp : Int)] W fun e' w' => e' = .returned (.bool mm) ∧ Below W.heap.size W w' := fun W hW => by
     have h0 := hi.out e.2 _ W (hobr.out.kept (bthen hb3 hW)) (by omega)
     rw [hmm] at h0
     exact h0
    have hW3' := hi_ hb3
    clear ecell hrise hentq hS0 hobr hpi hnk hmm hb3
    replace hent := hi_ hent
    replace hEf := hi_ hEf
    replace hle2 := hi_ hle2
    replace zz := hi_ zz
    replace hW3 := hi_ hW3
    replace c76 := hi_ c76
    replace c49 := hi_ c49
    replace hjj := hi_ hjj
    replace ha2 := hi_ ha2
    replace ha3 := hi_ ha3
    replace ha4 := hi_ ha4
    replace hij := hi_ hij
    refine wp_lin_tail (by kernel_rfl) [none, none, none, none, none, none, none, none, none, none, none, none, none, none, none, none, none, none, none, none, none, none, none, none, none, none, none, some 0, some 1, some 2, some 3, some 4, some 5, some 6, some 7, some 8, some 9, some 10, some 11, some 12, some 13, some 14, some 15, some 16, some 17, some 18, some 19, some 20, some 21, some 22, some 23, some 24, some 25, some 26, some 27, some 28, some 29, some 30, some 31, some 32, some 33, some 34, some 35, some 36, some 37, some 38, some 39, none] (fun w' => Below W3.heap.size W3 w') (fun w' w'' => Below w'.heap.size w' w'') (G7 wr.heap.size w.heap.size gD oD m3 cD jj (i : Int) kk ((dp : Int) + 1) (dp : Int) S S0 #[.int .i64 kk, .int .i64 en, .slice E1 en1 ec1, .slice E2 en2 ec2, .slice E3 en3 ec3] nk pos le a2 a3 a4 b8 b0 mm) (by rfl) (by kernel_rfl) 40 _ rfl (by decide) (by kernel_rfl) [1, 2, 3, 5, 5, 20, 7, 8, 21, 10, 18, 12, 15, 14, 15, 16, 17, 18, 19, 20, 21, 27, 23, 24, 25, 26, 27, 33, 29, 30, 31, 32, 33, 40, 35, 38, 37, 38, 39, 40, 0] (by kernel_rfl) ?hR ?mono (.cons 39 (step_of [38, 33] rfl (by kernel_rfl) ?s39) (.cons 38 (step_of [35, 37, 33] rfl (by kernel_rfl) ?s38) (.cons 37 (step_of [36, 33] rfl (by kernel_rfl) ?s37) (.cons 36 (step_of [33] rfl (by kernel_rfl) ?s36) (.cons 35 (step_of [34, 33] rfl (by kernel_rfl) ?s35) (.cons 34 (step_of [33] rfl (by kernel_rfl) ?s34) (.cons 33 (step_of [32, 27] rfl (by kernel_rfl) ?s33) (.cons 32 (step_of [27, 31] rfl (by kernel_rfl) ?s32) (.cons 31 (step_of [30, 27] rfl (by kernel_rfl) ?s31) (.cons 30 (step_of [29, 27] rfl (by kernel_rfl) ?s30) (.cons 29 (step_of [28, 27] rfl (by kernel_rfl) ?s29) (.cons 28 (step_of [27] rfl (by kernel_rfl) ?s28) (.cons 27 (step_of [26, 21] rfl (by kernel_rfl) ?s27) (.cons 26 (step_of [21, 25] rfl (by kernel_rfl) ?s26) (.cons 25 (step_of [24, 21] rfl (by kernel_rfl) ?s25) (.cons 24 (step_of [23, 21] rfl (by kernel_rfl) ?s24) (.cons 23 (step_of [22, 21] rfl (by kernel_rfl) ?s23) (.cons 22 (step_of [21] rfl (by kernel_rfl) ?s22) (.cons 21 (step_of [20, 8] rfl (by kernel_rfl) ?s21) (.cons 20 (step_of [5, 19] rfl (by kernel_rfl) ?s20) (.cons 19 (step_of [8, 18, 5] rfl (by kernel_rfl) ?s19) (.cons 18 (step_of [10, 17, 8] rfl (by kernel_rfl) ?s18) (.cons 17 (step_of [16, 8] rfl (by kernel_rfl) ?s17) (.cons 16 (step_of [15, 8] rfl (by kernel_rfl) ?s16) (.cons 15 (step_of [12, 14, 8] rfl (by kernel_rfl) ?s15) (.cons 14 (step_of [13, 8] rfl (by kernel_rfl) ?s14) (.cons 13 (step_of [8] rfl (by kernel_rfl) ?s13) (.cons 12 (step_of [11, 8] rfl (by kernel_rfl) ?s12) (.cons 11 (step_of [8] rfl (by kernel_rfl) ?s11) (.cons 10 (step_of [9, 8] rfl (by kernel_rfl) ?s10) (.cons 9 (step_of [8] rfl (by kernel_rfl) ?s9) (.cons 8 (step_of [7, 5] rfl (by kernel_rfl) ?s8) (.cons 7 (step_of [6, 5] rfl (by kernel_rfl) ?s7) (.cons 6 (step_of [5] rfl (by kernel_rfl) ?s6) (.cons 5 (step_of [4, 3] rfl (by kernel_rfl) ?s5) (.cons 4 (step_of [3] rfl (by kernel_rfl) ?s4) (.cons 3 (step_of [2] rfl (by kernel_rfl) ?s3) (.cons 2 (step_of [1] rfl (by kernel_rfl) ?s2) (.cons 1 (step_of [0] rfl (by kernel_rfl) ?s1) (.cons 0 (step_of [] rfl (by kernel_rfl) ?s0) (.nil))))))))))))))))))))))))))))))))))))))))) ?done
    case hR => exact (Below.refl _ _).drew
    case mono => exact G7_mono
    case done =>
     intro x w4 hR2 hG fr hfr
     have g33 := hG 33 (by omega)
     have g39 := hG 39 (by omega)
     simp only [G7] at g33 g39
     clear hG
     simp only [fillL] at hfr
     rw [g33] at hfr
     have hBw : Below wr.heap.size wr w4 := bthen hW3'.out hR2
     replace hBw := hi_ hBw
     replace hR2 := hi_ hR2
     cases a4 with
     | true =>
      have hF : E = false := hEf.out (by rw [hent.out]; rfl)
      subst hfr
      clear g39
      go_wp2
      go_ret
      exact ⟨by first | rfl | (rw [hF]; rfl), bthen hbw.out hBw.out⟩
     | false =>
      rw [g39 rfl] at hfr
      subst hfr
      clear g39
      cases mm with
      | false =>
       have hF : E = false := hEf.out (by rw [hent.out]; rfl)
       go_wp2
       go_ret
       exact ⟨by first | rfl | (rw [hF]; rfl), bthen hbw.out hBw.out⟩
      | true =>
       have hP2 : ∀ t, t < i + 1 → entQ dp d t = true := fun t ht => by
        by_cases h : t = i
        ·rw [h, hent.out]; rfl
        ·exact hP.out t (by omega)
       replace hP2 := hi_ hP2
       clear hEf
       go_wp2
       go_roundw
       case rel => exact ⟨i + 1, by omega, by go_num, hP2.out, hBr.out.trans (hBw.out.mono hBr.out.size)⟩
       case measure => simp [RowKit.intOf]; omega
    case s0 =>
     intro x w' hRw hd K hK
     simp only [All, G7] at hd
     obtain ⟨_⟩ := hd
     simp +decide only [upd, G7, fillL, if_true, if_false] at hK ⊢
     go_simp
     have hK2 := hK _ _ ⟨hRw, Below.refl _ _, rfl⟩
     exact hK2
    case s1 =>
     intro x w' hRw hd K hK
     simp only [All, G7] at hd
     obtain ⟨e0, _⟩ := hd
     simp +decide only [upd, G7, fillL, if_true, if_false] at hK ⊢
     obtain ⟨⟨z0, z1, z2, z3, z4, z5⟩, z6, z7⟩ := zz.out w' hRw
     simp only [e0] at hK ⊢
     go_simp
     have hK2 := hK _ _ ⟨hRw, Below.refl _ _, rfl⟩
     exact hK2
    case s2 =>
     intro x w' hRw hd K hK
     simp only [All, G7] at hd
     obtain ⟨e1, _⟩ := hd
     simp +decide only [upd, G7, fillL, if_true, if_false] at hK ⊢
     obtain ⟨cc, Wc, hcv, hbc, hBc, _, _⟩ := conv_bytes w' S (by omega)
     simp only [e1] at hK ⊢
     go_simp
     have hK2 := hK _ _ ⟨bthen hRw hBc, hBc, _, cc, rfl, hbc⟩
     exact hK2
    case s3 =>
     intro x w' hRw hd K hK
     simp only [All, G7] at hd
     obtain ⟨⟨A2, c2, e2, hb2⟩, _⟩ := hd
     simp +decide only [upd, G7, fillL, if_true, if_false] at hK ⊢
     simp only [e2] at hK ⊢
     go_simp
     refine (c76.out w' A2 c2 hb2).mono ?_
     rintro e' w2 ⟨rfl, rfl⟩
     have hK2 := hK _ _ ⟨hRw, Below.refl _ _, rfl⟩
     exact hK2
    case s4 =>
     intro x w' hRw hd K hK
     simp only [All, G7] at hd
     obtain ⟨e3, _⟩ := hd
     simp +decide only [upd, G7, fillL, if_true, if_false] at hK ⊢
     simp only [e3] at hK ⊢
     go_simp
     have hK2 := hK _ _ ⟨hRw, Below.refl _ _, rfl⟩
     exact hK2
    case s5 =>
     intro x w' hRw hd K hK
     simp only [All, G7] at hd
     obtain ⟨e4, e3, _⟩ := hd
     simp +decide only [upd, G7, fillL, if_true, if_false] at hK ⊢
     simp only [e4, e3] at hK ⊢
     go_simp
     have hK2 := hK _ _ ⟨hRw, Below.refl _ _, rfl⟩
     exact hK2
    case s6 =>
     intro x w' hRw hd K hK
     simp only [All, G7] at hd
     obtain ⟨e5, _⟩ := hd
     simp +decide only [upd, G7, fillL, if_true, if_false] at hK ⊢
     simp only [e5] at hK ⊢
     cases nk with
     | false =>
      go_simp
      have hK2 := hK undef _ ⟨hRw, Below.refl _ _, fun h => by cases h⟩
      exact hK2
     | true =>
      go_simp
      have hK2 := hK _ _ ⟨hRw, Below.refl _ _, fun _ => rfl⟩
      exact hK2
    case s7 =>
     intro x w' hRw hd K hK
     simp only [All, G7] at hd
     obtain ⟨e6, e5, _⟩ := hd
     simp +decide only [upd, G7, fillL, if_true, if_false] at hK ⊢
     simp only [e5] at hK ⊢
     cases nk with
     | false =>
      go_simp
      have hK2 := hK undef _ ⟨hRw, Below.refl _ _, fun h => by cases h⟩
      exact hK2
     | true =>
      simp only [e6 rfl] at hK ⊢
      go_simp
      try simp only [hpos, hpos2]
      have hK2 := hK _ _ ⟨hRw, Below.refl _ _, fun _ => rfl⟩
      exact hK2
    case s8 =>
     intro x w' hRw hd K hK
     simp only [All, G7] at hd
     obtain ⟨e7, e5, _⟩ := hd
     simp +decide only [upd, G7, fillL, if_true, if_false] at hK ⊢
     simp only [e5] at hK ⊢
     cases nk with
     | false =>
      go_simp
      have hK2 := hK undef _ ⟨hRw, Below.refl _ _, (fun h => by cases h), fun _ => rfl⟩
      exact hK2
     | true =>
      simp only [e7 rfl] at hK ⊢
      go_simp
      have hK2 := hK _ _ ⟨hRw, Below.refl _ _, (fun _ => rfl), fun h => by cases h⟩
      exact hK2
    case s9 =>
     intro x w' hRw hd K hK
     simp only [All, G7] at hd
     obtain ⟨⟨e8, n8⟩, _⟩ := hd
     simp +decide only [upd, G7, fillL, if_true, if_false] at hK ⊢
     cases nk with
     | false =>
      simp only [n8 rfl] at hK ⊢
      go_simp
      have hK2 := hK undef _ ⟨hRw, Below.refl _ _, fun h => by cases h⟩
      exact hK2
     | true =>
      simp only [e8 rfl] at hK ⊢
      cases pos with
      | false =>
       go_simp
       have hK2 := hK undef _ ⟨hRw, Below.refl _ _, fun _ h => by cases h⟩
       exact hK2
      | true =>
       go_simp
       have hK2 := hK _ _ ⟨hRw, Below.refl _ _, fun _ _ => rfl⟩
       exact hK2
    case s10 =>
     intro x w' hRw hd K hK
     simp only [All, G7] at hd
     obtain ⟨e9, ⟨e8, n8⟩, _⟩ := hd
     simp +decide only [upd, G7, fillL, if_true, if_false] at hK ⊢
     obtain ⟨⟨z0, z1, z2, z3, z4, z5⟩, z6, z7⟩ := zz.out w' hRw
     cases nk with
     | false =>
      simp only [n8 rfl] at hK ⊢
      go_simp
      have hK2 := hK undef _ ⟨hRw, Below.refl _ _, fun h => by cases h⟩
      exact hK2
     | true =>
      simp only [e8 rfl] at hK ⊢
      cases pos with
      | false =>
       go_simp
       have hK2 := hK undef _ ⟨hRw, Below.refl _ _, fun _ h => by cases h⟩
       exact hK2
      | true =>
       simp only [e9 rfl rfl] at hK ⊢
       go_simp
       have hK2 := hK _ _ ⟨hRw, Below.refl _ _, fun _ _ => rfl⟩
       exact hK2
    case s11 =>
     intro x w' hRw hd K hK
     simp only [All, G7] at hd
     obtain ⟨⟨e8, n8⟩, _⟩ := hd
     simp +decide only [upd, G7, fillL, if_true, if_false] at hK ⊢
     cases nk with
     | false =>
      simp only [n8 rfl] at hK ⊢
      go_simp
      have hK2 := hK undef _ ⟨hRw, Below.refl _ _, fun h => by cases h⟩
      exact hK2
     | true =>
      simp only [e8 rfl] at hK ⊢
      cases pos with
      | false =>
       go_simp
       have hK2 := hK undef _ ⟨hRw, Below.refl _ _, fun _ h => by cases h⟩
       exact hK2
      | true =>
       go_simp
       have hK2 := hK _ _ ⟨hRw, Below.refl _ _, fun _ _ => rfl⟩
       exact hK2
    case s12 =>
     intro x w' hRw hd K hK
     simp only [All, G7] at hd
     obtain ⟨e11, ⟨e8, n8⟩, _⟩ := hd
     simp +decide only [upd, G7, fillL, if_true, if_false] at hK ⊢
     obtain ⟨⟨z0, z1, z2, z3, z4, z5⟩, z6, z7⟩ := zz.out w' hRw
     cases nk with
     | false =>
      simp only [n8 rfl] at hK ⊢
      go_simp
      have hK2 := hK undef _ ⟨hRw, Below.refl _ _, fun h => by cases h⟩
      exact hK2
     | true =>
      simp only [e8 rfl] at hK ⊢
      cases pos with
      | false =>
       go_simp
       have hK2 := hK undef _ ⟨hRw, Below.refl _ _, fun _ h => by cases h⟩
       exact hK2
      | true =>
       simp only [e11 rfl rfl] at hK ⊢
       go_simp
       have hK2 := hK _ _ ⟨hRw, Below.refl _ _, fun _ _ => rfl⟩
       exact hK2
    case s13 =>
     intro x w' hRw hd K hK
     simp only [All, G7] at hd
     obtain ⟨⟨e8, n8⟩, _⟩ := hd
     simp +decide only [upd, G7, fillL, if_true, if_false] at hK ⊢
     cases nk with
     | false =>
      simp only [n8 rfl] at hK ⊢
      go_simp
      have hK2 := hK undef _ ⟨hRw, Below.refl _ _, fun h => by cases h⟩
      exact hK2
     | true =>
      simp only [e8 rfl] at hK ⊢
      cases pos with
      | false =>
       go_simp
       have hK2 := hK undef _ ⟨hRw, Below.refl _ _, fun _ h => by cases h⟩
       exact hK2
      | true =>
       go_simp
       have hK2 := hK _ _ ⟨hRw, Below.refl _ _, fun _ _ => rfl⟩
       exact hK2
    case s14 =>
     intro x w' hRw hd K hK
     simp only [All, G7] at hd
     obtain ⟨e13, ⟨e8, n8⟩, _⟩ := hd
     simp +decide only [upd, G7, fillL, if_true, if_false] at hK ⊢
     cases nk with
     | false =>
      simp only [n8 rfl] at hK ⊢
      go_simp
      have hK2 := hK undef _ ⟨hRw, Below.refl _ _, fun h => by cases h⟩
      exact hK2
     | true =>
      simp only [e8 rfl] at hK ⊢
      cases pos with
      | false =>
       go_simp
       have hK2 := hK undef _ ⟨hRw, Below.refl _ _, fun _ h => by cases h⟩
       exact hK2
      | true =>
       have hij' := hij.out rfl
       simp only [e13 rfl rfl] at hK ⊢
       go_simp
       try simp only [hij', hwj]
       have hK2 := hK _ _ ⟨hRw, Below.refl _ _, fun _ _ => rfl⟩
       exact hK2
    case s15 =>
     intro x w' hRw hd K hK
     simp only [All, G7] at hd
     obtain ⟨e12, e14, ⟨e8, n8⟩, _⟩ := hd
     simp +decide only [upd, G7, fillL, if_true, if_false] at hK ⊢
     cases nk with
     | false =>
      simp only [n8 rfl] at hK ⊢
      go_simp
      have hK2 := hK undef _ ⟨hRw, Below.refl _ _, fun h => by cases h⟩
      exact hK2
     | true =>
      simp only [e8 rfl] at hK ⊢
      cases pos with
      | false =>
       go_simp
       have hK2 := hK undef _ ⟨hRw, Below.refl _ _, fun _ h => by cases h⟩
       exact hK2
      | true =>
       simp only [e12 rfl rfl, e14 rfl rfl] at hK ⊢
       go_simp
       have hK2 := hK _ _ ⟨hRw, Below.refl _ _, fun _ _ => rfl⟩
       exact hK2
    case s16 =>
     intro x w' hRw hd K hK
     simp only [All, G7] at hd
     obtain ⟨e15, ⟨e8, n8⟩, _⟩ := hd
     simp +decide only [upd, G7, fillL, if_true, if_false] at hK ⊢
     cases nk with
     | false =>
      simp only [n8 rfl] at hK ⊢
      go_simp
      have hK2 := hK undef _ ⟨hRw, Below.refl _ _, fun h => by cases h⟩
      exact hK2
     | true =>
      simp only [e8 rfl] at hK ⊢
      cases pos with
      | false =>
       go_simp
       have hK2 := hK undef _ ⟨hRw, Below.refl _ _, fun _ h => by cases h⟩
       exact hK2
      | true =>
       simp only [e15 rfl rfl] at hK ⊢
       go_simp
       have hK2 := hK _ _ ⟨hRw, Below.refl _ _, fun _ _ => rfl⟩
       exact hK2
    case s17 =>
     intro x w' hRw hd K hK
     simp only [All, G7] at hd
     obtain ⟨e16, ⟨e8, n8⟩, _⟩ := hd
     simp +decide only [upd, G7, fillL, if_true, if_false] at hK ⊢
     obtain ⟨⟨z0, z1, z2, z3, z4, z5⟩, z6, z7⟩ := zz.out w' hRw
     cases nk with
     | false =>
      simp only [n8 rfl] at hK ⊢
      go_simp
      have hK2 := hK undef _ ⟨hRw, Below.refl _ _, fun h => by cases h⟩
      exact hK2
     | true =>
      simp only [e8 rfl] at hK ⊢
      cases pos with
      | false =>
       go_simp
       have hK2 := hK undef _ ⟨hRw, Below.refl _ _, fun _ h => by cases h⟩
       exact hK2
      | true =>
       have z7' := z7 rfl
       simp only [e16 rfl rfl] at hK ⊢
       go_simp
       have hK2 := hK _ _ ⟨hRw, Below.refl _ _, fun _ _ => rfl⟩
       exact hK2
    case s18 =>
     intro x w' hRw hd K hK
     simp only [All, G7] at hd
     obtain ⟨e10, e17, ⟨e8, n8⟩, _⟩ := hd
     simp +decide only [upd, G7, fillL, if_true, if_false] at hK ⊢
     cases nk with
     | false =>
      simp only [n8 rfl] at hK ⊢
      go_simp
      have hK2 := hK undef _ ⟨hRw, Below.refl _ _, fun h => by cases h⟩
      exact hK2
     | true =>
      simp only [e8 rfl] at hK ⊢
      cases pos with
      | false =>
       go_simp
       have hK2 := hK undef _ ⟨hRw, Below.refl _ _, fun _ h => by cases h⟩
       exact hK2
      | true =>
       simp only [e10 rfl rfl, e17 rfl rfl] at hK ⊢
       go_simp
       try simp only [hle]
       have hK2 := hK _ _ ⟨hRw, Below.refl _ _, fun _ _ => rfl⟩
       exact hK2
    case s19 =>
     intro x w' hRw hd K hK
     simp only [All, G7] at hd
     obtain ⟨⟨e8, n8⟩, e18, e5, _⟩ := hd
     simp +decide only [upd, G7, fillL, if_true, if_false] at hK ⊢
     simp only [e5] at hK ⊢
     cases nk with
     | false =>
      simp only [n8 rfl] at hK ⊢
      go_simp
      have hK2 := hK undef _ ⟨hRw, Below.refl _ _, fun h => by cases h⟩
      exact hK2
     | true =>
      simp only [e8 rfl] at hK ⊢
      cases pos with
      | false =>
       go_simp
       have hK2 := hK _ _ ⟨hRw, Below.refl _ _, fun _ => rfl⟩
       exact hK2
      | true =>
       simp only [e18 rfl rfl] at hK ⊢
       go_simp
       have hK2 := hK _ _ ⟨hRw, Below.refl _ _, fun _ => rfl⟩
       exact hK2
    case s20 =>
     intro x w' hRw hd K hK
     simp only [All, G7] at hd
     obtain ⟨e5, e19, _⟩ := hd
     simp +decide only [upd, G7, fillL, if_true, if_false] at hK ⊢
     have hq := ha2.out
     simp only [e5] at hK ⊢
     cases nk with
     | false =>
      subst hq
      go_simp
      have hK2 := hK _ _ ⟨hRw, Below.refl _ _, rfl⟩
      exact hK2
     | true =>
      simp only [e19 rfl] at hK ⊢
      subst hq
      go_simp
      have hK2 := hK _ _ ⟨hRw, Below.refl _ _, rfl⟩
      exact hK2
    case s21 =>
     intro x w' hRw hd K hK
     simp only [All, G7] at hd
     obtain ⟨e20, ⟨e8, n8⟩, _⟩ := hd
     simp +decide only [upd, G7, fillL, if_true, if_false] at hK ⊢
     simp only [e20] at hK ⊢
     go_simp
     have hK2 := hK _ _ ⟨hRw, Below.refl _ _, rfl⟩
     exact hK2
    case s22 =>
     intro x w' hRw hd K hK
     simp only [All, G7] at hd
     obtain ⟨e21, _⟩ := hd
     simp +decide only [upd, G7, fillL, if_true, if_false] at hK ⊢
     simp only [e21] at hK ⊢
     cases a2 with
     | true =>
      go_simp
      have hK2 := hK undef _ ⟨hRw, Below.refl _ _, fun h => by cases h⟩
      exact hK2
     | false =>
      go_simp
      have hK2 := hK _ _ ⟨hRw, Below.refl _ _, fun _ => rfl⟩
      exact hK2
    case s23 =>
     intro x w' hRw hd K hK
     simp only [All, G7] at hd
     obtain ⟨e22, e21, _⟩ := hd
     simp +decide only [upd, G7, fillL, if_true, if_false] at hK ⊢
     simp only [e21] at hK ⊢
     cases a2 with
     | true =>
      go_simp
      have hK2 := hK undef _ ⟨hRw, Below.refl _ _, fun h => by cases h⟩
      exact hK2
     | false =>
      simp only [e22 rfl] at hK ⊢
      go_simp
      have hK2 := hK _ _ ⟨hRw, Below.refl _ _, fun _ => rfl⟩
      exact hK2
    case s24 =>
     intro x w' hRw hd K hK
     simp only [All, G7] at hd
     obtain ⟨e23, e21, _⟩ := hd
     simp +decide only [upd, G7, fillL, if_true, if_false] at hK ⊢
     obtain ⟨⟨z0, z1, z2, z3, z4, z5⟩, z6, z7⟩ := zz.out w' hRw
     simp only [e21] at hK ⊢
     cases a2 with
     | true =>
      go_simp
      have hK2 := hK undef _ ⟨hRw, Below.refl _ _, fun h => by cases h⟩
      exact hK2
     | false =>
      simp only [e23 rfl] at hK ⊢
      go_simp
      have hK2 := hK _ _ ⟨hRw, Below.refl _ _, fun _ => rfl⟩
      exact hK2
    case s25 =>
     intro x w' hRw hd K hK
     simp only [All, G7] at hd
     obtain ⟨e24, e21, _⟩ := hd
     simp +decide only [upd, G7, fillL, if_true, if_false] at hK ⊢
     simp only [e21] at hK ⊢
     cases a2 with
     | true =>
      go_simp
      have hK2 := hK undef _ ⟨hRw, Below.refl _ _, fun h => by cases h⟩
      exact hK2
     | false =>
      simp only [e24 rfl] at hK ⊢
      go_simp
      try simp only [hb8]
      have hK2 := hK _ _ ⟨hRw, Below.refl _ _, fun _ => rfl⟩
      exact hK2
    case s26 =>
     intro x w' hRw hd K hK
     simp only [All, G7] at hd
     obtain ⟨e21, e25, _⟩ := hd
     simp +decide only [upd, G7, fillL, if_true, if_false] at hK ⊢
     have hq := ha3.out
     simp only [e21] at hK ⊢
     cases a2 with
     | true =>
      subst hq
      go_simp
      have hK2 := hK _ _ ⟨hRw, Below.refl _ _, rfl⟩
      exact hK2
     | false =>
      simp only [e25 rfl] at hK ⊢
      subst hq
      go_simp
      have hK2 := hK _ _ ⟨hRw, Below.refl _ _, rfl⟩
      exact hK2
    case s27 =>
     intro x w' hRw hd K hK
     simp only [All, G7] at hd
     obtain ⟨e26, e21, _⟩ := hd
     simp +decide only [upd, G7, fillL, if_true, if_false] at hK ⊢
     simp only [e26, e21] at hK ⊢
     go_simp
     have hK2 := hK _ _ ⟨hRw, Below.refl _ _, rfl⟩
     exact hK2
    case s28 =>
     intro x w' hRw hd K hK
     simp only [All, G7] at hd
     obtain ⟨e27, _⟩ := hd
     simp +decide only [upd, G7, fillL, if_true, if_false] at hK ⊢
     simp only [e27] at hK ⊢
     cases a3 with
     | true =>
      go_simp
      have hK2 := hK undef _ ⟨hRw, Below.refl _ _, fun h => by cases h⟩
      exact hK2
     | false =>
      go_simp
      have hK2 := hK _ _ ⟨hRw, Below.refl _ _, fun _ => rfl⟩
      exact hK2
    case s29 =>
     intro x w' hRw hd K hK
     simp only [All, G7] at hd
     obtain ⟨e28, e27, _⟩ := hd
     simp +decide only [upd, G7, fillL, if_true, if_false] at hK ⊢
     simp only [e27] at hK ⊢
     cases a3 with
     | true =>
      go_simp
      have hK2 := hK undef _ ⟨hRw, Below.refl _ _, fun h => by cases h⟩
      exact hK2
     | false =>
      simp only [e28 rfl] at hK ⊢
      go_simp
      have hK2 := hK _ _ ⟨hRw, Below.refl _ _, fun _ => rfl⟩
      exact hK2
    case s30 =>
     intro x w' hRw hd K hK
     simp only [All, G7] at hd
     obtain ⟨e29, e27, _⟩ := hd
     simp +decide only [upd, G7, fillL, if_true, if_false] at hK ⊢
     obtain ⟨⟨z0, z1, z2, z3, z4, z5⟩, z6, z7⟩ := zz.out w' hRw
     simp only [e27] at hK ⊢
     cases a3 with
     | true =>
      go_simp
      have hK2 := hK undef _ ⟨hRw, Below.refl _ _, fun h => by cases h⟩
      exact hK2
     | false =>
      simp only [e29 rfl] at hK ⊢
      go_simp
      have hK2 := hK _ _ ⟨hRw, Below.refl _ _, fun _ => rfl⟩
      exact hK2
    case s31 =>
     intro x w' hRw hd K hK
     simp only [All, G7] at hd
     obtain ⟨e30, e27, _⟩ := hd
     simp +decide only [upd, G7, fillL, if_true, if_false] at hK ⊢
     simp only [e27] at hK ⊢
     cases a3 with
     | true =>
      go_simp
      have hK2 := hK undef _ ⟨hRw, Below.refl _ _, fun h => by cases h⟩
      exact hK2
     | false =>
      simp only [e30 rfl] at hK ⊢
      go_simp
      try simp only [hb0]
      have hK2 := hK _ _ ⟨hRw, Below.refl _ _, fun _ => rfl⟩
      exact hK2
    case s32 =>
     intro x w' hRw hd K hK
     simp only [All, G7] at hd
     obtain ⟨e27, e31, _⟩ := hd
     simp +decide only [upd, G7, fillL, if_true, if_false] at hK ⊢
     have hq := ha4.out
     simp only [e27] at hK ⊢
     cases a3 with
     | true =>
      subst hq
      go_simp
      have hK2 := hK _ _ ⟨hRw, Below.refl _ _, rfl⟩
      exact hK2
     | false =>
      simp only [e31 rfl] at hK ⊢
      subst hq
      go_simp
      have hK2 := hK _ _ ⟨hRw, Below.refl _ _, rfl⟩
      exact hK2
    case s33 =>
     intro x w' hRw hd K hK
     simp only [All, G7] at hd
     obtain ⟨e32, e27, _⟩ := hd
     simp +decide only [upd, G7, fillL, if_true, if_false] at hK ⊢
     simp only [e32, e27] at hK ⊢
     go_simp
     have hK2 := hK _ _ ⟨hRw, Below.refl _ _, rfl⟩
     exact hK2
    case s34 =>
     intro x w' hRw hd K hK
     simp only [All, G7] at hd
     obtain ⟨e33, _⟩ := hd
     simp +decide only [upd, G7, fillL, if_true, if_false] at hK ⊢
     simp only [e33] at hK ⊢
     cases a4 with
     | true =>
      go_simp
      have hK2 := hK undef _ ⟨hRw, Below.refl _ _, fun h => by cases h⟩
      exact hK2
     | false =>
      go_simp
      have hK2 := hK _ _ ⟨hRw, Below.refl _ _, fun _ => rfl⟩
      exact hK2
    case s35 =>
     intro x w' hRw hd K hK
     simp only [All, G7] at hd
     obtain ⟨e34, e33, _⟩ := hd
     simp +decide only [upd, G7, fillL, if_true, if_false] at hK ⊢
     obtain ⟨⟨z0, z1, z2, z3, z4, z5⟩, z6, z7⟩ := zz.out w' hRw
     simp only [e33] at hK ⊢
     cases a4 with
     | true =>
      go_simp
      have hK2 := hK undef _ ⟨hRw, Below.refl _ _, fun h => by cases h⟩
      exact hK2
     | false =>
      simp only [e34 rfl] at hK ⊢
      go_simp
      have hK2 := hK _ _ ⟨hRw, Below.refl _ _, fun _ => rfl⟩
      exact hK2
    case s36 =>
     intro x w' hRw hd K hK
     simp only [All, G7] at hd
     obtain ⟨e33, _⟩ := hd
     simp +decide only [upd, G7, fillL, if_true, if_false] at hK ⊢
     simp only [e33] at hK ⊢
     cases a4 with
     | true =>
      go_simp
      have hK2 := hK undef _ ⟨hRw, Below.refl _ _, fun h => by cases h⟩
      exact hK2
     | false =>
      go_simp
      have hK2 := hK _ _ ⟨hRw, Below.refl _ _, fun _ => rfl⟩
      exact hK2
    case s37 =>
     intro x w' hRw hd K hK
     simp only [All, G7] at hd
     obtain ⟨e36, e33, _⟩ := hd
     simp +decide only [upd, G7, fillL, if_true, if_false] at hK ⊢
     simp only [e33] at hK ⊢
     cases a4 with
     | true =>
      go_simp
      have hK2 := hK undef _ ⟨hRw, Below.refl _ _, fun h => by cases h⟩
      exact hK2
     | false =>
      simp only [e36 rfl] at hK ⊢
      go_simp
      try simp only [Int.add_sub_cancel, hwd]
      have hK2 := hK _ _ ⟨hRw, Below.refl _ _, fun _ => rfl⟩
      exact hK2
    case s38 =>
     intro x w' hRw hd K hK
     simp only [All, G7] at hd
     obtain ⟨e35, e37, e33, _⟩ := hd
     simp +decide only [upd, G7, fillL, if_true, if_false] at hK ⊢
     simp only [e33] at hK ⊢
     cases a4 with
     | true =>
      go_simp
      have hK2 := hK undef _ ⟨hRw, Below.refl _ _, fun h => by cases h⟩
      exact hK2
     | false =>
      simp only [e35 rfl, e37 rfl] at hK ⊢
      go_simp
      refine (c49.out w' hRw).mono ?_
      rintro e' w2 ⟨rfl, hB9⟩
      have hK2 := hK _ _ ⟨bthen hRw hB9, hB9, fun _ => rfl⟩
      exact hK2
    case s39 =>
     intro x w' hRw hd K hK
     simp only [All, G7] at hd
     obtain ⟨e38, e33, _⟩ := hd
     simp +decide only [upd, G7, fillL, if_true, if_false] at hK ⊢
     simp only [e33] at hK ⊢
     cases a4 with
     | true =>
      go_simp
      have hK2 := hK undef _ ⟨hRw, Below.refl _ _, fun h => by cases h⟩
      exact hK2
     | false =>
      simp only [e38 rfl] at hK ⊢
      go_simp
      have hK2 := hK _ _ ⟨hRw, Below.refl _ _, fun _ => rfl⟩
      exact hK2
   ·obtain rfl : i = m3 := by omega
    have hT : E = true := by
     rw [hE.out, List.all_eq_true]; intro j hj; exact hP j (List.mem_range.1 hj)
    subst hT
    replace hP := hi_ hP
    replace hBr := hi_ hBr
    go_wp2
    go_ret
    exact ⟨rfl, bthen hb2.out hBr.out⟩

/- May an object be? By the document: whole. No condition. -/
theorem spare_bad (k n : Int) (b : List UInt8) (l : List Ob) (d : List (List UInt8 × Ob)) : spareB k n b l d = ((k == 1 || k == 2 || k == 3 || k == 9 || n == 0) && !((decide ((0 : Int) < (l.length : Int)) && (k != 6)) || (decide ((0 : Int) < (d.length : Int)) && !hasI k) || (decide ((0 : Int) < (b.length : Int)) && (k != 4) && (k != 5) && (k != 8)))) := by
 have e : ∀ m : Nat, (m == 0) = !decide ((0 : Int) < (m : Int)) := fun m => by
  cases m with
  | zero => rfl
  | succ m => simp
 unfold spareB hasI
 rw [e, e, e]
 have f : ∀ c : Int, (k != c) = !(k == c) := fun c => rfl
 rw [f, f, f, f]
 generalize (k == 1 || k == 2 || k == 3 || k == 9 || n == 0) = N
 generalize (k == 4) = b4
 generalize (k == 5) = b5
 generalize (k == 8) = b8
 generalize (k == 6) = b6
 generalize (k == 7) = b7
 generalize decide ((0 : Int) < (l.length : Int)) = q2
 generalize decide ((0 : Int) < (d.length : Int)) = q3
 generalize decide ((0 : Int) < (b.length : Int)) = q1
 revert N b4 b5 b8 b6 b7 q1 q2 q3
 decide
set_option maxHeartbeats 8000000 in
set_option maxRecDepth 100000 in
theorem ref_may0 (dep : Nat) (hd : dep ≤ 28) (hi : ∀ d', dep = d' + 1 → RMayC d') : RMayC dep := by
 intro o vs w h hbk
 have hfull := h
 cases h with
 | mk k n b l d A AL AD c cL cD gL oL gD oD vl vd h1 h2 h3 h4 hB hbc hAc hlc hlm hdc hdm hAL hl hlv hAD hdo hdk hdv =>
 have hbk : (Ob.mk k n b l d).bulk ≤ 1048576 := hbk
 have zk : b.length + bulkL l + bulkD d + 1 ≤ 1048576 := hbk
 have zl := bulkL_len l
 have zd := bulkD_len d
 obtain ⟨W2, hW2⟩ : ∃ W, W = w.alloc (.cells #[.int .i64 k, .int .i64 n, .slice A b.length c, .slice AL l.length cL, .slice AD d.length cD] 32) := ⟨_, rfl⟩
 have hb2 : Below w.heap.size w W2 := by rw [hW2]; exact (Below.refl _ _).alloc (Nat.le_refl _) _
 have ocell : ∀ i v, #[Value.int .i64 k, .int .i64 n, .slice A b.length c, .slice AL l.length cL, .slice AD d.length cD][i]? = some v → W2.cell? ⟨w.heap.size, i, none⟩ = some v := by
  intro i v hv
  have h0 := alloc_cell (w := w) (vs := #[.int .i64 k, .int .i64 n, .slice A b.length c, .slice AL l.length cL, .slice AD d.length cD]) (e := 32) (i := i)
  rw [Nat.zero_add, hv] at h0
  rw [hW2]; exact h0
 have ch := fun W => ref_Has k (.int .i64 n) (.slice A b.length c) (.slice AL l.length cL) (.slice AD d.length cD) W
 have cn := fun W (hW : Below w.heap.size w W) => ref_name A c b W (hB.below hW)
 have ce := fun W (hW : Below w.heap.size w W) => ref_ents dep hd hi k n b l d _ W (hfull.kept hW) hbk
 have cI := fun W => ref_In n W
 have hmay : (Ob.mk k n b l d).may dep = (spareB k n b l d && (if k = 0 then true else if k = 1 then decide (0 ≤ n ∧ n ≤ 1) else if k = 2 then decide (-2147483647 ≤ n ∧ n ≤ 2147483647) else if k = 3 then decide (-214748364799999 ≤ n ∧ n ≤ 214748364799999) else if k = 9 then decide (1 ≤ n ∧ n ≤ 8388607) else if k = 4 then decide (b.length ≤ 32767) else if k = 5 then nameOk b else if k = 6 then decide (0 < dep) && mayL (dep - 1) l else if k = 7 ∨ k = 8 then decide (0 < dep) && risesB d && decide (b.length ≤ 16777216) && mayD (dep - 1) d else false)) := by simp only [Ob.may]
 rw [hmay, spare_bad]
 clear hmay
 obtain ⟨c6, hc6⟩ : ∃ z, (k != 6) = z := ⟨_, rfl⟩
 obtain ⟨c4, hc4⟩ : ∃ z, (k != 4) = z := ⟨_, rfl⟩
 obtain ⟨c5, hc5⟩ : ∃ z, (k != 5) = z := ⟨_, rfl⟩
 obtain ⟨c8, hc8⟩ : ∃ z, (k != 8) = z := ⟨_, rfl⟩
 obtain ⟨hs, hhs⟩ : ∃ z, hasI k = z := ⟨_, rfl⟩
 obtain ⟨q1, hq1⟩ : ∃ z, decide ((0 : Int) < (b.length : Int)) = z := ⟨_, rfl⟩
 obtain ⟨q2, hq2⟩ : ∃ z, decide ((0 : Int) < (l.length : Int)) = z := ⟨_, rfl⟩
 obtain ⟨q3, hq3⟩ : ∃ z, decide ((0 : Int) < (d.length : Int)) = z := ⟨_, rfl⟩
 rw [hc6, hc4, hc5, hc8, hhs, hq1, hq2, hq3]
 rw [hhs] at ch
 obtain ⟨bad, hbad⟩ : ∃ z, z = ((q2 && c6) || (q3 && !hs) || (q1 && c4 && c5 && c8)) := ⟨_, rfl⟩
 rw [← hbad]
 obtain ⟨m1, hm1⟩ : ∃ m, m = b.length := ⟨_, rfl⟩
 obtain ⟨m2, hm2⟩ : ∃ m, m = l.length := ⟨_, rfl⟩
 obtain ⟨m3, hm3⟩ : ∃ m, m = d.length := ⟨_, rfl⟩
 have zb : m1 ≤ 1048576 := by omega
 have zl2 : m2 ≤ 1048576 := by omega
 have zd2 : m3 ≤ 1048576 := by omega
 have o0 : W2.cell? ⟨w.heap.size, 0, none⟩ = some (.int .i64 k) := ocell 0 _ rfl
 have o1 : W2.cell? ⟨w.heap.size, 1, none⟩ = some (.int .i64 n) := ocell 1 _ rfl
 have o2 : W2.cell? ⟨w.heap.size, 2, none⟩ = some (.slice A b.length c) := ocell 2 _ rfl
 have o3 : W2.cell? ⟨w.heap.size, 3, none⟩ = some (.slice AL l.length cL) := ocell 3 _ rfl
 have o4 : W2.cell? ⟨w.heap.size, 4, none⟩ = some (.slice AD d.length cD) := ocell 4 _ rfl
 rw [← hm1] at hW2 o2 ch cn ce hq1 ⊢
 rw [← hm2] at hW2 o3 ch ce hq2 ⊢
 rw [← hm3] at hW2 o4 ch ce hq3 ⊢
 clear ocell zk zl zd hlc hlm hdc hdm hdo hdk hdv hfull
 replace hm1 := hi_ hm1
 replace hm2 := hi_ hm2
 replace hm3 := hi_ hm3
 replace hW2 := hi_ hW2
 replace hb2 := hi_ hb2
 replace hbad := hi_ hbad
 replace cn := hi_ cn
 replace ce := hi_ ce
 replace hhs := hi_ hhs
 replace hi := hi_ hi
 replace hl := hi_ hl
 replace hlv := hi_ hlv
 replace hAL := hi_ hAL
 replace hB := hi_ hB
 obtain ⟨R, hR⟩ : ∃ R, R = (if k = 0 then true else if k = 1 then decide (0 ≤ n ∧ n ≤ 1) else if k = 2 then decide (-2147483647 ≤ n ∧ n ≤ 2147483647) else if k = 3 then decide (-214748364799999 ≤ n ∧ n ≤ 214748364799999) else if k = 9 then decide (1 ≤ n ∧ n ≤ 8388607) else if k = 4 then decide (m1 ≤ 32767) else if k = 5 then nameOk b else if k = 6 then decide (0 < dep) && mayL (dep - 1) l else if k = 7 ∨ k = 8 then decide (0 < dep) && risesB d && decide (m1 ≤ 16777216) && mayD (dep - 1) d else false) := ⟨_, rfl⟩
 rw [← hR]
 replace hR := hi_ hR
 obtain ⟨M, hM⟩ : ∃ M, M = ((k == 1 || k == 2 || k == 3 || k == 9 || n == 0) && !bad && R) := ⟨_, rfl⟩
 rw [← hM]
 replace hM := hi_ hM
 go_enter Tryz.func39, Tryz.ntmps39
 go_upto_region 1 with (fail)
 rw [← hW2.out]
 go_upto_region 2 with (go_at_call 71; (with_reducible refine (ch _).mono ?_); rintro e w1 ⟨rfl, hB1⟩; have t0 := (hB1.cell (cell_lt o0)).trans o0; have t1 := (hB1.cell (cell_lt o1)).trans o1; have t2 := (hB1.cell (cell_lt o2)).trans o2; have t3 := (hB1.cell (cell_lt o3)).trans o3; have t4 := (hB1.cell (cell_lt o4)).trans o4; have hBw := bthen hb2.out hB1; replace hBw := hi_ hBw; replace hB1 := hi_ hB1)
 clear o0 o1 o2 o3 o4 ch
 go_cut [48] (fun s48 wx => s48 = .bool bad ∧ wx = w1)
 case first =>
  clear cI
  replace hM := hi_ hM
  cases hs
  all_goals
   go_wp2
   all_goals go_meet
   all_goals refine ⟨?_, rfl⟩
   all_goals (rw [hbad.out, ← hq1, ← hq2, ← hq3]; clear hbad hq1 hq2 hq3; simp [*])
 case rest =>
  obtain ⟨rfl, rfl⟩ := hcut
  clear hc4 hc5 hc6 hc8 hq1 hq2 hq3
  cases bad with
  | true =>
   have hM2 : M = false := by rw [hM.out]; simp
   clear hM hR cI cn ce
   subst hM2
   go_wp2
   go_ret
   exact ⟨rfl, hBw.out⟩
  | false =>
   have hM2 := hM.out
   simp only [Bool.not_false, Bool.and_true] at hM2
   have hR2 := hR.out
   clear hM hR hbad
   have cn2 := cn.out wc hBw.out
   have ce2 := ce.out wc hBw.out
   clear cn ce
   have kinds : k = 0 ∨ k = 1 ∨ k = 2 ∨ k = 3 ∨ k = 9 ∨ k = 4 ∨ k = 5 ∨ k = 6 ∨ (k = 7 ∨ k = 8) ∨ (k ≠ 0 ∧ k ≠ 1 ∧ k ≠ 2 ∧ k ≠ 3 ∧ k ≠ 9 ∧ k ≠ 4 ∧ k ≠ 5 ∧ k ≠ 6 ∧ k ≠ 7 ∧ k ≠ 8) := by omega
   rcases kinds with rfl | hk1 | rfl | rfl | rfl | rfl | rfl | rfl | h78 | ⟨e0, e1, e2, e3, e9, e4, e5, e6, e7, e8⟩
   ·by_cases hn : n = 0
    ·subst hn
     have hM3 : M = R := by rw [hM2]; simp
     clear hM2
     have hR3 : R = true := hR2
     clear cI cn2 ce2 hR2
     subst hR3
     subst hM3
     go_wp2
     go_ret
     exact ⟨rfl, hBw.out⟩
    ·have hM3 : M = false := by rw [hM2]; simp [hn]
     have hne : (n != 0) = true := by rw [bne_iff_ne]; exact hn
     clear hM2 cI cn2 ce2 hR2 hn
     subst hM3
     go_wp2
     go_ret
     exact ⟨rfl, hBw.out⟩

   ·have hM3 : M = R := by rw [hM2, hk1]; simp
    have hR3 : R = decide (0 ≤ n ∧ n ≤ 1) := by rw [hR2, hk1]; rfl
    have g1 : (k == 1) = true := by simpa using hk1
    clear hM2 hR2 cI cn2 ce2 hk1
    subst hM3
    by_cases h0 : n = 0
    ·subst h0
     have hR4 : M = true := by rw [hR3]; rfl
     clear hR3
     subst hR4
     go_wp2
     go_ret
     exact ⟨rfl, hBw.out⟩
    ·by_cases h1 : n = 1
     ·subst h1
      have hR4 : M = true := by rw [hR3]; rfl
      clear hR3
      subst hR4
      go_wp2
      go_ret
      exact ⟨rfl, hBw.out⟩
     ·have hR4 : M = false := by rw [hR3, decide_eq_false_iff_not]; omega
      clear hR3
      subst hR4
      have f0 : (n == 0) = false := by simpa using h0
      have f1 : (n == 1) = false := by simpa using h1
      go_wp2
      go_ret
      exact ⟨rfl, hBw.out⟩
   ·have hM3 : M = R := by rw [hM2]; simp
    have hR3 : R = decide (-2147483647 ≤ n ∧ n ≤ 2147483647) := hR2
    clear hM2 hR2 cI cn2 ce2
    subst hM3
    by_cases h0 : -2147483647 ≤ n
    ·by_cases h1 : n ≤ 2147483647
     ·rw [decide_eq_true ⟨h0, h1⟩] at hR3
      subst hR3
      have f0 : decide (-2147483647 ≤ n) = true := decide_eq_true h0
      have f1 : decide (n ≤ 2147483647) = true := decide_eq_true h1
      go_wp2
      go_ret
      exact ⟨rfl, hBw.out⟩
     ·rw [decide_eq_false (fun h => h1 h.2)] at hR3
      subst hR3
      have f0 : decide (-2147483647 ≤ n) = true := decide_eq_true h0
      have f1 : decide (n ≤ 2147483647) = false := decide_eq_false h1
      go_wp2
      go_ret
      exact ⟨rfl, hBw.out⟩
    ·rw [decide_eq_false (fun h => h0 h.1)] at hR3
     subst hR3
     have f0 : decide (-2147483647 ≤ n) = false := decide_eq_false h0
     go_wp2
     go_ret
     exact ⟨rfl, hBw.out⟩
   ·have hM3 : M = R := by rw [hM2]; simp
    have hR3 : R = decide (-214748364799999 ≤ n ∧ n ≤ 214748364799999) := hR2
    clear hM2 hR2 cn2 ce2
    subst hM3
    rw [← hR3] at cI
    clear hR3
    go_wp2_with (go_at_call 72; (with_reducible refine (cI _).mono ?_); rintro e w2 ⟨rfl, rfl⟩)
    go_ret
    exact ⟨rfl, hBw.out⟩
   ·have hM3 : M = R := by rw [hM2]; simp
    have hR3 : R = decide (1 ≤ n ∧ n ≤ 8388607) := hR2
    clear hM2 hR2 cI cn2 ce2
    subst hM3
    by_cases h0 : 1 ≤ n
    ·by_cases h1 : n ≤ 8388607
     ·rw [decide_eq_true ⟨h0, h1⟩] at hR3
      subst hR3
      have f0 : decide (1 ≤ n) = true := decide_eq_true h0
      have f1 : decide (n ≤ 8388607) = true := decide_eq_true h1
      go_wp2
      go_ret
      exact ⟨rfl, hBw.out⟩
     ·rw [decide_eq_false (fun h => h1 h.2)] at hR3
      subst hR3
      have f0 : decide (1 ≤ n) = true := decide_eq_true h0
      have f1 : decide (n ≤ 8388607) = false := decide_eq_false h1
      go_wp2
      go_ret
      exact ⟨rfl, hBw.out⟩
    ·rw [decide_eq_false (fun h => h0 h.1)] at hR3
     subst hR3
     have f0 : decide (1 ≤ n) = false := decide_eq_false h0
     go_wp2
     go_ret
     exact ⟨rfl, hBw.out⟩
   ·by_cases hn : n = 0
    ·subst hn
     have hM3 : M = R := by rw [hM2]; simp
     clear hM2
     have hR3 : R = decide (m1 ≤ 32767) := hR2
     clear cI cn2 ce2 hR2
     by_cases hq : m1 ≤ 32767
     ·rw [decide_eq_true hq] at hR3
      subst hR3
      subst hM3
      have q1 : decide ((m1 : Int) ≤ 32767) = true := by simp; omega
      go_wp2
      go_ret
      exact ⟨rfl, hBw.out⟩
     ·rw [decide_eq_false hq] at hR3
      subst hR3
      subst hM3
      have q1 : decide ((m1 : Int) ≤ 32767) = false := by simp; omega
      go_wp2
      go_ret
      exact ⟨rfl, hBw.out⟩
    ·have hM3 : M = false := by rw [hM2]; simp [hn]
     have hne : (n != 0) = true := by rw [bne_iff_ne]; exact hn
     clear hM2 cI cn2 ce2 hR2 hn
     subst hM3
     go_wp2
     go_ret
     exact ⟨rfl, hBw.out⟩

   ·by_cases hn : n = 0
    ·subst hn
     have hM3 : M = R := by rw [hM2]; simp
     clear hM2
     have hR3 : R = nameOk b := hR2
     clear cI ce2 hR2
     rw [← hR3] at cn2
     clear hR3
     subst hM3
     go_wp2_with (go_at_call 73; (with_reducible refine cn2.mono ?_); rintro e w2 ⟨rfl, rfl⟩)
     go_ret
     exact ⟨rfl, hBw.out⟩
    ·have hM3 : M = false := by rw [hM2]; simp [hn]
     have hne : (n != 0) = true := by rw [bne_iff_ne]; exact hn
     clear hM2 cI cn2 ce2 hR2 hn
     subst hM3
     go_wp2
     go_ret
     exact ⟨rfl, hBw.out⟩

   ·by_cases hn : n = 0
    ·subst hn
     have hM3 : M = R := by rw [hM2]; simp
     clear hM2
     have hR3 : R = (decide (0 < dep) && mayL (dep - 1) l) := hR2
     have hM4 : M = (decide (0 < dep) && mayL (dep - 1) l) := hM3.trans hR3
     clear hR2 hR3 hM3 cI cn2 ce2 h3 h4
     replace hM4 := hi_ hM4
     go_wp2
     go_loopw [6] (fun s6 wr => ∃ i : Nat, i ≤ m2 ∧ s6 = .int .i64 i ∧ (∀ j, j < i → 0 < dep ∧ atI l (fun o => o.kind != 8 && o.may (dep - 1)) j = true) ∧ Below wc.heap.size wc wr) (fun s6 _ => m2 - (RowKit.intOf s6).toNat)
     case atStart => exact ⟨0, by omega, rfl, fun j hj => by omega, Below.refl _ _⟩
     case round =>
      obtain ⟨i, him, rfl, hP, hBr⟩ := hrel
      have r3 := (hBr.cell (cell_lt t3)).trans t3
      by_cases hi2 : i < m2
      ·have hil : i < l.length := by rw [← hm2.out]; exact hi2
       have hAe := hAL.out (by omega)
       subst hAe
       have hob := hl.out i hil
       have hcv := hlv.out i hil
       obtain ⟨o, ho⟩ : ∃ o, o = l[i] := ⟨_, rfl⟩
       rw [← ho] at hob
       obtain ⟨us, hus⟩ : ∃ us, us = vl i := ⟨_, rfl⟩
       rw [← hus] at hob hcv
       have hbw : Below w.heap.size w wr := bthen hBw.out hBr
       have hobr := hob.kept hbw
       obtain ⟨en, E1, E2, E3, en1, ec1, en2, ec2, en3, ec3, hys⟩ := ob_five hob
       subst hys
       obtain ⟨kk, hkk⟩ : ∃ k, k = o.kind := ⟨_, rfl⟩
       rw [← hkk] at hob hcv hobr
       have five : ∀ j u, [Value.int .i64 kk, .int .i64 en, .slice E1 en1 ec1, .slice E2 en2 ec2, .slice E3 en3 ec3][j]? = some u → wr.cell? ⟨gL, oL + i * 5 + j, none⟩ = some u := fun j u hj => by
        have h0 := hcv j (by have := (List.getElem?_eq_some_iff.1 hj).1; simpa using this)
        rw [hj] at h0
        have h1 := (hbw.cell (cell_lt h0)).trans h0
        rw [show oL + (5 * i + j) = oL + i * 5 + j by omega] at h1
        exact h1
       have x0 : wr.cell? ⟨gL, oL + i * 5, none⟩ = some (.int .i64 kk) := five 0 _ rfl
       have x1 : wr.cell? ⟨gL, oL + i * 5 + 1, none⟩ = some (.int .i64 en) := five 1 _ rfl
       have x2 : wr.cell? ⟨gL, oL + i * 5 + 2, none⟩ = some (.slice E1 en1 ec1) := five 2 _ rfl
       have x3 : wr.cell? ⟨gL, oL + i * 5 + 3, none⟩ = some (.slice E2 en2 ec2) := five 3 _ rfl
       have x4 : wr.cell? ⟨gL, oL + i * 5 + 4, none⟩ = some (.slice E3 en3 ec3) := five 4 _ rfl
       have hat : atI l (fun o => o.kind != 8 && o.may (dep - 1)) i = (kk != 8 && o.may (dep - 1)) := by
        unfold atI; rw [List.getElem?_eq_getElem hil, ← ho, hkk]
       have hMf : atI l (fun o => o.kind != 8 && o.may (dep - 1)) i = false ∨ dep = 0 → M = false := fun h => by
        rw [hM4.out]
        rcases h with h | h
        ·rw [mayL_all]
         have : l.all (fun o => o.kind != 8 && o.may (dep - 1)) = false := by
          rw [List.all_eq_false]
          refine ⟨l[i], List.getElem_mem hil, ?_⟩
          unfold atI at h
          rw [List.getElem?_eq_getElem hil] at h
          simpa using h
         rw [this, Bool.and_false]
        ·subst h; rfl
       have hzo : o.bulk ≤ 1048576 := by
        have h0 := bulkL_at l i hil
        rw [← ho] at h0
        have : b.length + bulkL l + bulkD d + 1 ≤ 1048576 := hbk
        omega
       clear five hcv hob hus
       replace hat := hi_ hat
       replace hMf := hi_ hMf
       replace hP := hi_ hP
       replace ho := hi_ ho
       replace hkk := hi_ hkk
       have hBr2 := hi_ hBr
       clear hBr
       replace hbw := hi_ hbw
       obtain ⟨b8, hb8⟩ : ∃ z, (kk == 8) = z := ⟨_, rfl⟩
       cases b8 with
       | true =>
        have hF : M = false := hMf.out (.inl (by rw [hat.out, show (kk != 8) = !(kk == 8) from rfl, hb8]; rfl))
        clear hMf hM4 hobr
        subst hF
        go_wp2
        go_ret
        exact ⟨rfl, bthen hBw.out hBr2.out⟩
       | false =>
        cases dep with
        | zero =>
         have hF : M = false := hMf.out (.inr rfl)
         clear hMf hM4 hobr
         subst hF
         go_wp2
         go_ret
         exact ⟨rfl, bthen hBw.out hBr2.out⟩
        | succ dp =>
         have cm : Calls Tryz.prog 39 #[.agg #[.int .i64 kk, .int .i64 en, .slice E1 en1 ec1, .slice E2 en2 ec2, .slice E3 en3 ec3], .int .i64 (dp : Int)] wr fun e w' => e = .returned (.bool (o.may dp)) ∧ Below wr.heap.size wr w' := hi.out dp rfl o _ wr hobr hzo
         have e2 : (((dp + 1 : Nat) : Int)) = (dp : Int) + 1 := by omega
         obtain ⟨mm, hmm⟩ : ∃ z, o.may dp = z := ⟨_, rfl⟩
         rw [hmm] at cm
         have hat2 : atI l (fun o => o.kind != 8 && o.may (dp + 1 - 1)) i = mm := by
          rw [hat.out, show (kk != 8) = !(kk == 8) from rfl, hb8, Nat.add_sub_cancel, hmm]; rfl
         replace hat2 := hi_ hat2
         clear hmm hobr hat
         simp only [e2]
         cases mm with
         | false =>
          have hF : M = false := hMf.out (.inl hat2.out)
          clear hMf hM4
          subst hF
          go_wp2_with (go_at_call 39; (with_reducible refine cm.mono ?_); rintro e w3 ⟨rfl, hB3⟩; replace hB3 := hi_ hB3)
          go_ret
          exact ⟨rfl, bthen hBw.out (bthen hBr2.out hB3.out)⟩
         | true =>
          have hP2 : ∀ j, j < i + 1 → 0 < dp + 1 ∧ atI l (fun o => o.kind != 8 && o.may (dp + 1 - 1)) j = true := fun j hj => by
           by_cases h : j = i
           ·subst h; exact ⟨by omega, hat2.out⟩
           ·exact hP.out j (by omega)
          replace hP2 := hi_ hP2
          clear hMf
          go_wp2_with (go_at_call 39; (with_reducible refine cm.mono ?_); rintro e w3 ⟨rfl, hB3⟩; replace hB3 := hi_ hB3)
          go_roundw
          case rel => exact ⟨i + 1, by omega, by go_num, hP2.out, bthen hBr2.out hB3.out⟩
          case measure => simp [RowKit.intOf]; omega
      ·obtain rfl : i = m2 := by omega
       have hE : M = decide ((1 : Int) ≤ (dep : Int)) := by
        rw [hM4.out]
        by_cases h0 : 0 < dep
        ·have h2 : mayL (dep - 1) l = true := by
          rw [mayL_all, List.all_eq_true]
          intro x hx
          obtain ⟨j, hj, rfl⟩ := List.getElem_of_mem hx
          have := (hP j (by rw [hm2.out]; exact hj)).2
          unfold atI at this
          rw [List.getElem?_eq_getElem hj] at this
          exact this
         rw [h2, Bool.and_true]
         apply decide_eq_decide.2; omega
        ·rw [decide_eq_false h0, Bool.false_and]
         symm; rw [decide_eq_false_iff_not]; omega
       replace hE := hi_ hE
       have hBr2 := hi_ hBr
       clear hBr hP hM4
       go_wp2
       go_ret
       exact ⟨by rw [hE.out]; simp, bthen hBw.out hBr2.out⟩
    ·have hM3 : M = false := by rw [hM2]; simp [hn]
     have hne : (n != 0) = true := by rw [bne_iff_ne]; exact hn
     clear hM2 cI cn2 ce2 hR2 hn
     subst hM3
     go_wp2
     go_ret
     exact ⟨rfl, hBw.out⟩

   ·by_cases hn : n = 0
    ·subst hn
     have hM3 : M = R := by rw [hM2]; simp
     clear hM2
     have hR3 : R = (decide (0 < dep) && risesB d && decide (m1 ≤ 16777216) && mayD (dep - 1) d) := by rw [hR2]; rcases h78 with rfl | rfl <;> rfl
     rw [decide_eq_true (by omega : m1 ≤ 16777216), Bool.and_true, Bool.and_assoc] at hR3
     clear cI cn2 hR2
     rw [← hR3] at ce2
     clear hR3
     subst hM3
     rcases h78 with rfl | rfl
     all_goals
      go_wp2_with (go_at_call 74; (with_reducible refine ce2.mono ?_); rintro e w2 ⟨rfl, hB2⟩; replace hB2 := hi_ hB2)
      go_ret
      exact ⟨rfl, bthen hBw.out hB2.out⟩
    ·have hM3 : M = false := by rw [hM2]; rcases h78 with rfl | rfl <;> simp [hn]
     have hne : (n != 0) = true := by rw [bne_iff_ne]; exact hn
     clear hM2 cI cn2 ce2 hR2 hn
     subst hM3
     rcases h78 with rfl | rfl
     all_goals
      go_wp2
      go_ret
      exact ⟨rfl, hBw.out⟩

   ·have f0 : (k == 0) = false := by simpa using e0
    have f1 : (k == 1) = false := by simpa using e1
    have f2 : (k == 2) = false := by simpa using e2
    have f3 : (k == 3) = false := by simpa using e3
    have f4 : (k == 4) = false := by simpa using e4
    have f5 : (k == 5) = false := by simpa using e5
    have f6 : (k == 6) = false := by simpa using e6
    have f7 : (k == 7) = false := by simpa using e7
    have f8 : (k == 8) = false := by simpa using e8
    have f9 : (k == 9) = false := by simpa using e9
    by_cases hn : n = 0
    ·subst hn
     have hM3 : M = R := by rw [hM2]; simp
     clear hM2
     have hR3 : R = false := by rw [hR2, if_neg e0, if_neg e1, if_neg e2, if_neg e3, if_neg e9, if_neg e4, if_neg e5, if_neg e6, if_neg (fun h => h.elim e7 e8)]
     clear cI cn2 ce2 hR2 e0 e1 e2 e3 e9 e4 e5 e6 e7 e8
     subst hR3
     subst hM3
     go_wp2
     go_ret
     exact ⟨rfl, hBw.out⟩
    ·have hM3 : M = false := by rw [hM2]; simp [hn, e1, e2, e3, e9]
     have hne : (n != 0) = true := by rw [bne_iff_ne]; exact hn
     clear hM2 cI cn2 ce2 hR2 hn e0 e1 e2 e3 e9 e4 e5 e6 e7 e8
     subst hM3
     go_wp2
     go_ret
     exact ⟨rfl, hBw.out⟩

theorem ref_mayC : ∀ dep, dep ≤ 28 → RMayC dep := by
 intro dep
 induction dep with
 | zero => intro h; exact ref_may0 0 h fun d' e => by omega
 | succ d ih =>
  intro h
  refine ref_may0 (d + 1) h fun d' e => ?_
  have : d' = d := by omega
  subst this
  exact ih (by omega)

/- Value and Print: the same answer. No condition. -/
def prtS (o : Ob) : List UInt8 := if o.kind ≠ 8 ∧ o.may 28 = true then o.show else []
def prtZ (o : Ob) : Int := if o.kind ≠ 8 ∧ o.may 28 = true then 0 else 1
theorem prtS_len (o : Ob) (h : Fits o) (hb : o.bulk ≤ 1048576) : (prtS o).length ≤ 41943040 := by
 have := show_len o h
 unfold prtS
 split
 ·omega
 ·simp
def VR2 (w : World) (o : Ob) (e : Ending) (w' : World) : Prop := ∃ A c, e = .returned (.tuple #[.slice A (prtS o).length c, .int .i64 (prtZ o)]) ∧ Byt w' A (prtS o) ∧ Below w.heap.size w w'
theorem VR.two {w w' : World} {o : Ob} {e : Ending} (h : VR w o e w') : VR2 w o e w' := by
 obtain ⟨hB, A, c, n, z, rfl, hA, ⟨h1, h2, rfl, h3, rfl⟩ | ⟨h1, rfl, rfl, rfl⟩⟩ := h
 ·exact ⟨A, c, by simp [prtS, prtZ, h1, h2], by simpa [prtS, h1, h2] using h3, hB⟩
 ·have e1 : prtS o = [] := by unfold prtS; rw [if_neg h1]
  have e2 : prtZ o = 1 := by unfold prtZ; rw [if_neg h1]
  exact ⟨none, c, by rw [e1, e2]; rfl, by rw [e1]; exact ⟨by simp, fun h => by simp at h⟩, hB⟩
theorem prt_Value2 (o : Ob) (vs : List Value) (w : World) (h : ObAt w o vs) (hbk : o.bulk ≤ 1048576) (ht : Tab w) : Calls Tryz.prog 42 #[.agg vs.toArray] w (VR2 w o) := (prt_Value o vs w h hbk ht).mono fun _ _ h => h.two
set_option maxHeartbeats 4000000 in
set_option maxRecDepth 100000 in
theorem ref_May (o : Ob) (vs : List Value) (w : World) (h : ObAt w o vs) (hbk : o.bulk ≤ 1048576) : Calls Tryz.prog 15 #[.agg vs.toArray] w fun e w' => e = .returned (.bool (o.may 28)) ∧ Below w.heap.size w w' := by
 obtain ⟨en, E1, E2, E3, en1, ec1, en2, ec2, en3, ec3, hys⟩ := ob_five2 h
 subst hys
 obtain ⟨k, hk⟩ : ∃ k, k = o.kind := ⟨_, rfl⟩
 rw [← hk] at h ⊢
 obtain ⟨W1, hW1⟩ : ∃ W, W = w.alloc (.cells #[.int .i64 k, .int .i64 en, .slice E1 en1 ec1, .slice E2 en2 ec2, .slice E3 en3 ec3] 32) := ⟨_, rfl⟩
 have hb1 : Below w.heap.size w W1 := by rw [hW1]; exact (Below.refl _ _).alloc (Nat.le_refl _) _
 have c : Calls Tryz.prog 39 #[.agg #[.int .i64 k, .int .i64 en, .slice E1 en1 ec1, .slice E2 en2 ec2, .slice E3 en3 ec3], .int .i64 28] W1 fun e w' => e = .returned (.bool (o.may 28)) ∧ Below W1.heap.size W1 w' := ref_mayC 28 (by omega) o _ W1 (h.kept hb1) hbk
 obtain ⟨f0, f1, f2, f3, f4⟩ := five_cells hW1
 replace hb1 := hi_ hb1
 clear h hk
 go_enter Tryz.func15, Tryz.ntmps15
 go_upto_region 1 with (fail)
 rw [← hW1]
 replace hW1 := hi_ hW1
 go_wp2_with (go_at_call 39; (with_reducible refine c.mono ?_); rintro e w2 ⟨rfl, hB⟩; replace hB := hi_ hB)
 go_ret
 exact ⟨rfl, bthen hb1.out hB.out⟩
set_option maxHeartbeats 4000000 in
set_option maxRecDepth 100000 in
theorem ref_Print (o : Ob) (vs : List Value) (w : World) (h : ObAt w o vs) (hbk : o.bulk ≤ 1048576) : Calls Tryz.prog 49 #[.agg vs.toArray] w (VR2 w o) := by
 obtain ⟨en, E1, E2, E3, en1, ec1, en2, ec2, en3, ec3, hys⟩ := ob_five2 h
 obtain ⟨k, hk⟩ : ∃ k, k = o.kind := ⟨_, rfl⟩
 rw [← hk] at hys
 subst hys
 obtain ⟨W1, hW1⟩ : ∃ W, W = w.alloc (.cells #[.int .i64 k, .int .i64 en, .slice E1 en1 ec1, .slice E2 en2 ec2, .slice E3 en3 ec3] 32) := ⟨_, rfl⟩
 have hb1 : Below w.heap.size w W1 := by rw [hW1]; exact (Below.refl _ _).alloc (Nat.le_refl _) _
 have c := ref_May o _ W1 (h.kept hb1) hbk
 have c32 := fun W (hW : Below W1.heap.size W1 W) => rshow_all 1048576 (Nat.le_refl _) o _ W (h.kept (bthen hb1 hW)) hbk
 have f := five_cells hW1
 obtain ⟨f0, f1, f2, f3, f4⟩ := id f
 replace hb1 := hi_ hb1
 replace c32 := hi_ c32
 replace f := hi_ f
 obtain ⟨m, hm⟩ : ∃ m, m = o.may 28 := ⟨_, rfl⟩
 rw [← hm] at c
 clear h
 have hP : ∀ e w', (Below w.heap.size w w' ∧ ∃ A c n z, e = .returned (.tuple #[.slice A n c, .int .i64 z]) ∧ (A = none → c = 0) ∧ ((k ≠ 8 ∧ m = true ∧ n = o.show.length ∧ Byt w' A o.show ∧ z = 0) ∨ (¬ (k ≠ 8 ∧ m = true) ∧ A = none ∧ n = 0 ∧ z = 1))) → VR2 w o e w' := fun _ _ hh => VR.two (by unfold VR; rw [← hk, ← hm]; exact hh)
 replace hP := hi_ hP
 clear hk hm
 go_enter Tryz.func49, Tryz.ntmps49
 go_upto_region 1 with (fail)
 rw [← hW1]
 replace hW1 := hi_ hW1
 cases m with
 | false =>
  go_wp2_with (go_at_call 15; (with_reducible refine c.mono ?_); rintro e w2 ⟨rfl, hB⟩; replace hB := hi_ hB)
  go_ret2
  exact hP.out _ _ ⟨bthen hb1.out hB.out, none, 0, 0, 1, rfl, fun _ => rfl, .inr ⟨by simp, rfl, rfl, rfl⟩⟩
 | true =>
  by_cases k8 : k = 8
  ·subst k8
   go_wp2_with (go_at_call 15; (with_reducible refine c.mono ?_); rintro e w2 ⟨rfl, hB⟩; have g := five_kept f.out hB; obtain ⟨g0, g1, g2, g3, g4⟩ := g; replace hB := hi_ hB)
   go_ret2
   exact hP.out _ _ ⟨bthen hb1.out hB.out, none, 0, 0, 1, rfl, fun _ => rfl, .inr ⟨by simp, rfl, rfl, rfl⟩⟩
  ·have q8 : (k == 8) = false := by simpa using k8
   go_wp2_with (first
    | (go_at_call 15; (with_reducible refine c.mono ?_); rintro e w2 ⟨rfl, hB⟩; have g := five_kept f.out hB; obtain ⟨g0, g1, g2, g3, g4⟩ := g; have c' := c32.out w2 hB; replace hB := hi_ hB)
    | (go_at_call 81; (with_reducible refine c'.mono ?_); rintro e w3 ⟨A2, c2, rfl, hb2, hA2, hB2⟩; replace hb2 := hi_ hb2; replace hB2 := hi_ hB2; replace hA2 := hi_ hA2))
   go_ret2
   exact hP.out _ _ ⟨bthen hb1.out (bthen hB.out hB2.out), A2, c2, _, 0, rfl, hA2.out, .inl ⟨k8, by trivial, rfl, hb2.out, rfl⟩⟩
end Go.Proofs.YthffpbkndnhlfaaGreatDoor

/- The library's Repeat and Itoa, at this program's numbers. No condition. -/
namespace Go.Proofs
open Go.Shelf
def Tryz.laysM171_ren : Go.Shelf.Ren := ⟨fun | 171 => 77 | 243 => 108 | 246 => 143 | 283 => 176 | 284 => 177 | 285 => 178 | 286 => 179 | 129 => 201 | 317 => 200 | 318 => 202 | 319 => 203 | 320 => 204 | 337 => 217 | 338 => 218 | n => n, fun | 3 => 3 | 9 => 9 | 2 => 2 | 4 => 4 | 171 => 212 | 0 => 0 | 53 => 163 | 37 => 22 | 5 => 5 | 173 => 215 | 212 => 236 | 51 => 185 | 20 => 20 | 213 => 237 | 46 => 151 | 232 => 248 | 233 => 249 | n => n, fun | 17 => 1 | 18 => 2 | 19 => 3 | n => n⟩
theorem Tryz.laysM171 : Go.Proofs.LaysM.n171 Tryz.prog Tryz.laysM171_ren := {
 mixed := by kernel_rfl
 f129 := Tryz.func201.trans (congrArg some (by kernel_rfl))
 f171 := Tryz.func77.trans (congrArg some (by kernel_rfl))
 f243 := Tryz.func108.trans (congrArg some (by kernel_rfl))
 f246 := Tryz.func143.trans (congrArg some (by kernel_rfl))
 f283 := Tryz.func176.trans (congrArg some (by kernel_rfl))
 f284 := Tryz.func177.trans (congrArg some (by kernel_rfl))
 f285 := Tryz.func178.trans (congrArg some (by kernel_rfl))
 f286 := Tryz.func179.trans (congrArg some (by kernel_rfl))
 f317 := Tryz.func200.trans (congrArg some (by kernel_rfl))
 f318 := Tryz.func202.trans (congrArg some (by kernel_rfl))
 f319 := Tryz.func203.trans (congrArg some (by kernel_rfl))
 f320 := Tryz.func204.trans (congrArg some (by kernel_rfl))
 f337 := Tryz.func217.trans (congrArg some (by kernel_rfl))
 f338 := Tryz.func218.trans (congrArg some (by kernel_rfl))
 t0 := Tryz.underlying0
 a0 := Tryz.isAgg0
 z0 := Tryz.sizeOf0
 v0 := Tryz.zeroValue0
 t2 := Tryz.underlying2
 a2 := Tryz.isAgg2
 z2 := Tryz.sizeOf2
 v2 := Tryz.zeroValue2
 t3 := Tryz.underlying3
 a3 := Tryz.isAgg3
 z3 := Tryz.sizeOf3
 v3 := Tryz.zeroValue3
 t4 := Tryz.underlying4
 a4 := Tryz.isAgg4
 z4 := Tryz.sizeOf4
 v4 := Tryz.zeroValue4
 t5 := Tryz.underlying5
 a5 := Tryz.isAgg5
 z5 := Tryz.sizeOf5
 v5 := Tryz.zeroValue5
 t9 := Tryz.underlying9
 a9 := Tryz.isAgg9
 z9 := Tryz.sizeOf9
 v9 := Tryz.zeroValue9
 t20 := Tryz.underlying20
 a20 := Tryz.isAgg20
 z20 := Tryz.sizeOf20
 v20 := Tryz.zeroValue20
 t37 := Tryz.underlying22
 a37 := Tryz.isAgg22
 z37 := Tryz.sizeOf22
 v37 := Tryz.zeroValue22
 t46 := Tryz.underlying151
 a46 := Tryz.isAgg151
 z46 := Tryz.sizeOf151
 v46 := Tryz.zeroValue151
 t51 := Tryz.underlying185
 a51 := Tryz.isAgg185
 z51 := Tryz.sizeOf185
 v51 := Tryz.zeroValue185
 t53 := Tryz.underlying163
 a53 := Tryz.isAgg163
 z53 := Tryz.sizeOf163
 v53 := Tryz.zeroValue163
 t171 := Tryz.underlying212
 a171 := Tryz.isAgg212
 z171 := Tryz.sizeOf212
 v171 := Tryz.zeroValue212
 t173 := Tryz.underlying215
 a173 := Tryz.isAgg215
 z173 := Tryz.sizeOf215
 v173 := Tryz.zeroValue215
 t212 := Tryz.underlying236
 a212 := Tryz.isAgg236
 z212 := Tryz.sizeOf236
 v212 := Tryz.zeroValue236
 t213 := Tryz.underlying237
 a213 := Tryz.isAgg237
 z213 := Tryz.sizeOf237
 t232 := Tryz.underlying248
 a232 := Tryz.isAgg248
 z232 := Tryz.sizeOf248
 v232 := Tryz.zeroValue248
 t233 := Tryz.underlying249
 a233 := Tryz.isAgg249
 z233 := Tryz.sizeOf249
 v233 := Tryz.zeroValue249
 g17 := by kernel_rfl
 g18 := by kernel_rfl
 g19 := by kernel_rfl
 i0 := by kernel_rfl
 i2 := by kernel_rfl
 i3 := by kernel_rfl
 i4 := by kernel_rfl
 i5 := by kernel_rfl
 i9 := by kernel_rfl
 i20 := by kernel_rfl
 i37 := by kernel_rfl
 i46 := by kernel_rfl
 i51 := by kernel_rfl
 i53 := by kernel_rfl
 i171 := by kernel_rfl
 i173 := by kernel_rfl
 i212 := by kernel_rfl
 i232 := by kernel_rfl
 i233 := by kernel_rfl
 m17 := by kernel_rfl
 m18 := by kernel_rfl
 m19 := by kernel_rfl }
open Go.RowKit Go.Sort Go.Lib in
theorem Tryz.strconv_Itoa (n : Int) (h0 : -9223372036854775808 ≤ n) (h1 : n ≤ 9223372036854775807) (w : World) (htab : Lib.TabIs Tryz.prog w "internal/strconv.uint64pow10" .u64 Lib.pow10Tab) :
 Calls Tryz.prog 77 #[.int .i64 n] w fun e w' => e = .returned (.string ⟨(Lib.itoa n).toArray⟩) ∧ ∃ k os, w' = grow (w.drewN k) os := Any.strconv_Itoa Tryz.laysM171 n h0 h1 w htab
def Tryz.lays105_ren : Go.Shelf.Ren := ⟨fun | 105 => 78 | 212 => 109 | 99 => 110 | 165 => 111 | 166 => 112 | 170 => 113 | 169 => 114 | 263 => 144 | 264 => 145 | 206 => 146 | 240 => 147 | 241 => 148 | 276 => 180 | 277 => 181 | n => n, fun | 9 => 9 | 3 => 3 | 4 => 4 | 20 => 20 | 0 => 0 | 46 => 151 | 109 => 152 | 5 => 5 | 72 => 157 | 76 => 161 | 51 => 185 | 146 => 186 | 53 => 163 | 148 => 188 | 70 => 155 | 37 => 22 | 75 => 160 | 127 => 190 | 164 => 197 | 80 => 100 | n => n, fun | n => n⟩
theorem Tryz.lays105 : Go.Proofs.Lays.n105 Tryz.prog Tryz.lays105_ren := {
 mixed := by kernel_rfl
 f99 := Tryz.func110.trans (congrArg some (by kernel_rfl))
 f105 := Tryz.func78.trans (congrArg some (by kernel_rfl))
 f165 := Tryz.func111.trans (congrArg some (by kernel_rfl))
 f166 := Tryz.func112.trans (congrArg some (by kernel_rfl))
 f169 := Tryz.func114.trans (congrArg some (by kernel_rfl))
 f170 := Tryz.func113.trans (congrArg some (by kernel_rfl))
 f206 := Tryz.func146.trans (congrArg some (by kernel_rfl))
 f212 := Tryz.func109.trans (congrArg some (by kernel_rfl))
 f240 := Tryz.func147.trans (congrArg some (by kernel_rfl))
 f241 := Tryz.func148.trans (congrArg some (by kernel_rfl))
 f263 := Tryz.func144.trans (congrArg some (by kernel_rfl))
 f264 := Tryz.func145.trans (congrArg some (by kernel_rfl))
 f276 := Tryz.func180.trans (congrArg some (by kernel_rfl))
 f277 := Tryz.func181.trans (congrArg some (by kernel_rfl))
 t0 := Tryz.underlying0
 a0 := Tryz.isAgg0
 z0 := Tryz.sizeOf0
 v0 := Tryz.zeroValue0
 t3 := Tryz.underlying3
 a3 := Tryz.isAgg3
 z3 := Tryz.sizeOf3
 v3 := Tryz.zeroValue3
 t4 := Tryz.underlying4
 a4 := Tryz.isAgg4
 z4 := Tryz.sizeOf4
 v4 := Tryz.zeroValue4
 t5 := Tryz.underlying5
 a5 := Tryz.isAgg5
 z5 := Tryz.sizeOf5
 v5 := Tryz.zeroValue5
 t9 := Tryz.underlying9
 a9 := Tryz.isAgg9
 z9 := Tryz.sizeOf9
 v9 := Tryz.zeroValue9
 t20 := Tryz.underlying20
 a20 := Tryz.isAgg20
 z20 := Tryz.sizeOf20
 v20 := Tryz.zeroValue20
 t37 := Tryz.underlying22
 a37 := Tryz.isAgg22
 z37 := Tryz.sizeOf22
 v37 := Tryz.zeroValue22
 t46 := Tryz.underlying151
 a46 := Tryz.isAgg151
 z46 := Tryz.sizeOf151
 v46 := Tryz.zeroValue151
 t51 := Tryz.underlying185
 a51 := Tryz.isAgg185
 z51 := Tryz.sizeOf185
 v51 := Tryz.zeroValue185
 t53 := Tryz.underlying163
 a53 := Tryz.isAgg163
 z53 := Tryz.sizeOf163
 v53 := Tryz.zeroValue163
 t70 := Tryz.underlying155
 a70 := Tryz.isAgg155
 z70 := Tryz.sizeOf155
 v70 := Tryz.zeroValue155
 t72 := Tryz.underlying157
 a72 := Tryz.isAgg157
 z72 := Tryz.sizeOf157
 v72 := Tryz.zeroValue157
 t75 := Tryz.underlying160
 a75 := Tryz.isAgg160
 z75 := Tryz.sizeOf160
 v75 := Tryz.zeroValue160
 t76 := Tryz.underlying161
 a76 := Tryz.isAgg161
 z76 := Tryz.sizeOf161
 v76 := Tryz.zeroValue161
 t109 := Tryz.underlying152
 a109 := Tryz.isAgg152
 z109 := Tryz.sizeOf152
 v109 := Tryz.zeroValue152
 t127 := Tryz.underlying190
 a127 := Tryz.isAgg190
 z127 := Tryz.sizeOf190
 v127 := Tryz.zeroValue190
 t146 := Tryz.underlying186
 a146 := Tryz.isAgg186
 z146 := Tryz.sizeOf186
 v146 := Tryz.zeroValue186
 t148 := Tryz.underlying188
 a148 := Tryz.isAgg188
 z148 := Tryz.sizeOf188
 v148 := Tryz.zeroValue188
 t164 := Tryz.underlying197
 a164 := Tryz.isAgg197
 z164 := Tryz.sizeOf197
 v164 := Tryz.zeroValue197 }
theorem Tryz.Builder_Extra_105 : Builder.Extra Tryz.prog Tryz.lays105_ren := {
 sizeBuilder := by kernel_rfl
 liesBuilder := by kernel_rfl
 t5 := Tryz.underlying5
 a5 := Tryz.isAgg5
 z5 := Tryz.sizeOf5
 v5 := Tryz.zeroValue5
 infoByte := by kernel_rfl
 cellsByte := by kernel_rfl
 sizeByte := by kernel_rfl
 neB5 := by decide }
open Go.RowKit Go.Lib in
theorem Tryz.strings_Repeat (s : ByteArray) (c : Nat) (w : World) (hc : c ≤ 9223372036854775807) (hlen : s.size * c ≤ 140737488355328) :
 Calls Tryz.prog 78 #[.string s, .int .i64 c] w fun e w' => e = .returned (.string ⟨(Lib.repeatL s.data.toList c).toArray⟩) ∧ Below w.heap.size w w' := Any.strings_Repeat Tryz.lays105 Tryz.Builder_Extra_105 s c w hc hlen
end Go.Proofs

/- A number in so many digits. No condition. -/
namespace Go.Proofs.YthffpbkndnhlfaaGreatDoor
open Go Go.RowKit Go.Wk
def padL (n : Int) (k : Nat) : List UInt8 := List.replicate (k - (Lib.itoa n).length) 48 ++ Lib.itoa n
theorem itoa_le (n : Int) (h : i64 n) : (Lib.itoa n).length ≤ 28 := numT_len n true h
theorem padL_len (n : Int) (h : i64 n) (k : Nat) (hk : k ≤ 100) : (padL n k).length ≤ 128 := by
 have := itoa_le n h
 unfold padL
 simp only [List.length_append, List.length_replicate]; omega
theorem rep_one (c : Nat) : Lib.repeatL [48] c = List.replicate c 48 := by
 induction c with
 | zero => rfl
 | succ c ih => rw [List.replicate_succ]; simp [Lib.repeatL, ih] at *
theorem str_Itoa (n : Int) (h : i64 n) (w : World) (htab : Tab w) :
 Calls Tryz.prog 77 #[.int .i64 n] w fun e w' => e = .returned (.string ⟨(Lib.itoa n).toArray⟩) ∧ Below w.heap.size w w' := by
 refine (Tryz.strconv_Itoa n h.1 h.2 w htab).mono ?_
 rintro e w' ⟨rfl, k, os, rfl⟩
 exact ⟨rfl, below_grow w os k⟩
set_option maxHeartbeats 1000000 in
set_option maxRecDepth 100000 in
theorem tab_digits (n : Int) (h : i64 n) (k : Nat) (hk : k ≤ 100) (w : World) (htab : Tab w) (D : ByteArray) (hD : D = ⟨(padL n k).toArray⟩) :
 Calls Tryz.prog 43 #[.int .i64 n, .int .i64 k] w fun e w' => e = .returned (.string D) ∧ Below w.heap.size w w' := by
 have c := str_Itoa n h w htab
 have hl := itoa_le n h
 obtain ⟨S, hS⟩ : ∃ S : ByteArray, S = ⟨(Lib.itoa n).toArray⟩ := ⟨_, rfl⟩
 rw [← hS] at c
 have hSz : S.size = (Lib.itoa n).length := by rw [hS]; simp [ByteArray.size]
 obtain ⟨m, hm⟩ : ∃ m, m = S.size := ⟨_, rfl⟩
 have zm : m ≤ 28 := by omega
 obtain ⟨q, hq⟩ : ∃ q : Nat, q = k - m := ⟨_, rfl⟩
 have cr := fun W => Tryz.strings_Repeat ⟨#[48]⟩ q W (by omega) (by show 1 * q ≤ _; omega)
 obtain ⟨R, hR⟩ : ∃ R : ByteArray, R = ⟨(Lib.repeatL [48] q).toArray⟩ := ⟨_, rfl⟩
 have cr2 : ∀ W, Calls Tryz.prog 78 #[.string ⟨#[48]⟩, .int .i64 q] W fun e w' => e = .returned (.string R) ∧ Below W.heap.size W w' := by rw [hR]; exact cr
 have hRS : R ++ S = D := by
  apply bytes_ext
  rw [bytes_app, hR, hS, hD, rep_one]
  unfold padL
  rw [hq, hm, hSz]
 have hRz : R.size = q := by rw [hR, rep_one]; show (List.replicate q _).toArray.size = q; simp
 clear cr hS hR hSz hD
 replace hRS := hi_ hRS
 replace cr2 := hi_ cr2
 have zS : S.size ≤ 28 := by omega
 have zR : R.size ≤ 100 := by omega
 replace hRz := hi_ hRz
 have hmx : (max 0 ((k : Int) - (S.size : Int))) = (q : Int) := by omega
 replace hm := hi_ hm
 replace hq := hi_ hq
 go_enter Tryz.func43, Tryz.ntmps43
 go_wp2_with (first
  | (go_at_call 77; (with_reducible refine c.mono ?_); rintro e w2 ⟨rfl, hB2⟩; have c78 := cr2.out w2; replace hB2 := hi_ hB2)
  | (go_at_call 78; (with_reducible refine c78.mono ?_); rintro e w3 ⟨rfl, hB3⟩; replace hB3 := hi_ hB3))
 go_ret
 exact ⟨by rw [hRS.out]; rfl, bthen hB2.out hB3.out⟩
set_option maxHeartbeats 1000000 in
set_option maxRecDepth 100000 in
theorem ref_ten (n : Int) (h : i64 n) (k : Nat) (hk : k ≤ 100) (w : World) (D : ByteArray) (hD : D = ⟨(padL n k).toArray⟩) :
 Calls Tryz.prog 48 #[.int .i64 n, .int .i64 k] w fun e w' => e = .returned (.string D) ∧ Below w.heap.size w w' := by
 have c : Calls Tryz.prog 80 #[.int .i64 n, .bool true] w fun e w' => e = .returned (.string ⟨(Lib.itoa n).toArray⟩) ∧ Below w.heap.size w w' := ref_Text n h true w
 have hl := itoa_le n h
 obtain ⟨F, hF⟩ : ∃ F : Nat → ByteArray, F = fun j => ⟨(List.replicate j 48 ++ Lib.itoa n).toArray⟩ := ⟨_, rfl⟩
 obtain ⟨m, hm⟩ : ∃ m, m = (Lib.itoa n).length := ⟨_, rfl⟩
 have hF0 : F 0 = ⟨(Lib.itoa n).toArray⟩ := by rw [hF]; rfl
 have hFs : ∀ j, (F j).size = j + m := fun j => by rw [hF, hm]; simp [ByteArray.size]
 have hFn : ∀ j, (⟨#[48]⟩ : ByteArray) ++ F j = F (j + 1) := fun j => by
  apply bytes_ext
  rw [bytes_app, hF]
  simp [List.replicate_succ]
 have hFe : F (k - m) = D := by rw [hD, hF]; unfold padL; rw [hm]
 rw [← hF0] at c
 clear hD hF hF0
 replace hFs := hi_ hFs
 replace hFn := hi_ hFn
 replace hFe := hi_ hFe
 replace hm := hi_ hm
 have zm : m ≤ 28 := by rw [hm.out]; exact hl
 clear hl
 go_enter Tryz.func48, Tryz.ntmps48
 go_wp2_with (go_at_call 80; (with_reducible refine c.mono ?_); rintro e w2 ⟨rfl, hB2⟩; replace hB2 := hi_ hB2)
 go_loop [5] (fun s5 => ∃ j : Nat, j ≤ k - m ∧ s5 = .string (F j)) (fun s5 => match s5 with | .string s => 200 - s.size | _ => 0)
 case atStart => exact ⟨0, Nat.zero_le _, rfl⟩
 case round =>
  obtain ⟨j, hj, rfl⟩ := hrel
  have hs := hFs.out j
  have hn := hFn.out j
  have hs1 := hFs.out (j + 1)
  replace hs1 := hi_ hs1
  obtain ⟨G, hG⟩ : ∃ G, G = F (j + 1) := ⟨_, rfl⟩
  rw [← hG] at hn
  replace hG := hi_ hG
  obtain ⟨S, hS⟩ : ∃ S, S = F j := ⟨_, rfl⟩
  rw [← hS] at hn hs
  rw [← hS]
  replace hS := hi_ hS
  obtain ⟨z, hz⟩ : ∃ z, z = S.size := ⟨_, rfl⟩
  rw [← hz] at hs
  have zz : z ≤ 200 := by omega
  by_cases hlt : z < k
  ·have zS : S.size ≤ 200 := by omega
   have hlt2 : S.size < k := by omega
   replace hs := hi_ hs
   replace hz := hi_ hz
   go_wp2
   go_round
   case rel => exact ⟨j + 1, by have := hs.out; omega, by rw [hG.out]⟩
   case measure =>
    have h1 := hs1.out
    have h2 := hs.out
    have h3 := hz.out
    have h4 := hG.out
    rw [← h4] at h1
    show 200 - G.size < 200 - S.size
    omega
  ·have hlt2 : ¬ S.size < k := by omega
   have hjk : j = k - m := by omega
   replace hs := hi_ hs
   replace hz := hi_ hz
   replace hjk := hi_ hjk
   go_wp2
   go_ret
   exact ⟨by rw [hS.out, hjk.out, hFe.out]; rfl, hB2.out⟩

/- A row: whether it may be; its bytes. No condition. -/
structure R4 where
 n : Int
 k : Int
 a : Int
 g : Int
def rv (r : R4) : List Value := [.int .i64 r.n, .int .i64 r.k, .int .i64 r.a, .int .i64 r.g]
def R4.ok (r : R4) : Prop := i64 r.n ∧ i64 r.k ∧ i64 r.a ∧ i64 r.g
def mayR (r : R4) : Bool := (r.k == 0 || r.k == 1) && decide (0 ≤ r.n) && decide (r.n ≤ 8388607) && decide (0 ≤ r.a) && decide (r.a ≤ 9999999999) && decide (0 ≤ r.g) && decide (r.g ≤ 65535)
def rowT (r : R4) : List UInt8 := ((padL r.a 10 ++ [32]) ++ padL r.g 5) ++ (if r.k = 1 then [32, 110, 32, 10] else [32, 102, 32, 10])
theorem four_cells {w : World} {v0 v1 v2 v3 : Value} {t : TypeId} {W : World} (hW : W = w.alloc (.cells #[v0, v1, v2, v3] t)) :
 W.cell? ⟨w.heap.size, 0, none⟩ = some v0 ∧ W.cell? ⟨w.heap.size, 1, none⟩ = some v1 ∧ W.cell? ⟨w.heap.size, 2, none⟩ = some v2 ∧ W.cell? ⟨w.heap.size, 3, none⟩ = some v3 := by
 subst hW
 refine ⟨?_, ?_, ?_, ?_⟩ <;> simp
theorem four_kept {p : Nat} {v0 v1 v2 v3 : Value} {W W' : World} (h : W.cell? ⟨p, 0, none⟩ = some v0 ∧ W.cell? ⟨p, 1, none⟩ = some v1 ∧ W.cell? ⟨p, 2, none⟩ = some v2 ∧ W.cell? ⟨p, 3, none⟩ = some v3) (hb : Below W.heap.size W W') :
 W'.cell? ⟨p, 0, none⟩ = some v0 ∧ W'.cell? ⟨p, 1, none⟩ = some v1 ∧ W'.cell? ⟨p, 2, none⟩ = some v2 ∧ W'.cell? ⟨p, 3, none⟩ = some v3 :=
 ⟨(hb.cell (cell_lt h.1)).trans h.1, (hb.cell (cell_lt h.2.1)).trans h.2.1, (hb.cell (cell_lt h.2.2.1)).trans h.2.2.1, (hb.cell (cell_lt h.2.2.2)).trans h.2.2.2⟩
set_option maxHeartbeats 8000000 in
set_option maxRecDepth 100000 in
theorem tab_may (r : R4) (w : World) : Calls Tryz.prog 40 #[.agg (rv r).toArray] w fun e w' => e = .returned (.bool (mayR r)) ∧ Below w.heap.size w w' := by
 obtain ⟨n, k, a, g⟩ := r
 have hb : Below w.heap.size w (w.alloc (.cells #[.int .i64 n, .int .i64 k, .int .i64 a, .int .i64 g] 64)) := (Below.refl _ _).alloc (Nat.le_refl _) _
 obtain ⟨W1, hW1⟩ : ∃ W, W = w.alloc (.cells #[.int .i64 n, .int .i64 k, .int .i64 a, .int .i64 g] 64) := ⟨_, rfl⟩
 rw [← hW1] at hb
 obtain ⟨c0, c1, c2, c3⟩ := four_cells hW1
 obtain ⟨mb, hmb⟩ : ∃ mb, mb = mayR ⟨n, k, a, g⟩ := ⟨_, rfl⟩
 rw [← hmb]
 simp only [mayR] at hmb
 replace hb := hi_ hb
 show Calls Tryz.prog 40 #[.agg #[.int .i64 n, .int .i64 k, .int .i64 a, .int .i64 g]] w fun e w' => e = .returned (.bool mb) ∧ Below w.heap.size w w'
 have hk : (k == 0 || k == 1) = false ∨ (k == 0) = true ∨ ((k == 0) = false ∧ (k == 1) = true) := by
  cases h0 : (k == 0) <;> cases h1 : (k == 1) <;> simp_all
 rcases hk with hk | hk
 ·rw [hk] at hmb
  simp only [Bool.false_and] at hmb
  subst hmb
  have h0 : (k == 0) = false := by simpa using (Bool.or_eq_false_iff.1 hk).1
  have h1 : (k == 1) = false := by simpa using (Bool.or_eq_false_iff.1 hk).2
  clear hk
  go_enter Tryz.func40, Tryz.ntmps40
  go_upto_region 1 with (fail)
  rw [← hW1]
  replace hW1 := hi_ hW1
  go_wp2
  go_ret
  exact ⟨rfl, hb.out⟩
 have ht : ∀ b, mb = b → (decide (0 ≤ n) && decide (n ≤ 8388607) && decide (0 ≤ a) && decide (a ≤ 9999999999) && decide (0 ≤ g) && decide (g ≤ 65535)) = b := by
  intro b hb'
  rw [← hb', hmb]
  rcases hk with h | ⟨h, h'⟩
  ·rw [h]; simp
  ·rw [h, h']; simp
 replace ht := ht mb rfl
 clear hmb
 by_cases t1 : 0 ≤ n
 case neg =>
  have e1 : decide (0 ≤ n) = false := decide_eq_false t1
  simp only [e1, Bool.false_and] at ht
  subst ht
  rcases hk with h0 | ⟨h0, h1⟩
  all_goals
   go_enter Tryz.func40, Tryz.ntmps40
   go_upto_region 1 with (fail)
   rw [← hW1]
   replace hW1 := hi_ hW1
   go_wp2
   go_ret
   exact ⟨rfl, hb.out⟩
 have e1 : decide (0 ≤ n) = true := decide_eq_true t1
 by_cases t2 : n ≤ 8388607
 case neg =>
  have e2 : decide (n ≤ 8388607) = false := decide_eq_false t2
  simp only [e1, e2, Bool.false_and, Bool.true_and, Bool.and_false, Bool.and_true] at ht
  subst ht
  rcases hk with h0 | ⟨h0, h1⟩
  all_goals
   go_enter Tryz.func40, Tryz.ntmps40
   go_upto_region 1 with (fail)
   rw [← hW1]
   replace hW1 := hi_ hW1
   go_wp2
   go_ret
   exact ⟨rfl, hb.out⟩
 have e2 : decide (n ≤ 8388607) = true := decide_eq_true t2
 by_cases t3 : 0 ≤ a
 case neg =>
  have e3 : decide (0 ≤ a) = false := decide_eq_false t3
  simp only [e1, e2, e3, Bool.false_and, Bool.true_and, Bool.and_false, Bool.and_true] at ht
  subst ht
  rcases hk with h0 | ⟨h0, h1⟩
  all_goals
   go_enter Tryz.func40, Tryz.ntmps40
   go_upto_region 1 with (fail)
   rw [← hW1]
   replace hW1 := hi_ hW1
   go_wp2
   go_ret
   exact ⟨rfl, hb.out⟩
 have e3 : decide (0 ≤ a) = true := decide_eq_true t3
 by_cases t4 : a ≤ 9999999999
 case neg =>
  have e4 : decide (a ≤ 9999999999) = false := decide_eq_false t4
  simp only [e1, e2, e3, e4, Bool.false_and, Bool.true_and, Bool.and_false, Bool.and_true] at ht
  subst ht
  rcases hk with h0 | ⟨h0, h1⟩
  all_goals
   go_enter Tryz.func40, Tryz.ntmps40
   go_upto_region 1 with (fail)
   rw [← hW1]
   replace hW1 := hi_ hW1
   go_wp2
   go_ret
   exact ⟨rfl, hb.out⟩
 have e4 : decide (a ≤ 9999999999) = true := decide_eq_true t4
 by_cases t5 : 0 ≤ g
 case neg =>
  have e5 : decide (0 ≤ g) = false := decide_eq_false t5
  simp only [e1, e2, e3, e4, e5, Bool.false_and, Bool.true_and, Bool.and_false, Bool.and_true] at ht
  subst ht
  rcases hk with h0 | ⟨h0, h1⟩
  all_goals
   go_enter Tryz.func40, Tryz.ntmps40
   go_upto_region 1 with (fail)
   rw [← hW1]
   replace hW1 := hi_ hW1
   go_wp2
   go_ret
   exact ⟨rfl, hb.out⟩
 have e5 : decide (0 ≤ g) = true := decide_eq_true t5
 by_cases t6 : g ≤ 65535
 case neg =>
  have e6 : decide (g ≤ 65535) = false := decide_eq_false t6
  simp only [e1, e2, e3, e4, e5, e6, Bool.false_and, Bool.true_and, Bool.and_false, Bool.and_true] at ht
  subst ht
  rcases hk with h0 | ⟨h0, h1⟩
  all_goals
   go_enter Tryz.func40, Tryz.ntmps40
   go_upto_region 1 with (fail)
   rw [← hW1]
   replace hW1 := hi_ hW1
   go_wp2
   go_ret
   exact ⟨rfl, hb.out⟩
 have e6 : decide (g ≤ 65535) = true := decide_eq_true t6
 simp only [e1, e2, e3, e4, e5, e6, Bool.true_and, Bool.and_true] at ht
 subst ht
 rcases hk with h0 | ⟨h0, h1⟩
 all_goals
  go_enter Tryz.func40, Tryz.ntmps40
  go_upto_region 1 with (fail)
  rw [← hW1]
  replace hW1 := hi_ hW1
  go_wp2
  go_ret
  exact ⟨rfl, hb.out⟩

/- A row's bytes, by the program. No condition. -/
def G44 (p : Nat) (a g : Int) (DA DG K S3 S7 : ByteArray) : Nat → Value → World → Prop := fun j v w => match j with
 | 0 => v = .pointer (some ⟨p, 2, none⟩)
 | 1 => v = .int .i64 a
 | 2 => v = .string DA
 | 3 => v = .string S3
 | 4 => v = .pointer (some ⟨p, 3, none⟩)
 | 5 => v = .int .i64 g
 | 6 => v = .string DG
 | 7 => v = .string S7
 | 8 => v = .string K
 | _ => v = .string (S7 ++ K)
theorem G44_mono {p : Nat} {a g : Int} {DA DG K S3 S7 : ByteArray} (j : Nat) (v : Value) (w w' : World) (hG : G44 p a g DA DG K S3 S7 j v w) (hk : Below w.heap.size w w') : G44 p a g DA DG K S3 S7 j v w' := hG
set_option maxHeartbeats 8000000 in
set_option maxRecDepth 100000 in
theorem tab_text (r : R4) (hr : r.ok) (w : World) (htab : Tab w) (T : ByteArray) (hT : T = ⟨(rowT r).toArray⟩) : Calls Tryz.prog 44 #[.agg (rv r).toArray] w fun e w' => e = .returned (.string T) ∧ Below w.heap.size w w' := by
 obtain ⟨n, k, a, g⟩ := r
 obtain ⟨W1, hW1⟩ : ∃ W, W = w.alloc (.cells #[.int .i64 n, .int .i64 k, .int .i64 a, .int .i64 g] 64) := ⟨_, rfl⟩
 have hb : Below w.heap.size w W1 := by rw [hW1]; exact (Below.refl _ _).alloc (Nat.le_refl _) _
 obtain ⟨c0, c1, c2, c3⟩ := four_cells hW1
 obtain ⟨_, _, ia, ig⟩ := hr
 obtain ⟨DA, hDA⟩ : ∃ D : ByteArray, D = ⟨(padL a 10).toArray⟩ := ⟨_, rfl⟩
 obtain ⟨DG, hDG⟩ : ∃ D : ByteArray, D = ⟨(padL g 5).toArray⟩ := ⟨_, rfl⟩
 have zA : DA.size ≤ 128 := by rw [hDA]; have := padL_len a ia 10 (by omega); simpa [ByteArray.size] using this
 have zG : DG.size ≤ 128 := by rw [hDG]; have := padL_len g ig 5 (by omega); simpa [ByteArray.size] using this
 have cA := fun W (hW : Below w.heap.size w W) => tab_digits a ia 10 (by omega) W (htab.below hW) DA hDA
 have cG := fun W (hW : Below w.heap.size w W) => tab_digits g ig 5 (by omega) W (htab.below hW) DG hDG
 obtain ⟨S3, hS3⟩ : ∃ S, S = DA ++ ⟨#[32]⟩ := ⟨_, rfl⟩
 obtain ⟨S7, hS7⟩ : ∃ S, S = S3 ++ DG := ⟨_, rfl⟩
 have z3 : S3.size ≤ 129 := by rw [hS3, ByteArray.size_append]; show DA.size + 1 ≤ 129; omega
 have z7 : S7.size ≤ 257 := by rw [hS7, ByteArray.size_append]; omega
 have hend : ∀ K : ByteArray, K.data.toList = (if k = 1 then [32, 110, 32, 10] else [32, 102, 32, 10]) → S7 ++ K = T := fun K hK => by
  apply bytes_ext
  rw [hT, bytes_app, hS7, bytes_app, hS3, bytes_app, hK, hDA, hDG]
  rfl
 clear hT
 replace hDA := hi_ hDA
 replace hDG := hi_ hDG
 replace hS7 := hi_ hS7
 replace hS3 := hi_ hS3
 replace hb := hi_ hb
 replace cA := hi_ cA
 replace cG := hi_ cG
 show Calls Tryz.prog 44 #[.agg #[.int .i64 n, .int .i64 k, .int .i64 a, .int .i64 g]] w fun e w' => e = .returned (.string T) ∧ Below w.heap.size w w'
 have fin : ∃ (b : Bool) (K : ByteArray), (k == 1) = b ∧ S7 ++ K = T ∧ K = (bif b then ⟨#[32, 110, 32, 10]⟩ else ⟨#[32, 102, 32, 10]⟩) := by
  by_cases h1 : k = 1
  ·exact ⟨true, ⟨#[32, 110, 32, 10]⟩, by simpa using h1, hend _ (by rw [if_pos h1]), rfl⟩
  ·exact ⟨false, ⟨#[32, 102, 32, 10]⟩, by simpa using h1, hend _ (by rw [if_neg h1]), rfl⟩
 clear hend
 obtain ⟨b, K, hkb, hKT, hK⟩ := fin
 have zK : K.size ≤ 4 := by rw [hK]; cases b <;> decide
 replace hKT := hi_ hKT
 cases b
 case false =>
  simp only [cond_true, cond_false] at hK
  subst hK
  go_enter Tryz.func44, Tryz.ntmps44
  go_upto_region 1 with (fail)
  rw [← hW1]
  replace hW1 := hi_ hW1
  go_upto_region 4 with (fail)
  refine wp_lin_tail (by kernel_rfl) [none, none, none, none, none, none, none, some 0, some 1, some 2, some 3, some 4, some 5, some 6, some 7, some 8, some 9] (fun w' => Below W1.heap.size W1 w') (fun w' w'' => Below w'.heap.size w' w'') (G44 w.heap.size a g DA DG ⟨#[32, 102, 32, 10]⟩ S3 S7) (by rfl) (by kernel_rfl) 10 _ rfl (by decide) (by kernel_rfl) [10, 10, 10, 10, 10, 10, 10, 10, 10, 10, 0] (by kernel_rfl) ?hR ?mono (.cons 9 (step_of [7, 8] rfl (by kernel_rfl) ?s9) (.cons 8 (step_of [] rfl (by kernel_rfl) ?s8) (.cons 7 (step_of [3, 6] rfl (by kernel_rfl) ?s7) (.cons 6 (step_of [5, 2] rfl (by kernel_rfl) ?s6) (.cons 5 (step_of [4] rfl (by kernel_rfl) ?s5) (.cons 4 (step_of [] rfl (by kernel_rfl) ?s4) (.cons 3 (step_of [2] rfl (by kernel_rfl) ?s3) (.cons 2 (step_of [1] rfl (by kernel_rfl) ?s2) (.cons 1 (step_of [0] rfl (by kernel_rfl) ?s1) (.cons 0 (step_of [] rfl (by kernel_rfl) ?s0) (.nil))))))))))) ?done
  case hR => exact (Below.refl _ _).drew
  case mono => exact G44_mono
  case s0 =>
   intro x w' hRw hd K' hK
   simp only [All, G44] at hd
   simp +decide only [upd, G44, fillL, if_true, if_false] at hK ⊢
   go_simp
   have hK2 := hK _ _ ⟨hRw, Below.refl _ _, rfl⟩
   exact hK2
  case s1 =>
   intro x w' hRw hd K' hK
   simp only [All, G44] at hd
   obtain ⟨e0, _⟩ := hd
   have tc2 := (hRw.cell (cell_lt c2)).trans c2
   simp +decide only [upd, G44, fillL, if_true, if_false] at hK ⊢
   simp only [e0] at hK ⊢
   go_simp
   have hK2 := hK _ _ ⟨hRw, Below.refl _ _, rfl⟩
   exact hK2
  case s2 =>
   intro x w' hRw hd K' hK
   simp only [All, G44] at hd
   obtain ⟨e1, _⟩ := hd
   simp +decide only [upd, G44, fillL, if_true, if_false] at hK ⊢
   simp only [e1] at hK ⊢
   go_simp
   refine (cA.out w' (bthen hb.out hRw)).mono ?_
   rintro e' w2 ⟨rfl, hB9⟩
   have hK2 := hK _ _ ⟨bthen hRw hB9, hB9, rfl⟩
   exact hK2
  case s3 =>
   intro x w' hRw hd K' hK
   simp only [All, G44] at hd
   obtain ⟨e2, _⟩ := hd
   simp +decide only [upd, G44, fillL, if_true, if_false] at hK ⊢
   simp only [e2] at hK ⊢
   have h3 := hS3.out.symm
   go_simp
   rw [if_neg (by omega)]
   have hK2 := hK _ _ ⟨hRw, Below.refl _ _, rfl⟩
   exact hK2
  case s4 =>
   intro x w' hRw hd K' hK
   simp only [All, G44] at hd
   simp +decide only [upd, G44, fillL, if_true, if_false] at hK ⊢
   go_simp
   have hK2 := hK _ _ ⟨hRw, Below.refl _ _, rfl⟩
   exact hK2
  case s5 =>
   intro x w' hRw hd K' hK
   simp only [All, G44] at hd
   obtain ⟨e4, _⟩ := hd
   have tc3 := (hRw.cell (cell_lt c3)).trans c3
   simp +decide only [upd, G44, fillL, if_true, if_false] at hK ⊢
   simp only [e4] at hK ⊢
   go_simp
   have hK2 := hK _ _ ⟨hRw, Below.refl _ _, rfl⟩
   exact hK2
  case s6 =>
   intro x w' hRw hd K' hK
   simp only [All, G44] at hd
   obtain ⟨e5, e2, _⟩ := hd
   simp +decide only [upd, G44, fillL, if_true, if_false] at hK ⊢
   simp only [e5, e2] at hK ⊢
   go_simp
   refine (cG.out w' (bthen hb.out hRw)).mono ?_
   rintro e' w2 ⟨rfl, hB9⟩
   have hK2 := hK _ _ ⟨bthen hRw hB9, hB9, rfl⟩
   exact hK2
  case s7 =>
   intro x w' hRw hd K' hK
   simp only [All, G44] at hd
   obtain ⟨e3, e6, _⟩ := hd
   simp +decide only [upd, G44, fillL, if_true, if_false] at hK ⊢
   simp only [e3, e6] at hK ⊢
   have h7 := hS7.out.symm
   go_simp
   rw [if_neg (by omega)]
   have hK2 := hK _ _ ⟨hRw, Below.refl _ _, rfl⟩
   exact hK2
  case s8 =>
   intro x w' hRw hd K' hK
   simp only [All, G44] at hd
   simp +decide only [upd, G44, fillL, if_true, if_false] at hK ⊢
   go_simp
   have hK2 := hK _ _ ⟨hRw, Below.refl _ _, rfl⟩
   exact hK2
  case s9 =>
   intro x w' hRw hd K' hK
   simp only [All, G44] at hd
   obtain ⟨e7, e8, _⟩ := hd
   simp +decide only [upd, G44, fillL, if_true, if_false] at hK ⊢
   simp only [e7, e8] at hK ⊢
   have zK2 := zK
   go_simp
   rw [if_neg (by omega)]
   have hK2 := hK _ _ ⟨hRw, Below.refl _ _, rfl⟩
   exact hK2
  case done =>
   intro x w6 hR2 hG fr hfr
   have a9 := hG 9 (by omega)
   simp only [G44] at a9
   clear hG
   rw [hKT.out] at a9
   simp only [fillL] at hfr
   rw [a9] at hfr
   subst hfr
   replace hR2 := hi_ hR2
   go_wp2
   go_ret
   exact ⟨rfl, bthen hb.out hR2.out⟩
 case true =>
  simp only [cond_true, cond_false] at hK
  subst hK
  go_enter Tryz.func44, Tryz.ntmps44
  go_upto_region 1 with (fail)
  rw [← hW1]
  replace hW1 := hi_ hW1
  go_upto_region 4 with (fail)
  refine wp_lin_tail (by kernel_rfl) [none, none, none, none, none, none, none, some 0, some 1, some 2, some 3, some 4, some 5, some 6, some 7, some 8, some 9] (fun w' => Below W1.heap.size W1 w') (fun w' w'' => Below w'.heap.size w' w'') (G44 w.heap.size a g DA DG ⟨#[32, 110, 32, 10]⟩ S3 S7) (by rfl) (by kernel_rfl) 10 _ rfl (by decide) (by kernel_rfl) [10, 10, 10, 10, 10, 10, 10, 10, 10, 10, 0] (by kernel_rfl) ?hR ?mono (.cons 9 (step_of [7, 8] rfl (by kernel_rfl) ?s9) (.cons 8 (step_of [] rfl (by kernel_rfl) ?s8) (.cons 7 (step_of [3, 6] rfl (by kernel_rfl) ?s7) (.cons 6 (step_of [5, 2] rfl (by kernel_rfl) ?s6) (.cons 5 (step_of [4] rfl (by kernel_rfl) ?s5) (.cons 4 (step_of [] rfl (by kernel_rfl) ?s4) (.cons 3 (step_of [2] rfl (by kernel_rfl) ?s3) (.cons 2 (step_of [1] rfl (by kernel_rfl) ?s2) (.cons 1 (step_of [0] rfl (by kernel_rfl) ?s1) (.cons 0 (step_of [] rfl (by kernel_rfl) ?s0) (.nil))))))))))) ?done
  case hR => exact (Below.refl _ _).drew
  case mono => exact G44_mono
  case s0 =>
   intro x w' hRw hd K' hK
   simp only [All, G44] at hd
   simp +decide only [upd, G44, fillL, if_true, if_false] at hK ⊢
   go_simp
   have hK2 := hK _ _ ⟨hRw, Below.refl _ _, rfl⟩
   exact hK2
  case s1 =>
   intro x w' hRw hd K' hK
   simp only [All, G44] at hd
   obtain ⟨e0, _⟩ := hd
   have tc2 := (hRw.cell (cell_lt c2)).trans c2
   simp +decide only [upd, G44, fillL, if_true, if_false] at hK ⊢
   simp only [e0] at hK ⊢
   go_simp
   have hK2 := hK _ _ ⟨hRw, Below.refl _ _, rfl⟩
   exact hK2
  case s2 =>
   intro x w' hRw hd K' hK
   simp only [All, G44] at hd
   obtain ⟨e1, _⟩ := hd
   simp +decide only [upd, G44, fillL, if_true, if_false] at hK ⊢
   simp only [e1] at hK ⊢
   go_simp
   refine (cA.out w' (bthen hb.out hRw)).mono ?_
   rintro e' w2 ⟨rfl, hB9⟩
   have hK2 := hK _ _ ⟨bthen hRw hB9, hB9, rfl⟩
   exact hK2
  case s3 =>
   intro x w' hRw hd K' hK
   simp only [All, G44] at hd
   obtain ⟨e2, _⟩ := hd
   simp +decide only [upd, G44, fillL, if_true, if_false] at hK ⊢
   simp only [e2] at hK ⊢
   have h3 := hS3.out.symm
   go_simp
   rw [if_neg (by omega)]
   have hK2 := hK _ _ ⟨hRw, Below.refl _ _, rfl⟩
   exact hK2
  case s4 =>
   intro x w' hRw hd K' hK
   simp only [All, G44] at hd
   simp +decide only [upd, G44, fillL, if_true, if_false] at hK ⊢
   go_simp
   have hK2 := hK _ _ ⟨hRw, Below.refl _ _, rfl⟩
   exact hK2
  case s5 =>
   intro x w' hRw hd K' hK
   simp only [All, G44] at hd
   obtain ⟨e4, _⟩ := hd
   have tc3 := (hRw.cell (cell_lt c3)).trans c3
   simp +decide only [upd, G44, fillL, if_true, if_false] at hK ⊢
   simp only [e4] at hK ⊢
   go_simp
   have hK2 := hK _ _ ⟨hRw, Below.refl _ _, rfl⟩
   exact hK2
  case s6 =>
   intro x w' hRw hd K' hK
   simp only [All, G44] at hd
   obtain ⟨e5, e2, _⟩ := hd
   simp +decide only [upd, G44, fillL, if_true, if_false] at hK ⊢
   simp only [e5, e2] at hK ⊢
   go_simp
   refine (cG.out w' (bthen hb.out hRw)).mono ?_
   rintro e' w2 ⟨rfl, hB9⟩
   have hK2 := hK _ _ ⟨bthen hRw hB9, hB9, rfl⟩
   exact hK2
  case s7 =>
   intro x w' hRw hd K' hK
   simp only [All, G44] at hd
   obtain ⟨e3, e6, _⟩ := hd
   simp +decide only [upd, G44, fillL, if_true, if_false] at hK ⊢
   simp only [e3, e6] at hK ⊢
   have h7 := hS7.out.symm
   go_simp
   rw [if_neg (by omega)]
   have hK2 := hK _ _ ⟨hRw, Below.refl _ _, rfl⟩
   exact hK2
  case s8 =>
   intro x w' hRw hd K' hK
   simp only [All, G44] at hd
   simp +decide only [upd, G44, fillL, if_true, if_false] at hK ⊢
   go_simp
   have hK2 := hK _ _ ⟨hRw, Below.refl _ _, rfl⟩
   exact hK2
  case s9 =>
   intro x w' hRw hd K' hK
   simp only [All, G44] at hd
   obtain ⟨e7, e8, _⟩ := hd
   simp +decide only [upd, G44, fillL, if_true, if_false] at hK ⊢
   simp only [e7, e8] at hK ⊢
   have zK2 := zK
   go_simp
   rw [if_neg (by omega)]
   have hK2 := hK _ _ ⟨hRw, Below.refl _ _, rfl⟩
   exact hK2
  case done =>
   intro x w6 hR2 hG fr hfr
   have a9 := hG 9 (by omega)
   simp only [G44] at a9
   clear hG
   rw [hKT.out] at a9
   simp only [fillL] at hfr
   rw [a9] at hfr
   subst hfr
   replace hR2 := hi_ hR2
   go_wp2
   go_ret
   exact ⟨rfl, bthen hb.out hR2.out⟩
end Go.Proofs.YthffpbkndnhlfaaGreatDoor

/- Words for memory: a block that is known whole. No condition. -/
namespace Go.Wk
open Go Go.RowKit
def Blk (w : World) (g : Nat) (t : TypeId) (cs : Array Value) : Prop := w.heap[g]? = some (.cells cs t (0, 0))
section
variable {w w' : World} {g : Nat} {t : TypeId} {cs : Array Value}
theorem Blk.lt (h : Blk w g t cs) : g < w.heap.size := by
 rcases Nat.lt_or_ge g w.heap.size with hlt | hge
 ·exact hlt
 ·unfold Blk at h; rw [Array.getElem?_eq_none hge] at h; cases h
theorem Blk.cell (h : Blk w g t cs) (i : Nat) : w.cell? ⟨g, i, none⟩ = cs[i]? := cell_of_row w g i cs t (0, 0) h
theorem Blk.frozen (h : Blk w g t cs) (i : Nat) : w.frozen? ⟨g, i, none⟩ = false := by
 unfold Blk at h
 simp [World.frozen?, h]
theorem Blk.new (w : World) (t : TypeId) (cs : Array Value) : Blk (w.alloc (.cells cs t)) w.heap.size t cs := heap_alloc_new w _
theorem Blk.drew (h : Blk w g t cs) : Blk w.drew g t cs := h
theorem Blk.drewN (h : Blk w g t cs) (n : Nat) : Blk (w.drewN n) g t cs := h
theorem Blk.alloc (h : Blk w g t cs) (o : Obj) : Blk (w.alloc o) g t cs := (Below.heap_alloc w o g h.lt).trans h
theorem Blk.set_ (h : Blk w g t cs) (i : Nat) (u : Value) : Blk (w.setCell ⟨g, i, none⟩ u) g t (cs.setIfInBounds i u) := by
 unfold Blk at h ⊢
 simp [World.setCell, Array.getElem?_modify, h]
theorem Blk.far (h : Blk w g t cs) {p : Addr} (hp : g ≠ p.block) (u : Value) : Blk (w.setCell p u) g t cs := (Below.heap_setCell w p u g hp).trans h
theorem Blk.below {B : Nat} (h : Blk w g t cs) (hb : Below B w w') (hg : g < B) : Blk w' g t cs := (hb.block g hg).trans h
theorem Blk.grown {row : Option Nat} (h : Blk w g t cs) (hb : w.grownBy w' row) (hg : some g ≠ row) : Blk w' g t cs := (hb.block g h.lt hg).trans h
end

/- Objects in memory of their own, and rows of them that grow. No condition. -/
def ObI (lo hi : Nat) (w : World) (o : Ob) (vs : List Value) : Prop := hi ≤ w.heap.size ∧ ∀ w' : World, (∀ b, lo ≤ b → b < hi → w'.heap[b]? = w.heap[b]?) → hi ≤ w'.heap.size → ObAt w' o vs
theorem ObI.ob {lo hi : Nat} {w : World} {o : Ob} {vs : List Value} (h : ObI lo hi w o vs) : ObAt w o vs := h.2 w (fun _ _ _ => rfl) h.1
theorem ObI.keep {lo hi : Nat} {w w' : World} {o : Ob} {vs : List Value} (h : ObI lo hi w o vs) (hk : ∀ b, lo ≤ b → b < hi → w'.heap[b]? = w.heap[b]?) (hs : hi ≤ w'.heap.size) : ObI lo hi w' o vs :=
 ⟨hs, fun w2 h2 hz => h.2 w2 (fun b h3 h4 => (h2 b h3 h4).trans (hk b h3 h4)) hz⟩
theorem ObI.wide {lo lo' hi : Nat} {w : World} {o : Ob} {vs : List Value} (h : ObI lo hi w o vs) (hl : lo' ≤ lo) : ObI lo' hi w o vs :=
 ⟨h.1, fun w2 h2 hz => h.2 w2 (fun b h3 h4 => h2 b (by omega) h4) hz⟩
def EnI (lo hi : Nat) (w : World) (e : List UInt8 × Ob) (rs : List Value) : Prop := ∃ us, rs = strV e.1 :: us ∧ e.1.length ≤ maxLen ∧ ObI lo hi w e.2 us
structure ItLaw {α : Type} (I : Nat → Nat → World → α → List Value → Prop) (sz : Nat) : Prop where
 keep : ∀ {lo hi w w' a us}, I lo hi w a us → (∀ b, lo ≤ b → b < hi → w'.heap[b]? = w.heap[b]?) → hi ≤ w'.heap.size → I lo hi w' a us
 top : ∀ {lo hi w a us}, I lo hi w a us → hi ≤ w.heap.size
 len : ∀ {lo hi w a us}, I lo hi w a us → us.length = sz
theorem ob_law : ItLaw ObI 5 := ⟨fun h hk hs => h.keep hk hs, fun h => h.1, fun h => h.ob.five⟩
theorem en_law : ItLaw EnI 6 := ⟨fun ⟨us, h1, h2, h3⟩ hk hs => ⟨us, h1, h2, h3.keep hk hs⟩, fun ⟨us, h1, h2, h3⟩ => h3.1, fun ⟨us, h1, h2, h3⟩ => by rw [h1]; simp [h3.ob.five]⟩
structure RowG {α : Type} (I : Nat → Nat → World → α → List Value → Prop) (e : TypeId) (sz B : Nat) (w : World) (v : Value) (l : List α) (rss : List (List Value)) : Prop where
 len : rss.length = l.length
 row : w.ownsRow B e sz v l.length rss.flatten
 it : ∀ i (h : i < l.length), ∃ lo hi, B ≤ lo ∧ (∀ g, v.ownBlock = some g → g < lo ∨ hi ≤ g) ∧ I lo hi w l[i] (rss.getD i [])
section
variable {α : Type} {I : Nat → Nat → World → α → List Value → Prop} {e : TypeId} {sz B : Nat} {w w' : World} {v : Value} {l : List α} {rss : List (List Value)}
theorem RowG.nil (I : Nat → Nat → World → α → List Value → Prop) (e : TypeId) (sz B : Nat) (w : World) : RowG I e sz B w (.slice none 0 0) ([] : List α) [] :=
 ⟨rfl, World.ownsRow_nil _ _ _ _, fun i h => by simp at h⟩
theorem own_far {e : TypeId} {sz B : Nat} {w w' : World} {v : Value} {n : Nat} {xs : List Value} (h : w.ownsRow B e sz v n xs) (hk : ∀ b, B ≤ b → b < w.heap.size → w'.heap[b]? = w.heap[b]?) : w'.ownsRow B e sz v n xs := by
 refine ⟨h.1, ?_⟩
 rcases h.2 with h2 | ⟨g, cap, cur, e', hB, hh, rest⟩
 ·exact .inl h2
 ·exact .inr ⟨g, cap, cur, e', hB, (hk g hB (Array.getElem?_eq_some_iff.1 hh).1).trans hh, rest⟩
theorem RowG.far (L : ItLaw I sz) (h : RowG I e sz B w v l rss) (hk : ∀ b, B ≤ b → b < w.heap.size → w'.heap[b]? = w.heap[b]?) (hs : w.heap.size ≤ w'.heap.size) : RowG I e sz B w' v l rss :=
 ⟨h.len, own_far h.row hk, fun i hi => by
  obtain ⟨lo, hi', h1, h2, h3⟩ := h.it i hi
  have ht := L.top h3
  exact ⟨lo, hi', h1, h2, L.keep h3 (fun b hb hb' => hk b (by omega) (by omega)) (by omega)⟩⟩
theorem RowG.below (L : ItLaw I sz) (h : RowG I e sz B w v l rss) (hb : Below w.heap.size w w') : RowG I e sz B w' v l rss :=
 h.far L (fun b _ hb' => hb.block b hb') hb.size
theorem RowG.more (L : ItLaw I sz) (h : RowG I e sz B w v l rss) {a : α} {us : List Value} {lo hi : Nat} (ha : I lo hi w a us) (hlo : B ≤ lo) (hne : ∀ g, v.ownBlock = some g → g < lo ∨ hi ≤ g)
 {v' : Value} (hown : w'.ownsRow B e sz v' (l.length + 1) (rss.flatten ++ us)) (hg : w.grownBy w' v.ownBlock) (hat : v'.ownBlock = v.ownBlock ∨ v'.ownBlock = some w.heap.size) : RowG I e sz B w' v' (l ++ [a]) (rss ++ [us]) := by
 have keep : ∀ {lo hi : Nat}, hi ≤ w.heap.size → (∀ g, v.ownBlock = some g → g < lo ∨ hi ≤ g) → ∀ b, lo ≤ b → b < hi → w'.heap[b]? = w.heap[b]? := fun {lo hi} ht hq b h1 h2 =>
  hg.block b (by omega) (fun e => by have h9 := hq b e.symm; omega)
 have apart : ∀ {lo hi : Nat}, hi ≤ w.heap.size → (∀ g, v.ownBlock = some g → g < lo ∨ hi ≤ g) → ∀ g, v'.ownBlock = some g → g < lo ∨ hi ≤ g := fun {lo hi} ht hq g hgo => by
  rcases hat with e | e
  ·exact hq g (by rw [← e]; exact hgo)
  ·rw [e] at hgo; injection hgo with hgo; right; omega
 refine ⟨by simp [h.len], ?_, fun i hi' => ?_⟩
 ·rw [List.length_append, List.flatten_append]; simpa using hown
 ·rw [List.length_append] at hi'
  simp only [List.length_cons, List.length_nil] at hi'
  have hs := hg.size
  by_cases hil : i < l.length
  ·obtain ⟨lo2, hi2, h1, h2, h3⟩ := h.it i hil
   have ht := L.top h3
   refine ⟨lo2, hi2, h1, apart ht h2, ?_⟩
   rw [List.getElem_append_left hil, List.getD_eq_getElem?_getD, List.getElem?_append_left (by rw [h.len]; exact hil), ← List.getD_eq_getElem?_getD]
   exact L.keep h3 (keep ht h2) (by omega)
  ·obtain rfl : i = l.length := by omega
   have ht := L.top ha
   refine ⟨lo, hi, hlo, apart ht hne, ?_⟩
   have e1 : (rss ++ [us]).getD l.length [] = us := by
    rw [List.getD_eq_getElem?_getD, List.getElem?_append_right (by rw [h.len]; omega), h.len]; simp
   rw [e1]
   have e2 : (l ++ [a])[l.length] = a := by simp
   rw [e2]
   exact L.keep ha (keep ht hne) (by omega)
theorem flat_at {rss : List (List Value)} {sz : Nat} (h : ∀ i, i < rss.length → (rss.getD i []).length = sz) : ∀ i j, i < rss.length → j < sz → rss.flatten[sz * i + j]? = (rss.getD i [])[j]? := by
 induction rss with
 | nil => intro i j hi; simp at hi
 | cons r t ih =>
  intro i j hi hj
  have h0 := h 0 (by simp)
  simp only [List.getD_cons_zero] at h0
  cases i with
  | zero =>
   rw [List.flatten_cons, List.getElem?_append_left (by omega)]; simp
  | succ i =>
   rw [List.flatten_cons, List.getElem?_append_right (by rw [h0, Nat.mul_succ]; omega)]
   have := ih (fun k hk => by have := h (k + 1) (by simpa using hk); simpa using this) i j (by simpa using hi) hj
   rw [h0, show sz * (i + 1) + j - sz = sz * i + j by rw [Nat.mul_succ]; omega, this]
   simp
theorem RowG.out (L : ItLaw I sz) (hsz : 0 < sz) (h : RowG I e sz B w v l rss) : ∃ A c g, v = .slice A l.length c ∧ l.length ≤ c ∧ (A = none → c = 0) ∧ (0 < l.length → A = some ⟨g, 0, none⟩) ∧ c ≤ maxLen ∧
 (∀ i (hi : i < l.length), (∃ lo hi', I lo hi' w l[i] (rss.getD i [])) ∧ ∀ j, j < sz → w.cell? ⟨g, 0 + (sz * i + j), none⟩ = (rss.getD i [])[j]?) := by
 have hlen : ∀ i, i < rss.length → (rss.getD i []).length = sz := fun i hi => by
  obtain ⟨lo, hi', _, _, h3⟩ := h.it i (by rw [← h.len]; exact hi)
  exact L.len h3
 rcases h.row.2 with ⟨rfl, hn⟩ | ⟨g, cap, cur, rfl, hB, hh, hnc, hcm, hcs, htk⟩
 ·exact ⟨none, 0, 0, by rw [hn], by omega, fun _ => rfl, fun h => by omega, by unfold maxLen; omega, fun i hi => by omega⟩
 ·refine ⟨_, cap, g, rfl, hnc, (fun e => by cases e), fun _ => rfl, hcm, fun i hi => ⟨?_, fun j hj => ?_⟩⟩
  ·obtain ⟨lo, hi', _, _, h3⟩ := h.it i hi
   exact ⟨lo, hi', h3⟩
  ·rw [← flat_at hlen i j (by rw [h.len]; exact hi) hj, ← htk, List.getElem?_take]
   have hb : sz * i + j < l.length * sz := by
    have : sz * i + sz ≤ sz * l.length := by rw [← Nat.mul_succ]; exact Nat.mul_le_mul_left _ hi
    rw [Nat.mul_comm l.length]; omega
   rw [if_pos hb, Nat.zero_add]
   simp [World.cell?, hh]
end
theorem built {tb tO tE : TypeId} {B : Nat} {w : World} {k n : Int} {vB vL vD : Value} {b : List UInt8} {l : List Ob} {d : List (List UInt8 × Ob)} {rl rd : List (List Value)}
 (hk1 : -9223372036854775808 ≤ k) (hk2 : k ≤ 9223372036854775807) (hn1 : -9223372036854775808 ≤ n) (hn2 : n ≤ 9223372036854775807)
 (hb : w.ownsRow B tb 1 vB b.length (valsB b)) (hbm : b.length ≤ maxLen) (hL : RowG ObI tO 5 B w vL l rl) (hD : RowG EnI tE 6 B w vD d rd) :
 ObI B w.heap.size w (.mk k n b l d) [.int .i64 k, .int .i64 n, vB, vL, vD] := by
 refine ⟨Nat.le_refl _, fun w' h hz => ?_⟩
 have hb' := own_far hb h
 have hL' := hL.far ob_law h hz
 have hD' := hD.far en_law h hz
 obtain ⟨AL, cL, gL, rfl, h1, h2, h3, h4, h5⟩ := hL'.out ob_law (by omega)
 obtain ⟨AD, cD, gD, rfl, i1, i2, i3, i4, i5⟩ := hD'.out en_law (by omega)
 obtain ⟨A, c, rfl, hby⟩ := own_byt hb'
 have hbc : b.length ≤ c ∧ (A = none → c = 0) := by
  rcases hb'.2 with ⟨e, hn⟩ | ⟨g, cap, cur, e, _, _, hnc, _⟩
  ·injection e with e1 e2 e3; exact ⟨by omega, fun _ => e3⟩
  ·injection e with e1 e2 e3; exact ⟨by omega, fun e => by rw [e] at e1; cases e1⟩
 have hen : ∀ i (hi : i < d.length), ∃ us, rd.getD i [] = strV d[i].1 :: us ∧ d[i].1.length ≤ maxLen ∧ ObAt w' d[i].2 us := fun i hi => by
  obtain ⟨⟨lo, hi', us, e1, e2, e3⟩, _⟩ := i5 i hi
  exact ⟨us, e1, e2, e3.ob⟩
 refine ObAt.mk k n b l d A AL AD c cL cD gL 0 gD 0 (fun i => rl.getD i []) (fun i => (rd.getD i []).drop 1) hk1 hk2 hn1 hn2 (hby hbm) hbc.1 hbc.2 h1 (by omega) i1 (by omega) h3 (fun i hi => ?_) (fun i hi j hj => (h5 i hi).2 j hj) i3 (fun i hi => ?_) (fun i hi => ?_) (fun i hi j hj => ?_)
 ·obtain ⟨⟨lo, hi', e⟩, _⟩ := h5 i hi
  exact e.ob
 ·obtain ⟨us, e1, e2, e3⟩ := hen i hi
  show ObAt w' d[i].2 ((rd.getD i []).drop 1)
  rw [e1]; exact e3
 ·obtain ⟨us, e1, e2, e3⟩ := hen i hi
  have := (i5 i hi).2 0 (by omega)
  rw [e1] at this
  exact ⟨e2, this⟩
 ·have := (i5 i hi).2 (1 + j) (by omega)
  show _ = ((rd.getD i []).drop 1)[j]?
  rw [List.getElem?_drop, ← this]
  congr 2
  omega
end Go.Wk

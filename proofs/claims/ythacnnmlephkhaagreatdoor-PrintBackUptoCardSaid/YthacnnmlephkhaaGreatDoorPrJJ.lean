/- Walks and laws, joined: part J. No condition. -/
import Derived.Test.YthacnnmlephkhaaGreatDoorPrJI
import Derived.Test.YthacnnmlephkhaaGreatDoorPrJB
import Derived.Test.YthacnnmlephkhaaGreatDoorPrJA
import Derived.BigRegion
import Derived.Test.YthacnnmlephkhaaGreatDoorPrJD
import Derived.Test.YthacnnmlephkhaaGreatDoorRows
import Derived.Lib.LaidTab
import Derived.WideShapes
import Derived.Test.YthacnnmlephkhaaGreatDoorPrJG
import Derived.Test.YthacnnmlephkhaaGreatDoorPrJC
set_option linter.unusedSimpArgs false
set_option linter.unusedVariables false
/- May an object be? By the document: a dictionary's entries. No condition. -/
namespace Go.Proofs.YthacnnmlephkhaaGreatDoor
open Go Go.RowKit Go.Wk
set_option maxHeartbeats 2000000 in
theorem ref_In (n : Int) (w : World) : Calls Tryz.prog 75 #[.int .i64 n] w fun e w' => e = .returned (.bool (decide (-214748364799999 ≤ n ∧ n ≤ 214748364799999))) ∧ w = w' := by
 go_enter Tryz.func75, Tryz.ntmps75
 go_wp2
 all_goals go_ret
 all_goals refine ⟨?_, rfl⟩
 all_goals first | (simp_all; done) | (simp_all; omega)
theorem ob_five {w : World} {o : Ob} {vs : List Value} (h : ObAt w o vs) : ∃ (n : Int) (A1 A2 A3 : Option Addr) (n1 c1 n2 c2 n3 c3 : Nat), vs = [.int .i64 o.kind, .int .i64 n, .slice A1 n1 c1, .slice A2 n2 c2, .slice A3 n3 c3] := by
 cases h with
 | mk k n b l d A AL AD c cL cD gL oL gD oD vl vd => exact ⟨_, _, _, _, _, _, _, _, _, _, rfl⟩
def RMayC (dep : Nat) : Prop := ∀ (o : Ob) (vs : List Value) (w : World), ObAt w o vs → o.bulk ≤ 1048576 → Calls Tryz.prog 49 #[.agg vs.toArray, .int .i64 (dep : Int)] w fun e w' => e = .returned (.bool (o.may dep)) ∧ Below w.heap.size w w'
def entQ (dep : Nat) (d : List (List UInt8 × Ob)) (i : Nat) : Bool := atI d (fun e => nameOk e.1 && (e.2.kind != 8 && (e.2.kind != 0 && e.2.may dep))) i && (i == 0 || riseF d i)
theorem entQ_all (dep : Nat) (d : List (List UInt8 × Ob)) : ((List.range d.length).all (entQ dep d)) = (risesB d && mayD dep d) := by
 rw [← rises_upTo, mayD_all]
 unfold upTo entQ
 rw [Bool.eq_iff_iff]
 simp only [List.all_eq_true, List.mem_range, Bool.and_eq_true, Bool.or_eq_true]
 constructor
 ·intro h
  refine ⟨fun i hi => (h i hi).2, fun e he => ?_⟩
  obtain ⟨i, hi, rfl⟩ := List.getElem_of_mem he
  have := (h i hi).1
  unfold atI at this
  rw [List.getElem?_eq_getElem hi] at this
  simp only [Bool.and_eq_true] at this
  exact ⟨⟨this.1, this.2.2.1⟩, this.2.1, this.2.2.2⟩
 ·rintro ⟨h1, h2⟩ i hi
  refine ⟨?_, h1 i hi⟩
  unfold atI
  rw [List.getElem?_eq_getElem hi]
  have := h2 d[i] (List.getElem_mem hi)
  simp only [Bool.and_eq_true]
  exact ⟨this.1.1, this.2.1, this.1.2, this.2.2⟩
def G7 (p q gD oD m3 cD jj : Nat) (ii kk d1 d0 : Int) (S S0 : ByteArray) (ag : Array Value) (nk pos le a2 a3 a4 b8 b0 mm : Bool) : Nat → Value → World → Prop := fun j v w => match j with
 | 0 => v = .pointer (some ⟨p, 0, none⟩)
 | 1 => v = .string S
 | 2 => ∃ A c, v = .slice A S.size c ∧ Byt w A S.data.toList
 | 3 => v = .bool nk
 | 4 | 5 => v = .bool (!nk)
 | 6 => nk = true → v = .int .i64 ii
 | 7 => nk = true → v = .bool pos
 | 8 => (nk = true → v = .bool pos) ∧ (nk = false → v = undef)
 | 9 => nk = true → pos = true → v = .pointer (some ⟨p, 0, none⟩)
 | 10 => nk = true → pos = true → v = .string S
 | 11 => nk = true → pos = true → v = .pointer (some ⟨q, 4, none⟩)
 | 12 => nk = true → pos = true → v = .slice (some ⟨gD, oD, none⟩) m3 cD
 | 13 => nk = true → pos = true → v = .int .i64 ii
 | 14 => nk = true → pos = true → v = .int .i64 (jj : Int)
 | 15 | 16 => nk = true → pos = true → v = .pointer (some ⟨gD, oD + jj * 6, none⟩)
 | 17 => nk = true → pos = true → v = .string S0
 | 18 => nk = true → pos = true → v = .bool le
 | 19 => nk = true → v = .bool (pos && le)
 | 20 | 21 => v = .bool a2
 | 22 | 23 => a2 = false → v = .pointer (some ⟨p, 1, none⟩)
 | 24 => a2 = false → v = .int .i64 kk
 | 25 => a2 = false → v = .bool b8
 | 26 | 27 => v = .bool a3
 | 28 | 29 => a3 = false → v = .pointer (some ⟨p, 1, none⟩)
 | 30 => a3 = false → v = .int .i64 kk
 | 31 => a3 = false → v = .bool b0
 | 32 | 33 => v = .bool a4
 | 34 => a4 = false → v = .pointer (some ⟨p, 1, none⟩)
 | 35 => a4 = false → v = .agg ag
 | 36 => a4 = false → v = .int .i64 d1
 | 37 => a4 = false → v = .int .i64 d0
 | 38 => a4 = false → v = .bool mm
 | _ => a4 = false → v = .bool (!mm)
theorem G7_mono {p q gD oD m3 cD jj : Nat} {ii kk d1 d0 : Int} {S S0 : ByteArray} {ag : Array Value} {nk pos le a2 a3 a4 b8 b0 mm : Bool} (j : Nat) (v : Value) (w w' : World) (hG : G7 p q gD oD m3 cD jj ii kk d1 d0 S S0 ag nk pos le a2 a3 a4 b8 b0 mm j v w) (hk : Below w.heap.size w w') : G7 p q gD oD m3 cD jj ii kk d1 d0 S S0 ag nk pos le a2 a3 a4 b8 b0 mm j v w' := by
 unfold G7 at hG ⊢
 split at hG <;> first
  | exact hG
  | (obtain ⟨A, c, e, hb⟩ := hG; exact ⟨A, c, e, hb.below hk⟩)
set_option maxHeartbeats 8000000 in
set_option maxRecDepth 100000 in
theorem ref_ents (dep : Nat) (hd : dep ≤ 28) (hi : ∀ d', dep = d' + 1 → RMayC d') (k n : Int) (b : List UInt8) (l : List Ob) (d : List (List UInt8 × Ob)) (vs : List Value) (w : World) (h : ObAt w (.mk k n b l d) vs) (hbk : (Ob.mk k n b l d).bulk ≤ 1048576) :
 Calls Tryz.prog 77 #[.agg vs.toArray, .int .i64 (dep : Int)] w fun e w' => e = .returned (.bool (decide (0 < dep) && (risesB d && mayD (dep - 1) d))) ∧ Below w.heap.size w w' := by
 have zk : b.length + bulkL l + bulkD d + 1 ≤ 1048576 := hbk
 have zd := bulkD_len d
 have zdk := fun i hi => bulkD_at d i hi
 have zbd : bulkD d ≤ 1048576 := by omega
 rw [← entQ_all]
 cases h with
 | mk _ _ _ _ _ A AL AD c cL cD gL oL gD oD vl vd h1 h2 h3 h4 hB hbc hAc hlc hlm hdc hdm hAL hl hlv hAD hdo hdk hdv =>
 obtain ⟨W2, hW2⟩ : ∃ W, W = w.alloc (.cells #[.int .i64 k, .int .i64 n, .slice A b.length c, .slice AL l.length cL, .slice AD d.length cD] 26) := ⟨_, rfl⟩
 have hb2 : Below w.heap.size w W2 := by rw [hW2]; exact (Below.refl _ _).alloc (Nat.le_refl _) _
 have ocell : ∀ i v, #[Value.int .i64 k, .int .i64 n, .slice A b.length c, .slice AL l.length cL, .slice AD d.length cD][i]? = some v → W2.cell? ⟨w.heap.size, i, none⟩ = some v := by
  intro i v hv
  have h0 := alloc_cell (w := w) (vs := #[.int .i64 k, .int .i64 n, .slice A b.length c, .slice AL l.length cL, .slice AD d.length cD]) (e := 26) (i := i)
  rw [Nat.zero_add, hv] at h0
  rw [hW2]; exact h0
 have o2 := ocell 2 _ rfl
 have o4 := ocell 4 _ rfl
 clear ocell
 obtain ⟨m1, hm1⟩ : ∃ m, m = b.length := ⟨_, rfl⟩
 have zb : m1 ≤ 1048576 := by omega
 obtain ⟨m2, hm2⟩ : ∃ m, m = l.length := ⟨_, rfl⟩
 obtain ⟨m3, hm3⟩ : ∃ m, m = d.length := ⟨_, rfl⟩
 have zd3 : m3 ≤ 1048576 := by omega
 rw [← hm1] at hW2 o2 ⊢
 rw [← hm2] at hW2 ⊢
 rw [← hm3] at hW2 o4 ⊢
 clear hB hbc hAc hlc hlm hdc hdm hAL hl hlv hm1 hm2 zk zd
 replace hm3 := hi_ hm3
 replace hAD := hi_ hAD
 replace hdo := hi_ hdo
 replace hdk := hi_ hdk
 replace hdv := hi_ hdv
 replace zdk := hi_ zdk
 replace hW2 := hi_ hW2
 replace hb2 := hi_ hb2
 cases dep with
 | zero =>
  clear hi
  go_enter Tryz.func77, Tryz.ntmps77
  go_upto_region 1 with (fail)
  rw [← hW2.out]
  go_wp2
  go_ret
  exact ⟨rfl, hb2.out⟩
 | succ dp =>
  have hi := hi dp rfl
  have e1 : decide (0 < dp + 1) = true := by simp
  rw [e1, Bool.true_and, Nat.add_sub_cancel]
  replace hi := hi_ hi
  clear e1
  obtain ⟨E, hE⟩ : ∃ E, E = (List.range m3).all (entQ dp d) := ⟨_, rfl⟩
  rw [← hE]
  replace hE := hi_ hE
  have e2 : (((dp + 1 : Nat) : Int)) = (dp : Int) + 1 := by omega
  rw [e2]
  clear e2
  go_enter Tryz.func77, Tryz.ntmps77
  go_upto_region 1 with (fail)
  rw [← hW2.out]
  go_wp2
  go_loopw [5, 6] (fun s5 _ wr => ∃ i : Nat, i ≤ m3 ∧ s5 = .int .i64 i ∧ (∀ j, j < i → entQ dp d j = true) ∧ Below W2.heap.size W2 wr) (fun s5 _ _ => m3 - (RowKit.intOf s5).toNat)
  case atStart => exact ⟨0, by omega, rfl, fun j hj => by omega, Below.refl _ _⟩
  case round =>
   obtain ⟨i, hin, rfl, hP, hBr⟩ := hrel
   have r2 := (hBr.cell (cell_lt o2)).trans o2
   have r4 := (hBr.cell (cell_lt o4)).trans o4
   by_cases him : i < m3
   ·have hil : i < d.length := by rw [← hm3.out]; exact him
    have hAe := hAD.out (by omega)
    subst hAe
    obtain ⟨e, he⟩ : ∃ e, e = d[i] := ⟨_, rfl⟩
    have hob := hdo.out i hil
    rw [← he] at hob
    have hzk := zdk.out i hil
    rw [← he] at hzk
    obtain ⟨us, hus⟩ : ∃ us, us = vd i := ⟨_, rfl⟩
    have hcv := hdv.out i hil
    rw [← hus] at hob hcv
    have hck := (hdk.out i hil).2
    rw [← he] at hck
    have hbw : Below w.heap.size w wr := bthen hb2.out hBr
    have hobr := hob.kept hbw
    have x0 : wr.cell? ⟨gD, oD + i * 6, none⟩ = some (.string (bytes e.1)) := by
     rw [Nat.mul_comm] at hck; exact (hbw.cell (cell_lt hck)).trans hck
    obtain ⟨en, E1, E2, E3, en1, ec1, en2, ec2, en3, ec3, hys⟩ := ob_five hob
    obtain ⟨S, hS⟩ : ∃ S, S = bytes e.1 := ⟨_, rfl⟩
    rw [← hS] at x0
    have hSl : S.data.toList = e.1 := by rw [hS]; rfl
    have hSz : S.size = e.1.length := by rw [hS, bytes_size]
    have zS : S.size ≤ 1048576 := by omega
    subst hys
    obtain ⟨kk, hkk⟩ : ∃ k, k = e.2.kind := ⟨_, rfl⟩
    rw [← hkk] at hob hcv hobr
    have five : ∀ j u, [Value.int .i64 kk, .int .i64 en, .slice E1 en1 ec1, .slice E2 en2 ec2, .slice E3 en3 ec3][j]? = some u → wr.cell? ⟨gD, oD + i * 6 + 1 + j, none⟩ = some u := fun j u hj => by
     have h0 := hcv j (by have := (List.getElem?_eq_some_iff.1 hj).1; simpa using this)
     rw [hj] at h0
     have h1 := (hbw.cell (cell_lt h0)).trans h0
     rw [show oD + (6 * i + 1 + j) = oD + i * 6 + 1 + j by omega] at h1
     exact h1
    have x1 := five 0 _ rfl
    have x2 := five 1 _ rfl
    have x3 := five 2 _ rfl
    have x4 := five 3 _ rfl
    have x5 := five 4 _ rfl
    have hrise : i ≠ 0 → ∀ (S0 : ByteArray), S0 = bytes (d[i - 1]'(by omega)).1 → riseF d i = ltB S0.data.toList S.data.toList := fun h0 S0 hS0 => by
     unfold riseF
     rw [List.getElem?_eq_getElem (by omega : i - 1 < d.length), List.getElem?_eq_getElem hil, hSl, hS0, he]
     rfl
    have hentq : entQ dp d i = ((nameOk e.1 && (kk != 8 && (kk != 0 && e.2.may dp))) && (i == 0 || riseF d i)) := by
     unfold entQ atI
     rw [List.getElem?_eq_getElem hil, ← he, hkk]
    clear five hcv hck hob hSz
    have hP' := hP
    replace hP := hi_ hP
    replace hS := hi_ hS
    replace he := hi_ he
    replace hkk := hi_ hkk
    replace hus := hi_ hus
    replace hentq := hi_ hentq
    replace hrise := hi_ hrise
    replace hSl := hi_ hSl
    replace hobr := hi_ hobr
    replace hBr := hi_ hBr
    replace hbw := hi_ hbw
    replace hP' := hi_ hP'
    have hgeD : gD < wr.heap.size := cell_lt x0
    have hgw : w.heap.size < wr.heap.size := cell_lt r4
    go_upto_region 7 with (fail)
    clear x0 x1 x2 x3 x4 x5
    obtain ⟨W3, hW3⟩ : ∃ W, W = wr.alloc (.cells #[.string S, .int .i64 kk, .int .i64 en, .slice E1 en1 ec1, .slice E2 en2 ec2, .slice E3 en3 ec3] 53) := ⟨_, rfl⟩
    have hb3 : Below wr.heap.size wr W3 := by rw [hW3]; exact (Below.refl _ _).alloc (Nat.le_refl _) _
    have ecell : ∀ i v, #[Value.string S, .int .i64 kk, .int .i64 en, .slice E1 en1 ec1, .slice E2 en2 ec2, .slice E3 en3 ec3][i]? = some v → W3.cell? ⟨wr.heap.size, i, none⟩ = some v := by
     intro i v hv
     have h0 := alloc_cell (w := wr) (vs := #[Value.string S, .int .i64 kk, .int .i64 en, .slice E1 en1 ec1, .slice E2 en2 ec2, .slice E3 en3 ec3]) (e := 53) (i := i)
     rw [Nat.zero_add, hv] at h0
     rw [hW3]; exact h0
    rw [← hW3]
    obtain ⟨nk, hnk⟩ : ∃ z, nameOk e.1 = z := ⟨_, rfl⟩
    obtain ⟨mm, hmm⟩ : ∃ z, e.2.may dp = z := ⟨_, rfl⟩
    obtain ⟨b8, hb8⟩ : ∃ z, (kk == 8) = z := ⟨_, rfl⟩
    obtain ⟨b0, hb0⟩ : ∃ z, (kk == 0) = z := ⟨_, rfl⟩
    obtain ⟨pos, hpos⟩ : ∃ z, decide ((0 : Int) < (i : Int)) = z := ⟨_, rfl⟩
    obtain ⟨jj, hjj⟩ : ∃ z : Nat, z = i - 1 := ⟨_, rfl⟩
    have hjm : jj < m3 := by omega
    have hij : pos = true → (i : Int) - 1 = (jj : Int) := fun h => by rw [← hpos] at h; have := of_decide_eq_true h; omega
    have hwj : IntKind.i64.wrap (jj : Int) = (jj : Int) := IntWalk.i64_in _ (by omega)
    have hwd : IntKind.i64.wrap (dp : Int) = (dp : Int) := IntWalk.i64_in _ (by omega)
    have hpos2 : decide (0 < i) = pos := by rw [← hpos]; simp
    have hii2 : 0 ≤ (i : Int) ∧ (i : Int) ≤ 1048576 := by omega
    have hpi : (i == 0) = !pos := by rw [← hpos]; cases i <;> simp
    obtain ⟨S0, hS0⟩ : ∃ S0 : ByteArray, pos = true → wr.cell? ⟨gD, oD + jj * 6, none⟩ = some (.string S0) ∧ riseF d i = ltB S0.data.toList S.data.toList := by
     cases hp : pos with
     | false => exact ⟨S, fun h => by cases h⟩
     | true =>
      rw [hp] at hpos
      have hi0 : 0 < i := by have := of_decide_eq_true hpos; omega
      have hjl : jj < d.length := by omega
      have h0 := (hdk.out jj hjl).2
      rw [Nat.mul_comm] at h0
      have h1 := (hbw.out.cell (cell_lt h0)).trans h0
      refine ⟨bytes d[jj].1, fun _ => ⟨h1, ?_⟩⟩
      exact hrise.out (by omega) (bytes d[jj].1) (by simp only [hjj])
    obtain ⟨le, hle⟩ : ∃ z, (Op.bytesLess S.toList S0.toList || S.toList == S0.toList) = z := ⟨_, rfl⟩
    have hle2 : pos = true → riseF d i = !le := fun h => by rw [(hS0 h).2, ← hle, le_keys]; simp
    obtain ⟨a2, ha2⟩ : ∃ z, z = (!nk || (pos && le)) := ⟨_, rfl⟩
    obtain ⟨a3, ha3⟩ : ∃ z, z = (a2 || b8) := ⟨_, rfl⟩
    obtain ⟨a4, ha4⟩ : ∃ z, z = (a3 || b0) := ⟨_, rfl⟩
    have hent : entQ dp d i = !(a4 || !mm) := by
     rw [hentq.out, hnk, hmm, hpi, show (kk != 8) = !b8 by rw [← hb8]; rfl, show (kk != 0) = !b0 by rw [← hb0]; rfl, ha4, ha3, ha2]
     cases hp : pos with
     | false => cases nk <;> cases b8 <;> cases b0 <;> cases mm <;> rfl
     | true => rw [hle2 hp]; cases nk <;> cases b8 <;> cases b0 <;> cases mm <;> cases le <;> rfl
    have hEf : entQ dp d i = false → E = false := fun h => by
     rw [hE.out, List.all_eq_false]; exact ⟨i, List.mem_range.2 him, by rw [h]; decide⟩
    have zz : ∀ W, Below W3.heap.size W3 W → (W.cell? ⟨wr.heap.size, 0, none⟩ = some (.string S) ∧ W.cell? ⟨wr.heap.size, 1, none⟩ = some (.int .i64 kk) ∧ W.cell? ⟨wr.heap.size, 2, none⟩ = some (.int .i64 en) ∧ W.cell? ⟨wr.heap.size, 3, none⟩ = some (.slice E1 en1 ec1) ∧ W.cell? ⟨wr.heap.size, 4, none⟩ = some (.slice E2 en2 ec2) ∧ W.cell? ⟨wr.heap.size, 5, none⟩ = some (.slice E3 en3 ec3)) ∧ W.cell? ⟨w.heap.size, 4, none⟩ = some (.slice (some ⟨gD, oD, none⟩) m3 cD) ∧ (pos = true → W.cell? ⟨gD, oD + jj * 6, none⟩ = some (.string S0)) := fun W hW => by
     have ez : ∀ t v, #[Value.string S, .int .i64 kk, .int .i64 en, .slice E1 en1 ec1, .slice E2 en2 ec2, .slice E3 en3 ec3][t]? = some v → W.cell? ⟨wr.heap.size, t, none⟩ = some v := fun t v hv => (hW.cell (cell_lt (ecell t v hv))).trans (ecell t v hv)
     refine ⟨⟨ez 0 _ rfl, ez 1 _ rfl, ez 2 _ rfl, ez 3 _ rfl, ez 4 _ rfl, ez 5 _ rfl⟩, ?_, fun h => ?_⟩
     ·have h0 := (hb3.cell (cell_lt r4)).trans r4
      exact (hW.cell (cell_lt h0)).trans h0
     ·have h0 := (hb3.cell (cell_lt (hS0 h).1)).trans (hS0 h).1
      exact (hW.cell (cell_lt h0)).trans h0
    have c76 : ∀ W A c, Byt W A S.data.toList → Calls Tryz.prog 76 #[.slice A S.size c] W fun e' w' => e' = .returned (.bool nk) ∧ W = w' := fun W A c hb => by
     have h0 := ref_name A c S.data.toList W hb
     rw [show S.data.toList.length = S.size from Array.length_toList, hSl.out, hnk] at h0
     exact h0
    have c49 : ∀ W, Below W3.heap.size W3 W → Calls Tryz.prog 49 #[.agg #[.int .i64 kk, .int .i64 en, .slice E1 en1 ec1, .slice E2 en2 ec2, .slice E3 en3 ec3], .int .i64 (dp : Int)] W fun e' w' => e' = .returned (.bool mm) ∧ Below W.heap.size W w' := fun W hW => by
     have h0 := hi.out e.2 _ W (hobr.out.kept (bthen hb3 hW)) (by omega)
     rw [hmm] at h0
     exact h0
    have hW3' := hi_ hb3
    clear ecell hrise hentq hS0 hobr hpi hnk hmm hb3
    replace hent := hi_ hent
    replace hEf := hi_ hEf
    replace hle2 := hi_ hle2
    replace zz := hi_ zz
    replace hW3 := hi_ hW3
    replace c76 := hi_ c76
    replace c49 := hi_ c49
    replace hjj := hi_ hjj
    replace ha2 := hi_ ha2
    replace ha3 := hi_ ha3
    replace ha4 := hi_ ha4
    replace hij := hi_ hij
    refine wp_lin_tail (by kernel_rfl) [none, none, none, none, none, none, none, none, none, none, none, none, none, none, none, none, none, none, none, none, none, none, none, none, none, none, none, some 0, some 1, some 2, some 3, some 4, some 5, some 6, some 7, some 8, some 9, some 10, some 11, some 12, some 13, some 14, some 15, some 16, some 17, some 18, some 19, some 20, some 21, some 22, some 23, some 24, some 25, some 26, some 27, some 28, some 29, some 30, some 31, some 32, some 33, some 34, some 35, some 36, some 37, some 38, some 39, none] (fun w' => Below W3.heap.size W3 w') (fun w' w'' => Below w'.heap.size w' w'') (G7 wr.heap.size w.heap.size gD oD m3 cD jj (i : Int) kk ((dp : Int) + 1) (dp : Int) S S0 #[.int .i64 kk, .int .i64 en, .slice E1 en1 ec1, .slice E2 en2 ec2, .slice E3 en3 ec3] nk pos le a2 a3 a4 b8 b0 mm) (by rfl) (by kernel_rfl) 40 _ rfl (by decide) (by kernel_rfl) [1, 2, 3, 5, 5, 20, 7, 8, 21, 10, 18, 12, 15, 14, 15, 16, 17, 18, 19, 20, 21, 27, 23, 24, 25, 26, 27, 33, 29, 30, 31, 32, 33, 40, 35, 38, 37, 38, 39, 40, 0] (by kernel_rfl) ?hR ?mono (.cons 39 (step_of [38, 33] rfl (by kernel_rfl) ?s39) (.cons 38 (step_of [35, 37, 33] rfl (by kernel_rfl) ?s38) (.cons 37 (step_of [36, 33] rfl (by kernel_rfl) ?s37) (.cons 36 (step_of [33] rfl (by kernel_rfl) ?s36) (.cons 35 (step_of [34, 33] rfl (by kernel_rfl) ?s35) (.cons 34 (step_of [33] rfl (by kernel_rfl) ?s34) (.cons 33 (step_of [32, 27] rfl (by kernel_rfl) ?s33) (.cons 32 (step_of [27, 31] rfl (by kernel_rfl) ?s32) (.cons 31 (step_of [30, 27] rfl (by kernel_rfl) ?s31) (.cons 30 (step_of [29, 27] rfl (by kernel_rfl) ?s30) (.cons 29 (step_of [28, 27] rfl (by kernel_rfl) ?s29) (.cons 28 (step_of [27] rfl (by kernel_rfl) ?s28) (.cons 27 (step_of [26, 21] rfl (by kernel_rfl) ?s27) (.cons 26 (step_of [21, 25] rfl (by kernel_rfl) ?s26) (.cons 25 (step_of [24, 21] rfl (by kernel_rfl) ?s25) (.cons 24 (step_of [23, 21] rfl (by kernel_rfl) ?s24) (.cons 23 (step_of [22, 21] rfl (by kernel_rfl) ?s23) (.cons 22 (step_of [21] rfl (by kernel_rfl) ?s22) (.cons 21 (step_of [20, 8] rfl (by kernel_rfl) ?s21) (.cons 20 (step_of [5, 19] rfl (by kernel_rfl) ?s20) (.cons 19 (step_of [8, 18, 5] rfl (by kernel_rfl) ?s19) (.cons 18 (step_of [10, 17, 8] rfl (by kernel_rfl) ?s18) (.cons 17 (step_of [16, 8] rfl (by kernel_rfl) ?s17) (.cons 16 (step_of [15, 8] rfl (by kernel_rfl) ?s16) (.cons 15 (step_of [12, 14, 8] rfl (by kernel_rfl) ?s15) (.cons 14 (step_of [13, 8] rfl (by kernel_rfl) ?s14) (.cons 13 (step_of [8] rfl (by kernel_rfl) ?s13) (.cons 12 (step_of [11, 8] rfl (by kernel_rfl) ?s12) (.cons 11 (step_of [8] rfl (by kernel_rfl) ?s11) (.cons 10 (step_of [9, 8] rfl (by kernel_rfl) ?s10) (.cons 9 (step_of [8] rfl (by kernel_rfl) ?s9) (.cons 8 (step_of [7, 5] rfl (by kernel_rfl) ?s8) (.cons 7 (step_of [6, 5] rfl (by kernel_rfl) ?s7) (.cons 6 (step_of [5] rfl (by kernel_rfl) ?s6) (.cons 5 (step_of [4, 3] rfl (by kernel_rfl) ?s5) (.cons 4 (step_of [3] rfl (by kernel_rfl) ?s4) (.cons 3 (step_of [2] rfl (by kernel_rfl) ?s3) (.cons 2 (step_of [1] rfl (by kernel_rfl) ?s2) (.cons 1 (step_of [0] rfl (by kernel_rfl) ?s1) (.cons 0 (step_of [] rfl (by kernel_rfl) ?s0) (.nil))))))))))))))))))))))))))))))))))))))))) ?done
    case hR => exact (Below.refl _ _).drew
    case mono => exact G7_mono
    case done =>
     intro x w4 hR2 hG fr hfr
     have g33 := hG 33 (by omega)
     have g39 := hG 39 (by omega)
     simp only [G7] at g33 g39
     clear hG
     simp only [fillL] at hfr
     rw [g33] at hfr
     have hBw : Below wr.heap.size wr w4 := bthen hW3'.out hR2
     replace hBw := hi_ hBw
     replace hR2 := hi_ hR2
     cases a4 with
     | true =>
      have hF : E = false := hEf.out (by rw [hent.out]; rfl)
      subst hfr
      clear g39
      go_wp2
      go_ret
      exact ⟨by first | rfl | (rw [hF]; rfl), bthen hbw.out hBw.out⟩
     | false =>
      rw [g39 rfl] at hfr
      subst hfr
      clear g39
      cases mm with
      | false =>
       have hF : E = false := hEf.out (by rw [hent.out]; rfl)
       go_wp2
       go_ret
       exact ⟨by first | rfl | (rw [hF]; rfl), bthen hbw.out hBw.out⟩
      | true =>
       have hP2 : ∀ t, t < i + 1 → entQ dp d t = true := fun t ht => by
        by_cases h : t = i
        ·rw [h, hent.out]; rfl
        ·exact hP.out t (by omega)
       replace hP2 := hi_ hP2
       clear hEf
       go_wp2
       go_roundw
       case rel => exact ⟨i + 1, by omega, by go_num, hP2.out, hBr.out.trans (hBw.out.mono hBr.out.size)⟩
       case measure => simp [RowKit.intOf]; omega
    case s0 =>
     intro x w' hRw hd K hK
     simp only [All, G7] at hd
     obtain ⟨_⟩ := hd
     simp +decide only [upd, G7, fillL, if_true, if_false] at hK ⊢
     go_simp
     have hK2 := hK _ _ ⟨hRw, Below.refl _ _, rfl⟩
     exact hK2
    case s1 =>
     intro x w' hRw hd K hK
     simp only [All, G7] at hd
     obtain ⟨e0, _⟩ := hd
     simp +decide only [upd, G7, fillL, if_true, if_false] at hK ⊢
     obtain ⟨⟨z0, z1, z2, z3, z4, z5⟩, z6, z7⟩ := zz.out w' hRw
     simp only [e0] at hK ⊢
     go_simp
     have hK2 := hK _ _ ⟨hRw, Below.refl _ _, rfl⟩
     exact hK2
    case s2 =>
     intro x w' hRw hd K hK
     simp only [All, G7] at hd
     obtain ⟨e1, _⟩ := hd
     simp +decide only [upd, G7, fillL, if_true, if_false] at hK ⊢
     obtain ⟨cc, Wc, hcv, hbc, hBc, _, _⟩ := conv_bytes w' S (by omega)
     simp only [e1] at hK ⊢
     go_simp
     have hK2 := hK _ _ ⟨bthen hRw hBc, hBc, _, cc, rfl, hbc⟩
     exact hK2
    case s3 =>
     intro x w' hRw hd K hK
     simp only [All, G7] at hd
     obtain ⟨⟨A2, c2, e2, hb2⟩, _⟩ := hd
     simp +decide only [upd, G7, fillL, if_true, if_false] at hK ⊢
     simp only [e2] at hK ⊢
     go_simp
     refine (c76.out w' A2 c2 hb2).mono ?_
     rintro e' w2 ⟨rfl, rfl⟩
     have hK2 := hK _ _ ⟨hRw, Below.refl _ _, rfl⟩
     exact hK2
    case s4 =>
     intro x w' hRw hd K hK
     simp only [All, G7] at hd
     obtain ⟨e3, _⟩ := hd
     simp +decide only [upd, G7, fillL, if_true, if_false] at hK ⊢
     simp only [e3] at hK ⊢
     go_simp
     have hK2 := hK _ _ ⟨hRw, Below.refl _ _, rfl⟩
     exact hK2
    case s5 =>
     intro x w' hRw hd K hK
     simp only [All, G7] at hd
     obtain ⟨e4, e3, _⟩ := hd
     simp +decide only [upd, G7, fillL, if_true, if_false] at hK ⊢
     simp only [e4, e3] at hK ⊢
     go_simp
     have hK2 := hK _ _ ⟨hRw, Below.refl _ _, rfl⟩
     exact hK2
    case s6 =>
     intro x w' hRw hd K hK
     simp only [All, G7] at hd
     obtain ⟨e5, _⟩ := hd
     simp +decide only [upd, G7, fillL, if_true, if_false] at hK ⊢
     simp only [e5] at hK ⊢
     cases nk with
     | false =>
      go_simp
      have hK2 := hK undef _ ⟨hRw, Below.refl _ _, fun h => by cases h⟩
      exact hK2
     | true =>
      go_simp
      have hK2 := hK _ _ ⟨hRw, Below.refl _ _, fun _ => rfl⟩
      exact hK2
    case s7 =>
     intro x w' hRw hd K hK
     simp only [All, G7] at hd
     obtain ⟨e6, e5, _⟩ := hd
     simp +decide only [upd, G7, fillL, if_true, if_false] at hK ⊢
     simp only [e5] at hK ⊢
     cases nk with
     | false =>
      go_simp
      have hK2 := hK undef _ ⟨hRw, Below.refl _ _, fun h => by cases h⟩
      exact hK2
     | true =>
      simp only [e6 rfl] at hK ⊢
      go_simp
      try simp only [hpos, hpos2]
      have hK2 := hK _ _ ⟨hRw, Below.refl _ _, fun _ => rfl⟩
      exact hK2
    case s8 =>
     intro x w' hRw hd K hK
     simp only [All, G7] at hd
     obtain ⟨e7, e5, _⟩ := hd
     simp +decide only [upd, G7, fillL, if_true, if_false] at hK ⊢
     simp only [e5] at hK ⊢
     cases nk with
     | false =>
      go_simp
      have hK2 := hK undef _ ⟨hRw, Below.refl _ _, (fun h => by cases h), fun _ => rfl⟩
      exact hK2
     | true =>
      simp only [e7 rfl] at hK ⊢
      go_simp
      have hK2 := hK _ _ ⟨hRw, Below.refl _ _, (fun _ => rfl), fun h => by cases h⟩
      exact hK2
    case s9 =>
     intro x w' hRw hd K hK
     simp only [All, G7] at hd
     obtain ⟨⟨e8, n8⟩, _⟩ := hd
     simp +decide only [upd, G7, fillL, if_true, if_false] at hK ⊢
     cases nk with
     | false =>
      simp only [n8 rfl] at hK ⊢
      go_simp
      have hK2 := hK undef _ ⟨hRw, Below.refl _ _, fun h => by cases h⟩
      exact hK2
     | true =>
      simp only [e8 rfl] at hK ⊢
      cases pos with
      | false =>
       go_simp
       have hK2 := hK undef _ ⟨hRw, Below.refl _ _, fun _ h => by cases h⟩
       exact hK2
      | true =>
       go_simp
       have hK2 := hK _ _ ⟨hRw, Below.refl _ _, fun _ _ => rfl⟩
       exact hK2
    case s10 =>
     intro x w' hRw hd K hK
     simp only [All, G7] at hd
     obtain ⟨e9, ⟨e8, n8⟩, _⟩ := hd
     simp +decide only [upd, G7, fillL, if_true, if_false] at hK ⊢
     obtain ⟨⟨z0, z1, z2, z3, z4, z5⟩, z6, z7⟩ := zz.out w' hRw
     cases nk with
     | false =>
      simp only [n8 rfl] at hK ⊢
      go_simp
      have hK2 := hK undef _ ⟨hRw, Below.refl _ _, fun h => by cases h⟩
      exact hK2
     | true =>
      simp only [e8 rfl] at hK ⊢
      cases pos with
      | false =>
       go_simp
       have hK2 := hK undef _ ⟨hRw, Below.refl _ _, fun _ h => by cases h⟩
       exact hK2
      | true =>
       simp only [e9 rfl rfl] at hK ⊢
       go_simp
       have hK2 := hK _ _ ⟨hRw, Below.refl _ _, fun _ _ => rfl⟩
       exact hK2
    case s11 =>
     intro x w' hRw hd K hK
     simp only [All, G7] at hd
     obtain ⟨⟨e8, n8⟩, _⟩ := hd
     simp +decide only [upd, G7, fillL, if_true, if_false] at hK ⊢
     cases nk with
     | false =>
      simp only [n8 rfl] at hK ⊢
      go_simp
      have hK2 := hK undef _ ⟨hRw, Below.refl _ _, fun h => by cases h⟩
      exact hK2
     | true =>
      simp only [e8 rfl] at hK ⊢
      cases pos with
      | false =>
       go_simp
       have hK2 := hK undef _ ⟨hRw, Below.refl _ _, fun _ h => by cases h⟩
       exact hK2
      | true =>
       go_simp
       have hK2 := hK _ _ ⟨hRw, Below.refl _ _, fun _ _ => rfl⟩
       exact hK2
    case s12 =>
     intro x w' hRw hd K hK
     simp only [All, G7] at hd
     obtain ⟨e11, ⟨e8, n8⟩, _⟩ := hd
     simp +decide only [upd, G7, fillL, if_true, if_false] at hK ⊢
     obtain ⟨⟨z0, z1, z2, z3, z4, z5⟩, z6, z7⟩ := zz.out w' hRw
     cases nk with
     | false =>
      simp only [n8 rfl] at hK ⊢
      go_simp
      have hK2 := hK undef _ ⟨hRw, Below.refl _ _, fun h => by cases h⟩
      exact hK2
     | true =>
      simp only [e8 rfl] at hK ⊢
      cases pos with
      | false =>
       go_simp
       have hK2 := hK undef _ ⟨hRw, Below.refl _ _, fun _ h => by cases h⟩
       exact hK2
      | true =>
       simp only [e11 rfl rfl] at hK ⊢
       go_simp
       have hK2 := hK _ _ ⟨hRw, Below.refl _ _, fun _ _ => rfl⟩
       exact hK2
    case s13 =>
     intro x w' hRw hd K hK
     simp only [All, G7] at hd
     obtain ⟨⟨e8, n8⟩, _⟩ := hd
     simp +decide only [upd, G7, fillL, if_true, if_false] at hK ⊢
     cases nk with
     | false =>
      simp only [n8 rfl] at hK ⊢
      go_simp
      have hK2 := hK undef _ ⟨hRw, Below.refl _ _, fun h => by cases h⟩
      exact hK2
     | true =>
      simp only [e8 rfl] at hK ⊢
      cases pos with
      | false =>
       go_simp
       have hK2 := hK undef _ ⟨hRw, Below.refl _ _, fun _ h => by cases h⟩
       exact hK2
      | true =>
       go_simp
       have hK2 := hK _ _ ⟨hRw, Below.refl _ _, fun _ _ => rfl⟩
       exact hK2
    case s14 =>
     intro x w' hRw hd K hK
     simp only [All, G7] at hd
     obtain ⟨e13, ⟨e8, n8⟩, _⟩ := hd
     simp +decide only [upd, G7, fillL, if_true, if_false] at hK ⊢
     cases nk with
     | false =>
      simp only [n8 rfl] at hK ⊢
      go_simp
      have hK2 := hK undef _ ⟨hRw, Below.refl _ _, fun h => by cases h⟩
      exact hK2
     | true =>
      simp only [e8 rfl] at hK ⊢
      cases pos with
      | false =>
       go_simp
       have hK2 := hK undef _ ⟨hRw, Below.refl _ _, fun _ h => by cases h⟩
       exact hK2
      | true =>
       have hij' := hij.out rfl
       simp only [e13 rfl rfl] at hK ⊢
       go_simp
       try simp only [hij', hwj]
       have hK2 := hK _ _ ⟨hRw, Below.refl _ _, fun _ _ => rfl⟩
       exact hK2
    case s15 =>
     intro x w' hRw hd K hK
     simp only [All, G7] at hd
     obtain ⟨e12, e14, ⟨e8, n8⟩, _⟩ := hd
     simp +decide only [upd, G7, fillL, if_true, if_false] at hK ⊢
     cases nk with
     | false =>
      simp only [n8 rfl] at hK ⊢
      go_simp
      have hK2 := hK undef _ ⟨hRw, Below.refl _ _, fun h => by cases h⟩
      exact hK2
     | true =>
      simp only [e8 rfl] at hK ⊢
      cases pos with
      | false =>
       go_simp
       have hK2 := hK undef _ ⟨hRw, Below.refl _ _, fun _ h => by cases h⟩
       exact hK2
      | true =>
       simp only [e12 rfl rfl, e14 rfl rfl] at hK ⊢
       go_simp
       have hK2 := hK _ _ ⟨hRw, Below.refl _ _, fun _ _ => rfl⟩
       exact hK2
    case s16 =>
     intro x w' hRw hd K hK
     simp only [All, G7] at hd
     obtain ⟨e15, ⟨e8, n8⟩, _⟩ := hd
     simp +decide only [upd, G7, fillL, if_true, if_false] at hK ⊢
     cases nk with
     | false =>
      simp only [n8 rfl] at hK ⊢
      go_simp
      have hK2 := hK undef _ ⟨hRw, Below.refl _ _, fun h => by cases h⟩
      exact hK2
     | true =>
      simp only [e8 rfl] at hK ⊢
      cases pos with
      | false =>
       go_simp
       have hK2 := hK undef _ ⟨hRw, Below.refl _ _, fun _ h => by cases h⟩
       exact hK2
      | true =>
       simp only [e15 rfl rfl] at hK ⊢
       go_simp
       have hK2 := hK _ _ ⟨hRw, Below.refl _ _, fun _ _ => rfl⟩
       exact hK2
    case s17 =>
     intro x w' hRw hd K hK
     simp only [All, G7] at hd
     obtain ⟨e16, ⟨e8, n8⟩, _⟩ := hd
     simp +decide only [upd, G7, fillL, if_true, if_false] at hK ⊢
     obtain ⟨⟨z0, z1, z2, z3, z4, z5⟩, z6, z7⟩ := zz.out w' hRw
     cases nk with
     | false =>
      simp only [n8 rfl] at hK ⊢
      go_simp
      have hK2 := hK undef _ ⟨hRw, Below.refl _ _, fun h => by cases h⟩
      exact hK2
     | true =>
      simp only [e8 rfl] at hK ⊢
      cases pos with
      | false =>
       go_simp
       have hK2 := hK undef _ ⟨hRw, Below.refl _ _, fun _ h => by cases h⟩
       exact hK2
      | true =>
       have z7' := z7 rfl
       simp only [e16 rfl rfl] at hK ⊢
       go_simp
       have hK2 := hK _ _ ⟨hRw, Below.refl _ _, fun _ _ => rfl⟩
       exact hK2
    case s18 =>
     intro x w' hRw hd K hK
     simp only [All, G7] at hd
     obtain ⟨e10, e17, ⟨e8, n8⟩, _⟩ := hd
     simp +decide only [upd, G7, fillL, if_true, if_false] at hK ⊢
     cases nk with
     | false =>
      simp only [n8 rfl] at hK ⊢
      go_simp
      have hK2 := hK undef _ ⟨hRw, Below.refl _ _, fun h => by cases h⟩
      exact hK2
     | true =>
      simp only [e8 rfl] at hK ⊢
      cases pos with
      | false =>
       go_simp
       have hK2 := hK undef _ ⟨hRw, Below.refl _ _, fun _ h => by cases h⟩
       exact hK2
      | true =>
       simp only [e10 rfl rfl, e17 rfl rfl] at hK ⊢
       go_simp
       try simp only [hle]
       have hK2 := hK _ _ ⟨hRw, Below.refl _ _, fun _ _ => rfl⟩
       exact hK2
    case s19 =>
     intro x w' hRw hd K hK
     simp only [All, G7] at hd
     obtain ⟨⟨e8, n8⟩, e18, e5, _⟩ := hd
     simp +decide only [upd, G7, fillL, if_true, if_false] at hK ⊢
     simp only [e5] at hK ⊢
     cases nk with
     | false =>
      simp only [n8 rfl] at hK ⊢
      go_simp
      have hK2 := hK undef _ ⟨hRw, Below.refl _ _, fun h => by cases h⟩
      exact hK2
     | true =>
      simp only [e8 rfl] at hK ⊢
      cases pos with
      | false =>
       go_simp
       have hK2 := hK _ _ ⟨hRw, Below.refl _ _, fun _ => rfl⟩
       exact hK2
      | true =>
       simp only [e18 rfl rfl] at hK ⊢
       go_simp
       have hK2 := hK _ _ ⟨hRw, Below.refl _ _, fun _ => rfl⟩
       exact hK2
    case s20 =>
     intro x w' hRw hd K hK
     simp only [All, G7] at hd
     obtain ⟨e5, e19, _⟩ := hd
     simp +decide only [upd, G7, fillL, if_true, if_false] at hK ⊢
     have hq := ha2.out
     simp only [e5] at hK ⊢
     cases nk with
     | false =>
      subst hq
      go_simp
      have hK2 := hK _ _ ⟨hRw, Below.refl _ _, rfl⟩
      exact hK2
     | true =>
      simp only [e19 rfl] at hK ⊢
      subst hq
      go_simp
      have hK2 := hK _ _ ⟨hRw, Below.refl _ _, rfl⟩
      exact hK2
    case s21 =>
     intro x w' hRw hd K hK
     simp only [All, G7] at hd
     obtain ⟨e20, ⟨e8, n8⟩, _⟩ := hd
     simp +decide only [upd, G7, fillL, if_true, if_false] at hK ⊢
     simp only [e20] at hK ⊢
     go_simp
     have hK2 := hK _ _ ⟨hRw, Below.refl _ _, rfl⟩
     exact hK2
    case s22 =>
     intro x w' hRw hd K hK
     simp only [All, G7] at hd
     obtain ⟨e21, _⟩ := hd
     simp +decide only [upd, G7, fillL, if_true, if_false] at hK ⊢
     simp only [e21] at hK ⊢
     cases a2 with
     | true =>
      go_simp
      have hK2 := hK undef _ ⟨hRw, Below.refl _ _, fun h => by cases h⟩
      exact hK2
     | false =>
      go_simp
      have hK2 := hK _ _ ⟨hRw, Below.refl _ _, fun _ => rfl⟩
      exact hK2
    case s23 =>
     intro x w' hRw hd K hK
     simp only [All, G7] at hd
     obtain ⟨e22, e21, _⟩ := hd
     simp +decide only [upd, G7, fillL, if_true, if_false] at hK ⊢
     simp only [e21] at hK ⊢
     cases a2 with
     | true =>
      go_simp
      have hK2 := hK undef _ ⟨hRw, Below.refl _ _, fun h => by cases h⟩
      exact hK2
     | false =>
      simp only [e22 rfl] at hK ⊢
      go_simp
      have hK2 := hK _ _ ⟨hRw, Below.refl _ _, fun _ => rfl⟩
      exact hK2
    case s24 =>
     intro x w' hRw hd K hK
     simp only [All, G7] at hd
     obtain ⟨e23, e21, _⟩ := hd
     simp +decide only [upd, G7, fillL, if_true, if_false] at hK ⊢
     obtain ⟨⟨z0, z1, z2, z3, z4, z5⟩, z6, z7⟩ := zz.out w' hRw
     simp only [e21] at hK ⊢
     cases a2 with
     | true =>
      go_simp
      have hK2 := hK undef _ ⟨hRw, Below.refl _ _, fun h => by cases h⟩
      exact hK2
     | false =>
      simp only [e23 rfl] at hK ⊢
      go_simp
      have hK2 := hK _ _ ⟨hRw, Below.refl _ _, fun _ => rfl⟩
      exact hK2
    case s25 =>
     intro x w' hRw hd K hK
     simp only [All, G7] at hd
     obtain ⟨e24, e21, _⟩ := hd
     simp +decide only [upd, G7, fillL, if_true, if_false] at hK ⊢
     simp only [e21] at hK ⊢
     cases a2 with
     | true =>
      go_simp
      have hK2 := hK undef _ ⟨hRw, Below.refl _ _, fun h => by cases h⟩
      exact hK2
     | false =>
      simp only [e24 rfl] at hK ⊢
      go_simp
      try simp only [hb8]
      have hK2 := hK _ _ ⟨hRw, Below.refl _ _, fun _ => rfl⟩
      exact hK2
    case s26 =>
     intro x w' hRw hd K hK
     simp only [All, G7] at hd
     obtain ⟨e21, e25, _⟩ := hd
     simp +decide only [upd, G7, fillL, if_true, if_false] at hK ⊢
     have hq := ha3.out
     simp only [e21] at hK ⊢
     cases a2 with
     | true =>
      subst hq
      go_simp
      have hK2 := hK _ _ ⟨hRw, Below.refl _ _, rfl⟩
      exact hK2
     | false =>
      simp only [e25 rfl] at hK ⊢
      subst hq
      go_simp
      have hK2 := hK _ _ ⟨hRw, Below.refl _ _, rfl⟩
      exact hK2
    case s27 =>
     intro x w' hRw hd K hK
     simp only [All, G7] at hd
     obtain ⟨e26, e21, _⟩ := hd
     simp +decide only [upd, G7, fillL, if_true, if_false] at hK ⊢
     simp only [e26, e21] at hK ⊢
     go_simp
     have hK2 := hK _ _ ⟨hRw, Below.refl _ _, rfl⟩
     exact hK2
    case s28 =>
     intro x w' hRw hd K hK
     simp only [All, G7] at hd
     obtain ⟨e27, _⟩ := hd
     simp +decide only [upd, G7, fillL, if_true, if_false] at hK ⊢
     simp only [e27] at hK ⊢
     cases a3 with
     | true =>
      go_simp
      have hK2 := hK undef _ ⟨hRw, Below.refl _ _, fun h => by cases h⟩
      exact hK2
     | false =>
      go_simp
      have hK2 := hK _ _ ⟨hRw, Below.refl _ _, fun _ => rfl⟩
      exact hK2
    case s29 =>
     intro x w' hRw hd K hK
     simp only [All, G7] at hd
     obtain ⟨e28, e27, _⟩ := hd
     simp +decide only [upd, G7, fillL, if_true, if_false] at hK ⊢
     simp only [e27] at hK ⊢
     cases a3 with
     | true =>
      go_simp
      have hK2 := hK undef _ ⟨hRw, Below.refl _ _, fun h => by cases h⟩
      exact hK2
     | false =>
      simp only [e28 rfl] at hK ⊢
      go_simp
      have hK2 := hK _ _ ⟨hRw, Below.refl _ _, fun _ => rfl⟩
      exact hK2
    case s30 =>
     intro x w' hRw hd K hK
     simp only [All, G7] at hd
     obtain ⟨e29, e27, _⟩ := hd
     simp +decide only [upd, G7, fillL, if_true, if_false] at hK ⊢
     obtain ⟨⟨z0, z1, z2, z3, z4, z5⟩, z6, z7⟩ := zz.out w' hRw
     simp only [e27] at hK ⊢
     cases a3 with
     | true =>
      go_simp
      have hK2 := hK undef _ ⟨hRw, Below.refl _ _, fun h => by cases h⟩
      exact hK2
     | false =>
      simp only [e29 rfl] at hK ⊢
      go_simp
      have hK2 := hK _ _ ⟨hRw, Below.refl _ _, fun _ => rfl⟩
      exact hK2
    case s31 =>
     intro x w' hRw hd K hK
     simp only [All, G7] at hd
     obtain ⟨e30, e27, _⟩ := hd
     simp +decide only [upd, G7, fillL, if_true, if_false] at hK ⊢
     simp only [e27] at hK ⊢
     cases a3 with
     | true =>
      go_simp
      have hK2 := hK undef _ ⟨hRw, Below.refl _ _, fun h => by cases h⟩
      exact hK2
     | false =>
      simp only [e30 rfl] at hK ⊢
      go_simp
      try simp only [hb0]
      have hK2 := hK _ _ ⟨hRw, Below.refl _ _, fun _ => rfl⟩
      exact hK2
    case s32 =>
     intro x w' hRw hd K hK
     simp only [All, G7] at hd
     obtain ⟨e27, e31, _⟩ := hd
     simp +decide only [upd, G7, fillL, if_true, if_false] at hK ⊢
     have hq := ha4.out
     simp only [e27] at hK ⊢
     cases a3 with
     | true =>
      subst hq
      go_simp
      have hK2 := hK _ _ ⟨hRw, Below.refl _ _, rfl⟩
      exact hK2
     | false =>
      simp only [e31 rfl] at hK ⊢
      subst hq
      go_simp
      have hK2 := hK _ _ ⟨hRw, Below.refl _ _, rfl⟩
      exact hK2
    case s33 =>
     intro x w' hRw hd K hK
     simp only [All, G7] at hd
     obtain ⟨e32, e27, _⟩ := hd
     simp +decide only [upd, G7, fillL, if_true, if_false] at hK ⊢
     simp only [e32, e27] at hK ⊢
     go_simp
     have hK2 := hK _ _ ⟨hRw, Below.refl _ _, rfl⟩
     exact hK2
    case s34 =>
     intro x w' hRw hd K hK
     simp only [All, G7] at hd
     obtain ⟨e33, _⟩ := hd
     simp +decide only [upd, G7, fillL, if_true, if_false] at hK ⊢
     simp only [e33] at hK ⊢
     cases a4 with
     | true =>
      go_simp
      have hK2 := hK undef _ ⟨hRw, Below.refl _ _, fun h => by cases h⟩
      exact hK2
     | false =>
      go_simp
      have hK2 := hK _ _ ⟨hRw, Below.refl _ _, fun _ => rfl⟩
      exact hK2
    case s35 =>
     intro x w' hRw hd K hK
     simp only [All, G7] at hd
     obtain ⟨e34, e33, _⟩ := hd
     simp +decide only [upd, G7, fillL, if_true, if_false] at hK ⊢
     obtain ⟨⟨z0, z1, z2, z3, z4, z5⟩, z6, z7⟩ := zz.out w' hRw
     simp only [e33] at hK ⊢
     cases a4 with
     | true =>
      go_simp
      have hK2 := hK undef _ ⟨hRw, Below.refl _ _, fun h => by cases h⟩
      exact hK2
     | false =>
      simp only [e34 rfl] at hK ⊢
      go_simp
      have hK2 := hK _ _ ⟨hRw, Below.refl _ _, fun _ => rfl⟩
      exact hK2
    case s36 =>
     intro x w' hRw hd K hK
     simp only [All, G7] at hd
     obtain ⟨e33, _⟩ := hd
     simp +decide only [upd, G7, fillL, if_true, if_false] at hK ⊢
     simp only [e33] at hK ⊢
     cases a4 with
     | true =>
      go_simp
      have hK2 := hK undef _ ⟨hRw, Below.refl _ _, fun h => by cases h⟩
      exact hK2
     | false =>
      go_simp
      have hK2 := hK _ _ ⟨hRw, Below.refl _ _, fun _ => rfl⟩
      exact hK2
    case s37 =>
     intro x w' hRw hd K hK
     simp only [All, G7] at hd
     obtain ⟨e36, e33, _⟩ := hd
     simp +decide only [upd, G7, fillL, if_true, if_false] at hK ⊢
     simp only [e33] at hK ⊢
     cases a4 with
     | true =>
      go_simp
      have hK2 := hK undef _ ⟨hRw, Below.refl _ _, fun h => by cases h⟩
      exact hK2
     | false =>
      simp only [e36 rfl] at hK ⊢
      go_simp
      try simp only [Int.add_sub_cancel, hwd]
      have hK2 := hK _ _ ⟨hRw, Below.refl _ _, fun _ => rfl⟩
      exact hK2
    case s38 =>
     intro x w' hRw hd K hK
     simp only [All, G7] at hd
     obtain ⟨e35, e37, e33, _⟩ := hd
     simp +decide only [upd, G7, fillL, if_true, if_false] at hK ⊢
     simp only [e33] at hK ⊢
     cases a4 with
     | true =>
      go_simp
      have hK2 := hK undef _ ⟨hRw, Below.refl _ _, fun h => by cases h⟩
      exact hK2
     | false =>
      simp only [e35 rfl, e37 rfl] at hK ⊢
      go_simp
      refine (c49.out w' hRw).mono ?_
      rintro e' w2 ⟨rfl, hB9⟩
      have hK2 := hK _ _ ⟨bthen hRw hB9, hB9, fun _ => rfl⟩
      exact hK2
    case s39 =>
     intro x w' hRw hd K hK
     simp only [All, G7] at hd
     obtain ⟨e38, e33, _⟩ := hd
     simp +decide only [upd, G7, fillL, if_true, if_false] at hK ⊢
     simp only [e33] at hK ⊢
     cases a4 with
     | true =>
      go_simp
      have hK2 := hK undef _ ⟨hRw, Below.refl _ _, fun h => by cases h⟩
      exact hK2
     | false =>
      simp only [e38 rfl] at hK ⊢
      go_simp
      have hK2 := hK _ _ ⟨hRw, Below.refl _ _, fun _ => rfl⟩
      exact hK2
   ·obtain rfl : i = m3 := by omega
    have hT : E = true := by
     rw [hE.out, List.all_eq_true]; intro j hj; exact hP j (List.mem_range.1 hj)
    subst hT
    replace hP := hi_ hP
    replace hBr := hi_ hBr
    go_wp2
    go_ret
    exact ⟨rfl, bthen hb2.out hBr.out⟩

/- May an object be? By the document: whole. No condition. -/
theorem spare_bad (k n : Int) (b : List UInt8) (l : List Ob) (d : List (List UInt8 × Ob)) : spareB k n b l d = ((k == 1 || k == 2 || k == 3 || k == 9 || n == 0) && !((decide ((0 : Int) < (l.length : Int)) && (k != 6)) || (decide ((0 : Int) < (d.length : Int)) && !hasI k) || (decide ((0 : Int) < (b.length : Int)) && (k != 4) && (k != 5) && (k != 8)))) := by
 have e : ∀ m : Nat, (m == 0) = !decide ((0 : Int) < (m : Int)) := fun m => by
  cases m with
  | zero => rfl
  | succ m => simp
 unfold spareB hasI
 rw [e, e, e]
 have f : ∀ c : Int, (k != c) = !(k == c) := fun c => rfl
 rw [f, f, f, f]
 generalize (k == 1 || k == 2 || k == 3 || k == 9 || n == 0) = N
 generalize (k == 4) = b4
 generalize (k == 5) = b5
 generalize (k == 8) = b8
 generalize (k == 6) = b6
 generalize (k == 7) = b7
 generalize decide ((0 : Int) < (l.length : Int)) = q2
 generalize decide ((0 : Int) < (d.length : Int)) = q3
 generalize decide ((0 : Int) < (b.length : Int)) = q1
 revert N b4 b5 b8 b6 b7 q1 q2 q3
 decide
set_option maxHeartbeats 8000000 in
set_option maxRecDepth 100000 in
theorem ref_may0 (dep : Nat) (hd : dep ≤ 28) (hi : ∀ d', dep = d' + 1 → RMayC d') : RMayC dep := by
 intro o vs w h hbk
 have hfull := h
 cases h with
 | mk k n b l d A AL AD c cL cD gL oL gD oD vl vd h1 h2 h3 h4 hB hbc hAc hlc hlm hdc hdm hAL hl hlv hAD hdo hdk hdv =>
 have hbk : (Ob.mk k n b l d).bulk ≤ 1048576 := hbk
 have zk : b.length + bulkL l + bulkD d + 1 ≤ 1048576 := hbk
 have zl := bulkL_len l
 have zd := bulkD_len d
 obtain ⟨W2, hW2⟩ : ∃ W, W = w.alloc (.cells #[.int .i64 k, .int .i64 n, .slice A b.length c, .slice AL l.length cL, .slice AD d.length cD] 26) := ⟨_, rfl⟩
 have hb2 : Below w.heap.size w W2 := by rw [hW2]; exact (Below.refl _ _).alloc (Nat.le_refl _) _
 have ocell : ∀ i v, #[Value.int .i64 k, .int .i64 n, .slice A b.length c, .slice AL l.length cL, .slice AD d.length cD][i]? = some v → W2.cell? ⟨w.heap.size, i, none⟩ = some v := by
  intro i v hv
  have h0 := alloc_cell (w := w) (vs := #[.int .i64 k, .int .i64 n, .slice A b.length c, .slice AL l.length cL, .slice AD d.length cD]) (e := 26) (i := i)
  rw [Nat.zero_add, hv] at h0
  rw [hW2]; exact h0
 have ch := fun W => ref_Has k (.int .i64 n) (.slice A b.length c) (.slice AL l.length cL) (.slice AD d.length cD) W
 have cn := fun W (hW : Below w.heap.size w W) => ref_name A c b W (hB.below hW)
 have ce := fun W (hW : Below w.heap.size w W) => ref_ents dep hd hi k n b l d _ W (hfull.kept hW) hbk
 have cI := fun W => ref_In n W
 have hmay : (Ob.mk k n b l d).may dep = (spareB k n b l d && (if k = 0 then true else if k = 1 then decide (0 ≤ n ∧ n ≤ 1) else if k = 2 then decide (-2147483647 ≤ n ∧ n ≤ 2147483647) else if k = 3 then decide (-214748364799999 ≤ n ∧ n ≤ 214748364799999) else if k = 9 then decide (1 ≤ n ∧ n ≤ 8388607) else if k = 4 then decide (b.length ≤ 32767) else if k = 5 then nameOk b else if k = 6 then decide (0 < dep) && mayL (dep - 1) l else if k = 7 ∨ k = 8 then decide (0 < dep) && risesB d && decide (b.length ≤ 16777216) && mayD (dep - 1) d else false)) := by simp only [Ob.may]
 rw [hmay, spare_bad]
 clear hmay
 obtain ⟨c6, hc6⟩ : ∃ z, (k != 6) = z := ⟨_, rfl⟩
 obtain ⟨c4, hc4⟩ : ∃ z, (k != 4) = z := ⟨_, rfl⟩
 obtain ⟨c5, hc5⟩ : ∃ z, (k != 5) = z := ⟨_, rfl⟩
 obtain ⟨c8, hc8⟩ : ∃ z, (k != 8) = z := ⟨_, rfl⟩
 obtain ⟨hs, hhs⟩ : ∃ z, hasI k = z := ⟨_, rfl⟩
 obtain ⟨q1, hq1⟩ : ∃ z, decide ((0 : Int) < (b.length : Int)) = z := ⟨_, rfl⟩
 obtain ⟨q2, hq2⟩ : ∃ z, decide ((0 : Int) < (l.length : Int)) = z := ⟨_, rfl⟩
 obtain ⟨q3, hq3⟩ : ∃ z, decide ((0 : Int) < (d.length : Int)) = z := ⟨_, rfl⟩
 rw [hc6, hc4, hc5, hc8, hhs, hq1, hq2, hq3]
 rw [hhs] at ch
 obtain ⟨bad, hbad⟩ : ∃ z, z = ((q2 && c6) || (q3 && !hs) || (q1 && c4 && c5 && c8)) := ⟨_, rfl⟩
 rw [← hbad]
 obtain ⟨m1, hm1⟩ : ∃ m, m = b.length := ⟨_, rfl⟩
 obtain ⟨m2, hm2⟩ : ∃ m, m = l.length := ⟨_, rfl⟩
 obtain ⟨m3, hm3⟩ : ∃ m, m = d.length := ⟨_, rfl⟩
 have zb : m1 ≤ 1048576 := by omega
 have zl2 : m2 ≤ 1048576 := by omega
 have zd2 : m3 ≤ 1048576 := by omega
 have o0 : W2.cell? ⟨w.heap.size, 0, none⟩ = some (.int .i64 k) := ocell 0 _ rfl
 have o1 : W2.cell? ⟨w.heap.size, 1, none⟩ = some (.int .i64 n) := ocell 1 _ rfl
 have o2 : W2.cell? ⟨w.heap.size, 2, none⟩ = some (.slice A b.length c) := ocell 2 _ rfl
 have o3 : W2.cell? ⟨w.heap.size, 3, none⟩ = some (.slice AL l.length cL) := ocell 3 _ rfl
 have o4 : W2.cell? ⟨w.heap.size, 4, none⟩ = some (.slice AD d.length cD) := ocell 4 _ rfl
 rw [← hm1] at hW2 o2 ch cn ce hq1 ⊢
 rw [← hm2] at hW2 o3 ch ce hq2 ⊢
 rw [← hm3] at hW2 o4 ch ce hq3 ⊢
 clear ocell zk zl zd hlc hlm hdc hdm hdo hdk hdv hfull
 replace hm1 := hi_ hm1
 replace hm2 := hi_ hm2
 replace hm3 := hi_ hm3
 replace hW2 := hi_ hW2
 replace hb2 := hi_ hb2
 replace hbad := hi_ hbad
 replace cn := hi_ cn
 replace ce := hi_ ce
 replace hhs := hi_ hhs
 replace hi := hi_ hi
 replace hl := hi_ hl
 replace hlv := hi_ hlv
 replace hAL := hi_ hAL
 replace hB := hi_ hB
 obtain ⟨R, hR⟩ : ∃ R, R = (if k = 0 then true else if k = 1 then decide (0 ≤ n ∧ n ≤ 1) else if k = 2 then decide (-2147483647 ≤ n ∧ n ≤ 2147483647) else if k = 3 then decide (-214748364799999 ≤ n ∧ n ≤ 214748364799999) else if k = 9 then decide (1 ≤ n ∧ n ≤ 8388607) else if k = 4 then decide (m1 ≤ 32767) else if k = 5 then nameOk b else if k = 6 then decide (0 < dep) && mayL (dep - 1) l else if k = 7 ∨ k = 8 then decide (0 < dep) && risesB d && decide (m1 ≤ 16777216) && mayD (dep - 1) d else false) := ⟨_, rfl⟩
 rw [← hR]
 replace hR := hi_ hR
 obtain ⟨M, hM⟩ : ∃ M, M = ((k == 1 || k == 2 || k == 3 || k == 9 || n == 0) && !bad && R) := ⟨_, rfl⟩
 rw [← hM]
 replace hM := hi_ hM
 go_enter Tryz.func49, Tryz.ntmps49
 go_upto_region 1 with (fail)
 rw [← hW2.out]
 go_upto_region 2 with (go_at_call 50; (with_reducible refine (ch _).mono ?_); rintro e w1 ⟨rfl, hB1⟩; have t0 := (hB1.cell (cell_lt o0)).trans o0; have t1 := (hB1.cell (cell_lt o1)).trans o1; have t2 := (hB1.cell (cell_lt o2)).trans o2; have t3 := (hB1.cell (cell_lt o3)).trans o3; have t4 := (hB1.cell (cell_lt o4)).trans o4; have hBw := bthen hb2.out hB1; replace hBw := hi_ hBw; replace hB1 := hi_ hB1)
 clear o0 o1 o2 o3 o4 ch
 go_cut [48] (fun s48 wx => s48 = .bool bad ∧ wx = w1)
 case first =>
  clear cI
  replace hM := hi_ hM
  cases hs
  all_goals
   go_wp2
   all_goals go_meet
   all_goals refine ⟨?_, rfl⟩
   all_goals (rw [hbad.out, ← hq1, ← hq2, ← hq3]; clear hbad hq1 hq2 hq3; simp [*])
 case rest =>
  obtain ⟨rfl, rfl⟩ := hcut
  clear hc4 hc5 hc6 hc8 hq1 hq2 hq3
  cases bad with
  | true =>
   have hM2 : M = false := by rw [hM.out]; simp
   clear hM hR cI cn ce
   subst hM2
   go_wp2
   go_ret
   exact ⟨rfl, hBw.out⟩
  | false =>
   have hM2 := hM.out
   simp only [Bool.not_false, Bool.and_true] at hM2
   have hR2 := hR.out
   clear hM hR hbad
   have cn2 := cn.out wc hBw.out
   have ce2 := ce.out wc hBw.out
   clear cn ce
   have kinds : k = 0 ∨ k = 1 ∨ k = 2 ∨ k = 3 ∨ k = 9 ∨ k = 4 ∨ k = 5 ∨ k = 6 ∨ (k = 7 ∨ k = 8) ∨ (k ≠ 0 ∧ k ≠ 1 ∧ k ≠ 2 ∧ k ≠ 3 ∧ k ≠ 9 ∧ k ≠ 4 ∧ k ≠ 5 ∧ k ≠ 6 ∧ k ≠ 7 ∧ k ≠ 8) := by omega
   rcases kinds with rfl | hk1 | rfl | rfl | rfl | rfl | rfl | rfl | h78 | ⟨e0, e1, e2, e3, e9, e4, e5, e6, e7, e8⟩
   ·by_cases hn : n = 0
    ·subst hn
     have hM3 : M = R := by rw [hM2]; simp
     clear hM2
     have hR3 : R = true := hR2
     clear cI cn2 ce2 hR2
     subst hR3
     subst hM3
     go_wp2
     go_ret
     exact ⟨rfl, hBw.out⟩
    ·have hM3 : M = false := by rw [hM2]; simp [hn]
     have hne : (n != 0) = true := by rw [bne_iff_ne]; exact hn
     clear hM2 cI cn2 ce2 hR2 hn
     subst hM3
     go_wp2
     go_ret
     exact ⟨rfl, hBw.out⟩

   ·have hM3 : M = R := by rw [hM2, hk1]; simp
    have hR3 : R = decide (0 ≤ n ∧ n ≤ 1) := by rw [hR2, hk1]; rfl
    have g1 : (k == 1) = true := by simpa using hk1
    clear hM2 hR2 cI cn2 ce2 hk1
    subst hM3
    by_cases h0 : n = 0
    ·subst h0
     have hR4 : M = true := by rw [hR3]; rfl
     clear hR3
     subst hR4
     go_wp2
     go_ret
     exact ⟨rfl, hBw.out⟩
    ·by_cases h1 : n = 1
     ·subst h1
      have hR4 : M = true := by rw [hR3]; rfl
      clear hR3
      subst hR4
      go_wp2
      go_ret
      exact ⟨rfl, hBw.out⟩
     ·have hR4 : M = false := by rw [hR3, decide_eq_false_iff_not]; omega
      clear hR3
      subst hR4
      have f0 : (n == 0) = false := by simpa using h0
      have f1 : (n == 1) = false := by simpa using h1
      go_wp2
      go_ret
      exact ⟨rfl, hBw.out⟩
   ·have hM3 : M = R := by rw [hM2]; simp
    have hR3 : R = decide (-2147483647 ≤ n ∧ n ≤ 2147483647) := hR2
    clear hM2 hR2 cI cn2 ce2
    subst hM3
    by_cases h0 : -2147483647 ≤ n
    ·by_cases h1 : n ≤ 2147483647
     ·rw [decide_eq_true ⟨h0, h1⟩] at hR3
      subst hR3
      have f0 : decide (-2147483647 ≤ n) = true := decide_eq_true h0
      have f1 : decide (n ≤ 2147483647) = true := decide_eq_true h1
      go_wp2
      go_ret
      exact ⟨rfl, hBw.out⟩
     ·rw [decide_eq_false (fun h => h1 h.2)] at hR3
      subst hR3
      have f0 : decide (-2147483647 ≤ n) = true := decide_eq_true h0
      have f1 : decide (n ≤ 2147483647) = false := decide_eq_false h1
      go_wp2
      go_ret
      exact ⟨rfl, hBw.out⟩
    ·rw [decide_eq_false (fun h => h0 h.1)] at hR3
     subst hR3
     have f0 : decide (-2147483647 ≤ n) = false := decide_eq_false h0
     go_wp2
     go_ret
     exact ⟨rfl, hBw.out⟩
   ·have hM3 : M = R := by rw [hM2]; simp
    have hR3 : R = decide (-214748364799999 ≤ n ∧ n ≤ 214748364799999) := hR2
    clear hM2 hR2 cn2 ce2
    subst hM3
    rw [← hR3] at cI
    clear hR3
    go_wp2_with (go_at_call 75; (with_reducible refine (cI _).mono ?_); rintro e w2 ⟨rfl, rfl⟩)
    go_ret
    exact ⟨rfl, hBw.out⟩
   ·have hM3 : M = R := by rw [hM2]; simp
    have hR3 : R = decide (1 ≤ n ∧ n ≤ 8388607) := hR2
    clear hM2 hR2 cI cn2 ce2
    subst hM3
    by_cases h0 : 1 ≤ n
    ·by_cases h1 : n ≤ 8388607
     ·rw [decide_eq_true ⟨h0, h1⟩] at hR3
      subst hR3
      have f0 : decide (1 ≤ n) = true := decide_eq_true h0
      have f1 : decide (n ≤ 8388607) = true := decide_eq_true h1
      go_wp2
      go_ret
      exact ⟨rfl, hBw.out⟩
     ·rw [decide_eq_false (fun h => h1 h.2)] at hR3
      subst hR3
      have f0 : decide (1 ≤ n) = true := decide_eq_true h0
      have f1 : decide (n ≤ 8388607) = false := decide_eq_false h1
      go_wp2
      go_ret
      exact ⟨rfl, hBw.out⟩
    ·rw [decide_eq_false (fun h => h0 h.1)] at hR3
     subst hR3
     have f0 : decide (1 ≤ n) = false := decide_eq_false h0
     go_wp2
     go_ret
     exact ⟨rfl, hBw.out⟩
   ·by_cases hn : n = 0
    ·subst hn
     have hM3 : M = R := by rw [hM2]; simp
     clear hM2
     have hR3 : R = decide (m1 ≤ 32767) := hR2
     clear cI cn2 ce2 hR2
     by_cases hq : m1 ≤ 32767
     ·rw [decide_eq_true hq] at hR3
      subst hR3
      subst hM3
      have q1 : decide ((m1 : Int) ≤ 32767) = true := by simp; omega
      go_wp2
      go_ret
      exact ⟨rfl, hBw.out⟩
     ·rw [decide_eq_false hq] at hR3
      subst hR3
      subst hM3
      have q1 : decide ((m1 : Int) ≤ 32767) = false := by simp; omega
      go_wp2
      go_ret
      exact ⟨rfl, hBw.out⟩
    ·have hM3 : M = false := by rw [hM2]; simp [hn]
     have hne : (n != 0) = true := by rw [bne_iff_ne]; exact hn
     clear hM2 cI cn2 ce2 hR2 hn
     subst hM3
     go_wp2
     go_ret
     exact ⟨rfl, hBw.out⟩

   ·by_cases hn : n = 0
    ·subst hn
     have hM3 : M = R := by rw [hM2]; simp
     clear hM2
     have hR3 : R = nameOk b := hR2
     clear cI ce2 hR2
     rw [← hR3] at cn2
     clear hR3
     subst hM3
     go_wp2_with (go_at_call 76; (with_reducible refine cn2.mono ?_); rintro e w2 ⟨rfl, rfl⟩)
     go_ret
     exact ⟨rfl, hBw.out⟩
    ·have hM3 : M = false := by rw [hM2]; simp [hn]
     have hne : (n != 0) = true := by rw [bne_iff_ne]; exact hn
     clear hM2 cI cn2 ce2 hR2 hn
     subst hM3
     go_wp2
     go_ret
     exact ⟨rfl, hBw.out⟩

   ·by_cases hn : n = 0
    ·subst hn
     have hM3 : M = R := by rw [hM2]; simp
     clear hM2
     have hR3 : R = (decide (0 < dep) && mayL (dep - 1) l) := hR2
     have hM4 : M = (decide (0 < dep) && mayL (dep - 1) l) := hM3.trans hR3
     clear hR2 hR3 hM3 cI cn2 ce2 h3 h4
     replace hM4 := hi_ hM4
     go_wp2
     go_loopw [6] (fun s6 wr => ∃ i : Nat, i ≤ m2 ∧ s6 = .int .i64 i ∧ (∀ j, j < i → 0 < dep ∧ atI l (fun o => o.kind != 8 && o.may (dep - 1)) j = true) ∧ Below wc.heap.size wc wr) (fun s6 _ => m2 - (RowKit.intOf s6).toNat)
     case atStart => exact ⟨0, by omega, rfl, fun j hj => by omega, Below.refl _ _⟩
     case round =>
      obtain ⟨i, him, rfl, hP, hBr⟩ := hrel
      have r3 := (hBr.cell (cell_lt t3)).trans t3
      by_cases hi2 : i < m2
      ·have hil : i < l.length := by rw [← hm2.out]; exact hi2
       have hAe := hAL.out (by omega)
       subst hAe
       have hob := hl.out i hil
       have hcv := hlv.out i hil
       obtain ⟨o, ho⟩ : ∃ o, o = l[i] := ⟨_, rfl⟩
       rw [← ho] at hob
       obtain ⟨us, hus⟩ : ∃ us, us = vl i := ⟨_, rfl⟩
       rw [← hus] at hob hcv
       have hbw : Below w.heap.size w wr := bthen hBw.out hBr
       have hobr := hob.kept hbw
       obtain ⟨en, E1, E2, E3, en1, ec1, en2, ec2, en3, ec3, hys⟩ := ob_five hob
       subst hys
       obtain ⟨kk, hkk⟩ : ∃ k, k = o.kind := ⟨_, rfl⟩
       rw [← hkk] at hob hcv hobr
       have five : ∀ j u, [Value.int .i64 kk, .int .i64 en, .slice E1 en1 ec1, .slice E2 en2 ec2, .slice E3 en3 ec3][j]? = some u → wr.cell? ⟨gL, oL + i * 5 + j, none⟩ = some u := fun j u hj => by
        have h0 := hcv j (by have := (List.getElem?_eq_some_iff.1 hj).1; simpa using this)
        rw [hj] at h0
        have h1 := (hbw.cell (cell_lt h0)).trans h0
        rw [show oL + (5 * i + j) = oL + i * 5 + j by omega] at h1
        exact h1
       have x0 : wr.cell? ⟨gL, oL + i * 5, none⟩ = some (.int .i64 kk) := five 0 _ rfl
       have x1 : wr.cell? ⟨gL, oL + i * 5 + 1, none⟩ = some (.int .i64 en) := five 1 _ rfl
       have x2 : wr.cell? ⟨gL, oL + i * 5 + 2, none⟩ = some (.slice E1 en1 ec1) := five 2 _ rfl
       have x3 : wr.cell? ⟨gL, oL + i * 5 + 3, none⟩ = some (.slice E2 en2 ec2) := five 3 _ rfl
       have x4 : wr.cell? ⟨gL, oL + i * 5 + 4, none⟩ = some (.slice E3 en3 ec3) := five 4 _ rfl
       have hat : atI l (fun o => o.kind != 8 && o.may (dep - 1)) i = (kk != 8 && o.may (dep - 1)) := by
        unfold atI; rw [List.getElem?_eq_getElem hil, ← ho, hkk]
       have hMf : atI l (fun o => o.kind != 8 && o.may (dep - 1)) i = false ∨ dep = 0 → M = false := fun h => by
        rw [hM4.out]
        rcases h with h | h
        ·rw [mayL_all]
         have : l.all (fun o => o.kind != 8 && o.may (dep - 1)) = false := by
          rw [List.all_eq_false]
          refine ⟨l[i], List.getElem_mem hil, ?_⟩
          unfold atI at h
          rw [List.getElem?_eq_getElem hil] at h
          simpa using h
         rw [this, Bool.and_false]
        ·subst h; rfl
       have hzo : o.bulk ≤ 1048576 := by
        have h0 := bulkL_at l i hil
        rw [← ho] at h0
        have : b.length + bulkL l + bulkD d + 1 ≤ 1048576 := hbk
        omega
       clear five hcv hob hus
       replace hat := hi_ hat
       replace hMf := hi_ hMf
       replace hP := hi_ hP
       replace ho := hi_ ho
       replace hkk := hi_ hkk
       have hBr2 := hi_ hBr
       clear hBr
       replace hbw := hi_ hbw
       obtain ⟨b8, hb8⟩ : ∃ z, (kk == 8) = z := ⟨_, rfl⟩
       cases b8 with
       | true =>
        have hF : M = false := hMf.out (.inl (by rw [hat.out, show (kk != 8) = !(kk == 8) from rfl, hb8]; rfl))
        clear hMf hM4 hobr
        subst hF
        go_wp2
        go_ret
        exact ⟨rfl, bthen hBw.out hBr2.out⟩
       | false =>
        cases dep with
        | zero =>
         have hF : M = false := hMf.out (.inr rfl)
         clear hMf hM4 hobr
         subst hF
         go_wp2
         go_ret
         exact ⟨rfl, bthen hBw.out hBr2.out⟩
        | succ dp =>
         have cm : Calls Tryz.prog 49 #[.agg #[.int .i64 kk, .int .i64 en, .slice E1 en1 ec1, .slice E2 en2 ec2, .slice E3 en3 ec3], .int .i64 (dp : Int)] wr fun e w' => e = .returned (.bool (o.may dp)) ∧ Below wr.heap.size wr w' := hi.out dp rfl o _ wr hobr hzo
         have e2 : (((dp + 1 : Nat) : Int)) = (dp : Int) + 1 := by omega
         obtain ⟨mm, hmm⟩ : ∃ z, o.may dp = z := ⟨_, rfl⟩
         rw [hmm] at cm
         have hat2 : atI l (fun o => o.kind != 8 && o.may (dp + 1 - 1)) i = mm := by
          rw [hat.out, show (kk != 8) = !(kk == 8) from rfl, hb8, Nat.add_sub_cancel, hmm]; rfl
         replace hat2 := hi_ hat2
         clear hmm hobr hat
         simp only [e2]
         cases mm with
         | false =>
          have hF : M = false := hMf.out (.inl hat2.out)
          clear hMf hM4
          subst hF
          go_wp2_with (go_at_call 49; (with_reducible refine cm.mono ?_); rintro e w3 ⟨rfl, hB3⟩; replace hB3 := hi_ hB3)
          go_ret
          exact ⟨rfl, bthen hBw.out (bthen hBr2.out hB3.out)⟩
         | true =>
          have hP2 : ∀ j, j < i + 1 → 0 < dp + 1 ∧ atI l (fun o => o.kind != 8 && o.may (dp + 1 - 1)) j = true := fun j hj => by
           by_cases h : j = i
           ·subst h; exact ⟨by omega, hat2.out⟩
           ·exact hP.out j (by omega)
          replace hP2 := hi_ hP2
          clear hMf
          go_wp2_with (go_at_call 49; (with_reducible refine cm.mono ?_); rintro e w3 ⟨rfl, hB3⟩; replace hB3 := hi_ hB3)
          go_roundw
          case rel => exact ⟨i + 1, by omega, by go_num, hP2.out, bthen hBr2.out hB3.out⟩
          case measure => simp [RowKit.intOf]; omega
      ·obtain rfl : i = m2 := by omega
       have hE : M = decide ((1 : Int) ≤ (dep : Int)) := by
        rw [hM4.out]
        by_cases h0 : 0 < dep
        ·have h2 : mayL (dep - 1) l = true := by
          rw [mayL_all, List.all_eq_true]
          intro x hx
          obtain ⟨j, hj, rfl⟩ := List.getElem_of_mem hx
          have := (hP j (by rw [hm2.out]; exact hj)).2
          unfold atI at this
          rw [List.getElem?_eq_getElem hj] at this
          exact this
         rw [h2, Bool.and_true]
         apply decide_eq_decide.2; omega
        ·rw [decide_eq_false h0, Bool.false_and]
         symm; rw [decide_eq_false_iff_not]; omega
       replace hE := hi_ hE
       have hBr2 := hi_ hBr
       clear hBr hP hM4
       go_wp2
       go_ret
       exact ⟨by rw [hE.out]; simp, bthen hBw.out hBr2.out⟩
    ·have hM3 : M = false := by rw [hM2]; simp [hn]
     have hne : (n != 0) = true := by rw [bne_iff_ne]; exact hn
     clear hM2 cI cn2 ce2 hR2 hn
     subst hM3
     go_wp2
     go_ret
     exact ⟨rfl, hBw.out⟩

   ·by_cases hn : n = 0
    ·subst hn
     have hM3 : M = R := by rw [hM2]; simp
     clear hM2
     have hR3 : R = (decide (0 < dep) && risesB d && decide (m1 ≤ 16777216) && mayD (dep - 1) d) := by rw [hR2]; rcases h78 with rfl | rfl <;> rfl
     rw [decide_eq_true (by omega : m1 ≤ 16777216), Bool.and_true, Bool.and_assoc] at hR3
     clear cI cn2 hR2
     rw [← hR3] at ce2
     clear hR3
     subst hM3
     rcases h78 with rfl | rfl
     all_goals
      go_wp2_with (go_at_call 77; (with_reducible refine ce2.mono ?_); rintro e w2 ⟨rfl, hB2⟩; replace hB2 := hi_ hB2)
      go_ret
      exact ⟨rfl, bthen hBw.out hB2.out⟩
    ·have hM3 : M = false := by rw [hM2]; rcases h78 with rfl | rfl <;> simp [hn]
     have hne : (n != 0) = true := by rw [bne_iff_ne]; exact hn
     clear hM2 cI cn2 ce2 hR2 hn
     subst hM3
     rcases h78 with rfl | rfl
     all_goals
      go_wp2
      go_ret
      exact ⟨rfl, hBw.out⟩

   ·have f0 : (k == 0) = false := by simpa using e0
    have f1 : (k == 1) = false := by simpa using e1
    have f2 : (k == 2) = false := by simpa using e2
    have f3 : (k == 3) = false := by simpa using e3
    have f4 : (k == 4) = false := by simpa using e4
    have f5 : (k == 5) = false := by simpa using e5
    have f6 : (k == 6) = false := by simpa using e6
    have f7 : (k == 7) = false := by simpa using e7
    have f8 : (k == 8) = false := by simpa using e8
    have f9 : (k == 9) = false := by simpa using e9
    by_cases hn : n = 0
    ·subst hn
     have hM3 : M = R := by rw [hM2]; simp
     clear hM2
     have hR3 : R = false := by rw [hR2, if_neg e0, if_neg e1, if_neg e2, if_neg e3, if_neg e9, if_neg e4, if_neg e5, if_neg e6, if_neg (fun h => h.elim e7 e8)]
     clear cI cn2 ce2 hR2 e0 e1 e2 e3 e9 e4 e5 e6 e7 e8
     subst hR3
     subst hM3
     go_wp2
     go_ret
     exact ⟨rfl, hBw.out⟩
    ·have hM3 : M = false := by rw [hM2]; simp [hn, e1, e2, e3, e9]
     have hne : (n != 0) = true := by rw [bne_iff_ne]; exact hn
     clear hM2 cI cn2 ce2 hR2 hn e0 e1 e2 e3 e9 e4 e5 e6 e7 e8
     subst hM3
     go_wp2
     go_ret
     exact ⟨rfl, hBw.out⟩

theorem ref_mayC : ∀ dep, dep ≤ 28 → RMayC dep := by
 intro dep
 induction dep with
 | zero => intro h; exact ref_may0 0 h fun d' e => by omega
 | succ d ih =>
  intro h
  refine ref_may0 (d + 1) h fun d' e => ?_
  have : d' = d := by omega
  subst this
  exact ih (by omega)

/- Value and Print: the same answer. No condition. -/
def prtS (o : Ob) : List UInt8 := if o.kind ≠ 8 ∧ o.may 28 = true then o.show else []
def prtZ (o : Ob) : Int := if o.kind ≠ 8 ∧ o.may 28 = true then 0 else 1
def VR2 (w : World) (o : Ob) (e : Ending) (w' : World) : Prop := ∃ A c, e = .returned (.tuple #[.slice A (prtS o).length c, .int .i64 (prtZ o)]) ∧ Byt w' A (prtS o) ∧ Below w.heap.size w w'
theorem VR.two {w w' : World} {o : Ob} {e : Ending} (h : VR w o e w') : VR2 w o e w' := by
 obtain ⟨hB, A, c, n, z, rfl, hA, ⟨h1, h2, rfl, h3, rfl⟩ | ⟨h1, rfl, rfl, rfl⟩⟩ := h
 ·exact ⟨A, c, by simp [prtS, prtZ, h1, h2], by simpa [prtS, h1, h2] using h3, hB⟩
 ·have e1 : prtS o = [] := by unfold prtS; rw [if_neg h1]
  have e2 : prtZ o = 1 := by unfold prtZ; rw [if_neg h1]
  exact ⟨none, c, by rw [e1, e2]; rfl, by rw [e1]; exact ⟨by simp, fun h => by simp at h⟩, hB⟩
theorem prt_Value2 (o : Ob) (vs : List Value) (w : World) (h : ObAt w o vs) (hbk : o.bulk ≤ 1048576) (ht : Tab w) : Calls Tryz.prog 9 #[.agg vs.toArray] w (VR2 w o) := (prt_Value o vs w h hbk ht).mono fun _ _ h => h.two
set_option maxHeartbeats 4000000 in
set_option maxRecDepth 100000 in
theorem ref_May (o : Ob) (vs : List Value) (w : World) (h : ObAt w o vs) (hbk : o.bulk ≤ 1048576) : Calls Tryz.prog 19 #[.agg vs.toArray] w fun e w' => e = .returned (.bool (o.may 28)) ∧ Below w.heap.size w w' := by
 obtain ⟨en, E1, E2, E3, en1, ec1, en2, ec2, en3, ec3, hys⟩ := ob_five2 h
 subst hys
 obtain ⟨k, hk⟩ : ∃ k, k = o.kind := ⟨_, rfl⟩
 rw [← hk] at h ⊢
 obtain ⟨W1, hW1⟩ : ∃ W, W = w.alloc (.cells #[.int .i64 k, .int .i64 en, .slice E1 en1 ec1, .slice E2 en2 ec2, .slice E3 en3 ec3] 26) := ⟨_, rfl⟩
 have hb1 : Below w.heap.size w W1 := by rw [hW1]; exact (Below.refl _ _).alloc (Nat.le_refl _) _
 have c : Calls Tryz.prog 49 #[.agg #[.int .i64 k, .int .i64 en, .slice E1 en1 ec1, .slice E2 en2 ec2, .slice E3 en3 ec3], .int .i64 28] W1 fun e w' => e = .returned (.bool (o.may 28)) ∧ Below W1.heap.size W1 w' := ref_mayC 28 (by omega) o _ W1 (h.kept hb1) hbk
 obtain ⟨f0, f1, f2, f3, f4⟩ := five_cells hW1
 replace hb1 := hi_ hb1
 clear h hk
 go_enter Tryz.func19, Tryz.ntmps19
 go_upto_region 1 with (fail)
 rw [← hW1]
 replace hW1 := hi_ hW1
 go_wp2_with (go_at_call 49; (with_reducible refine c.mono ?_); rintro e w2 ⟨rfl, hB⟩; replace hB := hi_ hB)
 go_ret
 exact ⟨rfl, bthen hb1.out hB.out⟩
end Go.Proofs.YthacnnmlephkhaaGreatDoor

/- The first sentence: an object is printed. No condition. -/
namespace Go.Proofs.YthacnnmlephkhaaGreatDoor
open Go Go.RowKit Go.Wk Go.Rd
def awL : List Ob := [.mk 2 1 [] [] [], .mk 3 150000 [] [] [], .mk 5 0 [120, 32, 121] [] []]
def awA : Ob := .mk 6 0 [] awL []
def awB : Ob := .mk 4 0 [97, 41] [] []
def awE : List (Bs × Ob) := [([65], awA), ([66], awB)]
def awD : Ob := .mk 7 0 [] [] (putL awE)
def awS : List UInt8 := [60, 60, 47, 65, 32, 91, 49, 32, 49, 46, 53, 32, 47, 120, 35, 50, 48, 121, 93, 47, 66, 32, 60, 54, 49, 50, 57, 62, 62, 62]
theorem aw_S : prtS awD = awS := by kernel_rfl
theorem aw_Z : prtZ awD = 0 := by kernel_rfl
theorem aw_bulk : Nat.ble awD.bulk 1000 = true := by kernel_rfl
theorem aw_bulkA : Nat.ble awA.bulk 1000 = true := by kernel_rfl
theorem plain_I {B : Nat} {w : World} (k n : Int) (h1 : -9223372036854775808 ≤ k ∧ k ≤ 9223372036854775807) (h2 : -9223372036854775808 ≤ n ∧ n ≤ 9223372036854775807) : ObI B w.heap.size w (.mk k n [] [] []) [.int .i64 k, .int .i64 n, .slice none 0 0, .slice none 0 0, .slice none 0 0] :=
 built (tb := 5) (tO := 26) (tE := 53) h1.1 h1.2 h2.1 h2.2 (World.ownsRow_nil _ _ _ _) (by decide) (RowG.nil _ _ _ _ _) (RowG.nil _ _ _ _ _)
def three (a b c : List Value) (i : Nat) : List Value := match i with | 0 => a | 1 => b | _ => c
theorem three_at {w w3 : World} {a0 a1 a2 a3 a4 b0 b1 b2 b3 b4 c0 c1 c2 c3 c4 : Value} (hw : w3 = w.alloc (.cells #[a0, a1, a2, a3, a4, b0, b1, b2, b3, b4, c0, c1, c2, c3, c4] 26)) :
 ∀ i, i < 3 → ∀ j, j < 5 → w3.cell? ⟨w.heap.size, 0 + (5 * i + j), none⟩ = (three [a0, a1, a2, a3, a4] [b0, b1, b2, b3, b4] [c0, c1, c2, c3, c4] i)[j]? := by
 have hn := new_cells w [a0, a1, a2, a3, a4, b0, b1, b2, b3, b4, c0, c1, c2, c3, c4] 26
 intro i hi j hj
 rw [hw]
 have h1 : i = 0 ∨ i = 1 ∨ i = 2 := by omega
 have h2 : j = 0 ∨ j = 1 ∨ j = 2 ∨ j = 3 ∨ j = 4 := by omega
 rcases h1 with rfl | rfl | rfl <;> rcases h2 with rfl | rfl | rfl | rfl | rfl <;> exact hn _ _ rfl
theorem two_at {w w3 : World} {a0 a1 a2 a3 a4 a5 b0 b1 b2 b3 b4 b5 : Value} (hw : w3 = w.alloc (.cells #[a0, a1, a2, a3, a4, a5, b0, b1, b2, b3, b4, b5] 53)) :
 ∀ i, i < 2 → ∀ j, j < 6 → w3.cell? ⟨w.heap.size, 0 + (6 * i + j), none⟩ = (three [a0, a1, a2, a3, a4, a5] [b0, b1, b2, b3, b4, b5] [] i)[j]? := by
 have hn := new_cells w [a0, a1, a2, a3, a4, a5, b0, b1, b2, b3, b4, b5] 53
 intro i hi j hj
 rw [hw]
 have h1 : i = 0 ∨ i = 1 := by omega
 have h2 : j = 0 ∨ j = 1 ∨ j = 2 ∨ j = 3 ∨ j = 4 ∨ j = 5 := by omega
 rcases h1 with rfl | rfl <;> rcases h2 with rfl | rfl | rfl | rfl | rfl | rfl <;> exact hn _ _ rfl
theorem aw_arr {w w3 : World} {c0 c1 c2 c3 c4 : Value} (hw : w3 = w.alloc (.cells #[.int .i64 2, .int .i64 1, .slice none 0 0, .slice none 0 0, .slice none 0 0, .int .i64 3, .int .i64 150000, .slice none 0 0, .slice none 0 0, .slice none 0 0, c0, c1, c2, c3, c4] 26)) (hC : ObAt w (.mk 5 0 [120, 32, 121] [] []) [c0, c1, c2, c3, c4]) :
 Calls Tryz.prog 26 #[.slice (some ⟨w.heap.size, 0, none⟩) 3 3] w3 fun e w' => ∃ us, e = .returned (.agg (List.toArray us)) ∧ ObI w3.heap.size w'.heap.size w' awA us ∧ Below w3.heap.size w3 w' := by
 have hb : Below w.heap.size w w3 := by rw [hw]; exact (Below.refl _ _).alloc (Nat.le_refl _) _
 refine ref_ArrC 3 awL w.heap.size 0 3 rfl _ w3 (by omega) (by omega) (fun i hi => ?_) (three_at hw)
 have hi : i < 3 := hi
 have h1 : i = 0 ∨ i = 1 ∨ i = 2 := by omega
 rcases h1 with rfl | rfl | rfl
 ·exact ⟨(plain_I (B := 0) 2 1 (by omega) (by omega)).ob, Nat.le_of_ble_eq_true rfl⟩
 ·exact ⟨(plain_I (B := 0) 3 150000 (by omega) (by omega)).ob, Nat.le_of_ble_eq_true rfl⟩
 ·exact ⟨hC.kept hb, Nat.le_of_ble_eq_true rfl⟩
theorem aw_dict {w w3 : World} {a1 a2 a3 a4 a5 b1 b2 b3 b4 b5 : Value} (hw : w3 = w.alloc (.cells #[.string ⟨#[65]⟩, a1, a2, a3, a4, a5, .string ⟨#[66]⟩, b1, b2, b3, b4, b5] 53)) (hA : ObAt w awA [a1, a2, a3, a4, a5]) (hB : ObAt w awB [b1, b2, b3, b4, b5]) :
 Calls Tryz.prog 24 #[.slice (some ⟨w.heap.size, 0, none⟩) 2 2] w3 fun e w' => ∃ us, e = .returned (.agg (List.toArray us)) ∧ ObI w3.heap.size w'.heap.size w' awD us ∧ Below w3.heap.size w3 w' := by
 have hb : Below w.heap.size w w3 := by rw [hw]; exact (Below.refl _ _).alloc (Nat.le_refl _) _
 refine ref_DictC 2 awE w.heap.size 0 2 rfl _ w3 (by omega) (by omega) (fun i hi => ?_) (two_at hw)
 have hi : i < 2 := hi
 have h1 : i = 0 ∨ i = 1 := by omega
 rcases h1 with rfl | rfl
 ·exact ⟨_, rfl, by show 1 ≤ maxLen; decide, hA.kept hb, Nat.le_trans (Nat.le_of_ble_eq_true aw_bulkA) (by omega)⟩
 ·exact ⟨_, rfl, by show 1 ≤ maxLen; decide, hB.kept hb, Nat.le_of_ble_eq_true rfl⟩
theorem aw_five {w : World} {o : Ob} {us : List Value} (h : ObAt w o us) (k : Int) (hk : o.kind = k) : ∃ n E1 E2 E3 n1 c1 n2 c2 n3 c3, us = [.int .i64 k, .int .i64 n, .slice E1 n1 c1, .slice E2 n2 c2, .slice E3 n3 c3] := by
 subst hk; exact ob_five2 h
set_option maxHeartbeats 16000000 in
set_option maxRecDepth 100000 in
theorem aw_walk (w : World) (hT : Tab w) : Calls Tryz.prog 7 #[] w fun e w' => e = .returned (.bool true) ∧ Below w.heap.size w w' := by
 have c27 := fun W => ref_Int 1 W (by omega) (by omega)
 have c28 := fun W => ref_NameC ⟨#[120, 32, 121]⟩ (by decide) W
 replace c27 := hi_ c27
 replace c28 := hi_ c28
 replace hT := hi_ hT
 go_enter Tryz.func7, Tryz.ntmps7
 go_upto_region 2 with (first
  | (go_at_call 27; (with_reducible refine (c27.out _).mono ?_); rintro e w1 ⟨rfl, hB1⟩; replace hB1 := hi_ hB1)
  | (go_at_call 28; (with_reducible refine (c28.out _).mono ?_); rintro e w2 ⟨us2, rfl, hI2, hB2⟩; obtain ⟨n2, E1, E2, E3, m1, d1, m2, d2, m3, d3, rfl⟩ := aw_five hI2.ob 5 rfl; replace hI2 := hi_ hI2; replace hB2 := hi_ hB2)
  | (go_at_call 26
     obtain ⟨w3, hw3⟩ : ∃ W, W = w2.alloc (.cells #[.int .i64 2, .int .i64 1, .slice none 0 0, .slice none 0 0, .slice none 0 0, .int .i64 3, .int .i64 150000, .slice none 0 0, .slice none 0 0, .slice none 0 0, .int .i64 5, .int .i64 n2, .slice E1 m1 d1, .slice E2 m2 d2, .slice E3 m3 d3] 26) := ⟨_, rfl⟩
     rw [← hw3]
     have B3 : Below w.heap.size w w3 := bthen (bthen hB1.out hB2.out) (by rw [hw3]; exact (Below.refl _ _).alloc (Nat.le_refl _) _)
     (with_reducible refine (aw_arr hw3 hI2.out.ob).mono ?_)
     rintro e w4 ⟨us4, rfl, hI4, hB4⟩
     obtain ⟨n4, F1, F2, F3, k1, f1, k2, f2, k3, f3, rfl⟩ := aw_five hI4.ob 6 rfl
     have hA4 := hI4.ob
     replace B3 := hi_ (bthen B3 hB4)
     replace hA4 := hi_ hA4
     clear hI4 hB4 hI2 hw3 hB1 hB2)
  | (go_at_call 25
     first
      | ((with_reducible refine (ref_Pair awA _ _ hA4.out (Nat.le_trans (Nat.le_of_ble_eq_true aw_bulkA) (by omega)) ⟨#[65]⟩).mono ?_)
         rintro e w5 ⟨us5, rfl, hI5, hB5⟩
         obtain ⟨n5, G1, G2, G3, g1, x1, g2, x2, g3, x3, rfl⟩ := aw_five hI5.ob 6 rfl
         have hA5 := hi_ hI5.ob
         have B5 := hi_ (bthen B3.out hB5)
         obtain ⟨w6, hw6⟩ : ∃ W, W = w5.alloc (.cells #[.int .u8 97, .int .u8 41] 5 (2, 3)) := ⟨_, rfl⟩
         have cc6 : (convert 22 22 (.slice (some ⟨w5.heap.size, 0, none⟩) 2 2)).run Tryz.prog (w5.alloc (.cells #[.int .u8 97, .int .u8 41] 5)) = .ok (.slice (some ⟨w5.heap.size, 0, none⟩) 2 2) w6 := by rw [hw6]; exact conv_const w5 _ 2 2
         replace hw6 := hi_ hw6
         clear hI5 hB5 hA4 B3)
      | ((with_reducible refine (ref_Pair awB _ _ hA7.out (Nat.le_of_ble_eq_true rfl) ⟨#[66]⟩).mono ?_)
         rintro e w8 ⟨us8, rfl, hI8, hB8⟩
         obtain ⟨n8, H1, H2, H3, h1, y1, h2, y2, h3, y3, rfl⟩ := aw_five hI8.ob 4 rfl
         have hA8 := hi_ hI8.ob
         have B8 := hi_ (bthen B7.out hB8)
         have hA5 := hi_ (hA5.out.kept hB8)
         clear hI8 hB8 hA7 B7))
  | (go_at_call 29
     have hw6 := hw6.out
     have b6 : Below w5.heap.size w5 w6 := by rw [hw6]; exact below_mark _ _ _
     have hy6 : Byt w6 (some ⟨w5.heap.size, 0, none⟩) [97, 41] := by rw [hw6]; exact byt_mark w5 [97, 41] _ _ rfl (by decide)
     have c29 : Calls Tryz.prog 29 #[.slice (some ⟨w5.heap.size, 0, none⟩) 2 2] w6 _ := ref_StrC (some ⟨w5.heap.size, 0, none⟩) 2 [97, 41] w6 hy6 (by show 2 ≤ 1000000; omega)
     (with_reducible refine c29.mono ?_)
     rintro e w7 ⟨us7, rfl, hI7, hB7⟩
     obtain ⟨n7, K1, K2, K3, j1, z1, j2, z2, j3, z3, rfl⟩ := aw_five hI7.ob 4 rfl
     have hA7 := hi_ hI7.ob
     have hA5 := hi_ (hA5.out.kept (bthen b6 hB7))
     have B7 := hi_ (bthen B5.out (bthen b6 hB7))
     clear hI7 hB7 c29 hy6 b6 hw6 B5)
  | (go_at_call 24
     obtain ⟨w9, hw9⟩ : ∃ W, W = w8.alloc (.cells #[.string ⟨#[65]⟩, .int .i64 6, .int .i64 n5, .slice G1 g1 x1, .slice G2 g2 x2, .slice G3 g3 x3, .string ⟨#[66]⟩, .int .i64 4, .int .i64 n8, .slice H1 h1 y1, .slice H2 h2 y2, .slice H3 h3 y3] 53) := ⟨_, rfl⟩
     rw [← hw9]
     have b9 : Below w8.heap.size w8 w9 := by rw [hw9]; exact (Below.refl _ _).alloc (Nat.le_refl _) _
     (with_reducible refine (aw_dict hw9 hA5.out hA8.out).mono ?_)
     rintro e w10 ⟨us10, rfl, hI10, hB10⟩
     obtain ⟨n10, L1, L2, L3, l1, s1, l2, s2, l3, s3, rfl⟩ := aw_five hI10.ob 7 rfl
     have hA10 := hi_ hI10.ob
     have B10 := hi_ (bthen B8.out (bthen b9 hB10))
     clear hI10 hB10 b9 hw9 B8 hA5 hA8)
  | (go_at_call 9
     have c9 := prt_Value2 awD _ _ hA10.out (Nat.le_trans (Nat.le_of_ble_eq_true aw_bulk) (by omega)) (hT.out.below B10.out)
     unfold VR2 at c9
     rw [aw_S, aw_Z] at c9
     (with_reducible refine c9.mono ?_)
     rintro e w11 ⟨A, c, rfl, hb11, hB11⟩
     have hcv := conv_any w11 A c awS hb11
     have B11 := hi_ (bthen B10.out hB11)
     clear c9 hb11 hB11 B10 hA10))
 have hcv2 : (convert 22 9 (.slice A awS.length c)).run Tryz.prog w11 = .ok (.string ⟨#[60, 60, 47, 65, 32, 91, 49, 32, 49, 46, 53, 32, 47, 120, 35, 50, 48, 121, 93, 47, 66, 32, 60, 54, 49, 50, 57, 62, 62, 62]⟩) w11 := hcv
 clear hcv
 go_wp2
 go_ret
 exact ⟨rfl, B11.out⟩
end Go.Proofs.YthacnnmlephkhaaGreatDoor

/- Is there room: some answer, and nothing changes. No condition. -/
namespace Go.Proofs.YthacnnmlephkhaaGreatDoor
open Go Go.RowKit Go.Wk
def RoomC (N : Nat) : Prop := ∀ (o : Ob) (vs : List Value) (w : World) (dep : Int), ObAt w o vs → o.bulk ≤ N → -1 ≤ dep → dep ≤ 100 → Calls Tryz.prog 8 #[.agg vs.toArray, .int .i64 dep, .int .i64 60] w fun e w' => ∃ b, e = .returned (.bool b) ∧ Below w.heap.size w w'
set_option maxHeartbeats 8000000 in
set_option maxRecDepth 100000 in
theorem room_step (N : Nat) (hN : N + 1 ≤ 1048576) (ih : RoomC N) : RoomC (N + 1) := by
 intro o vs w dep h hbk hd1 hd2
 cases h with
 | mk k n b l d A AL AD c cL cD gL oL gD oD vl vd h1 h2 h3 h4 h5 h6 h7 h8 h9 h10 h11 hAL hl hlv hAD hdo hdk hdv =>
 have zk : b.length + bulkL l + bulkD d + 1 ≤ N + 1 := hbk
 have zl := bulkL_len l
 have zd := bulkD_len d
 have zlk := fun i hi => bulkL_at l i hi
 have zdk := fun i hi => bulkD_at d i hi
 obtain ⟨m1, hm1⟩ : ∃ m, m = b.length := ⟨_, rfl⟩
 obtain ⟨m2, hm2⟩ : ∃ m, m = l.length := ⟨_, rfl⟩
 obtain ⟨m3, hm3⟩ : ∃ m, m = d.length := ⟨_, rfl⟩
 rw [← hm1] at zk ⊢
 rw [← hm2] at zl ⊢
 rw [← hm3] at zd ⊢
 have zb1 : m1 ≤ 1048576 := by omega
 have zl1 : m2 ≤ 1048576 := by omega
 have zd1 : m3 ≤ 1048576 := by omega
 obtain ⟨W1, hW1⟩ : ∃ W, W = w.alloc (.cells #[.int .i64 k, .int .i64 n, .slice A m1 c, .slice AL m2 cL, .slice AD m3 cD] 26) := ⟨_, rfl⟩
 have hb1 : Below w.heap.size w W1 := by rw [hW1]; exact (Below.refl _ _).alloc (Nat.le_refl _) _
 have f := five_cells hW1
 obtain ⟨f0, f1, f2, f3, f4⟩ := id f
 clear h1 h2 h3 h4 h5 h6 h7 h8 h9 h10 h11 hbk
 replace hm1 := hi_ hm1
 replace hm2 := hi_ hm2
 replace hm3 := hi_ hm3
 replace hAL := hi_ hAL
 replace hl := hi_ hl
 replace hlv := hi_ hlv
 replace hAD := hi_ hAD
 replace hdo := hi_ hdo
 replace hdk := hi_ hdk
 replace hdv := hi_ hdv
 replace zlk := hi_ zlk
 replace zdk := hi_ zdk
 replace ih := hi_ ih
 replace hb1 := hi_ hb1
 replace f := hi_ f
 obtain ⟨p1, q1⟩ : ∃ z, decide (dep < 0) = z := ⟨_, rfl⟩
 obtain ⟨p2, q2⟩ : ∃ z, decide ((3000 : Int) < (m1 : Int)) = z := ⟨_, rfl⟩
 obtain ⟨p3, q3⟩ : ∃ z, decide ((60 : Int) < (m2 : Int) + (m3 : Int)) = z := ⟨_, rfl⟩
 go_enter Tryz.func8, Tryz.ntmps8
 go_upto_region 1 with (fail)
 rw [← hW1]
 replace hW1 := hi_ hW1
 cases p1 with
 | true =>
  go_wp2
  go_ret
  exact ⟨_, rfl, hb1.out⟩
 | false =>
 have hd0 : 0 ≤ dep := by have := of_decide_eq_false q1; omega
 cases p2 with
 | true =>
  go_wp2
  go_ret
  exact ⟨_, rfl, hb1.out⟩
 | false =>
 cases p3 with
 | true =>
  go_wp2
  go_ret
  exact ⟨_, rfl, hb1.out⟩
 | false =>
 go_wp2
 clear q1 q2 q3
 go_loopw [7] (fun s7 wr => ∃ k : Nat, k ≤ m2 ∧ s7 = .int .i64 k ∧ Below W1.heap.size W1 wr) (fun s7 _ => m2 - (RowKit.intOf s7).toNat)
 case atStart => exact ⟨0, by omega, rfl, Below.refl _ _⟩
 case round =>
  obtain ⟨i, hi, rfl, hB⟩ := hrel
  obtain ⟨g0, g1, g2, g3, g4⟩ := five_kept f.out hB
  by_cases him : i < m2
  ·have hil : i < l.length := by rw [← hm2.out]; exact him
   have hAe := hAL.out (by omega)
   subst hAe
   have hbw : Below w.heap.size w wr := bthen hb1.out hB
   have hob := (hl.out i hil).kept hbw
   have hzi := zlk.out i hil
   obtain ⟨us, hus⟩ : ∃ us, us = vl i := ⟨_, rfl⟩
   have hcv := hlv.out i hil
   rw [← hus] at hob hcv
   obtain ⟨en, E1, E2, E3, en1, ec1, en2, ec2, en3, ec3, hys⟩ := ob_five2 hob
   obtain ⟨kk, hkk⟩ : ∃ k, k = l[i].kind := ⟨_, rfl⟩
   rw [← hkk] at hys
   subst hys
   have five : ∀ j u, [Value.int .i64 kk, .int .i64 en, .slice E1 en1 ec1, .slice E2 en2 ec2, .slice E3 en3 ec3][j]? = some u → wr.cell? ⟨gL, oL + i * 5 + j, none⟩ = some u := fun j u hj => by
    have h0 := hcv j (by have := (List.getElem?_eq_some_iff.1 hj).1; simpa using this)
    rw [hj] at h0
    have h1 := (hbw.cell (cell_lt h0)).trans h0
    rw [show oL + (5 * i + j) = oL + i * 5 + j by omega] at h1
    exact h1
   have x0 : wr.cell? ⟨gL, oL + i * 5, none⟩ = some (.int .i64 kk) := five 0 _ rfl
   have x1 := five 1 _ rfl
   have x2 := five 2 _ rfl
   have x3 := five 3 _ rfl
   have x4 := five 4 _ rfl
   have cr := ih.out l[i] _ wr (dep - 1) hob (by omega) (by omega) (by omega)
   clear five hcv hob hus hkk
   replace hB := hi_ hB
   replace hbw := hi_ hbw
   have lB := hB.out.size
   go_wp2_with (go_at_call 8; (with_reducible refine cr.mono ?_); rintro e w2 ⟨bb, rfl, hB2⟩; replace hB2 := hi_ hB2; cases bb)
   ·go_ret
    exact ⟨_, rfl, bthen hbw.out hB2.out⟩
   ·go_roundw
    case rel => exact ⟨i + 1, by omega, by go_num, hB.out.trans (hB2.out.mono lB)⟩
    case measure => simp [RowKit.intOf]; omega
  ·obtain rfl : i = m2 := by omega
   have bB := bthen hb1.out hB
   replace hB := hi_ hB
   replace bB := hi_ bB
   have lB := hB.out.size
   go_wp2
   go_loopw [8] (fun s8 wr => ∃ k : Nat, k ≤ m3 ∧ s8 = .int .i64 k ∧ Below W1.heap.size W1 wr) (fun s8 _ => m3 - (RowKit.intOf s8).toNat)
   case atStart => exact ⟨0, by omega, rfl, hB.out⟩
   case round =>
    obtain ⟨j, hj, rfl, hC⟩ := hrel
    obtain ⟨y0, y1, y2, y3, y4⟩ := five_kept f.out hC
    clear g0 g1 g2 g3 g4
    by_cases hjm : j < m3
    ·have hjl : j < d.length := by rw [← hm3.out]; exact hjm
     have hAe := hAD.out (by omega)
     subst hAe
     have hcw : Below w.heap.size w wr := bthen hb1.out hC
     have hob := (hdo.out j hjl).kept hcw
     have hzj := zdk.out j hjl
     have hkk0 := (hdk.out j hjl).2
     have hcv := hdv.out j hjl
     obtain ⟨us, hus⟩ : ∃ us, us = vd j := ⟨_, rfl⟩
     rw [← hus] at hob hcv
     obtain ⟨en, E1, E2, E3, en1, ec1, en2, ec2, en3, ec3, hys⟩ := ob_five2 hob
     obtain ⟨kk, hkk⟩ : ∃ k, k = d[j].2.kind := ⟨_, rfl⟩
     rw [← hkk] at hys
     subst hys
     obtain ⟨K, hK⟩ : ∃ K, K = bytes d[j].1 := ⟨_, rfl⟩
     have zK : K.size ≤ 1048576 := by rw [hK, bytes_size]; omega
     have x0 : wr.cell? ⟨gD, oD + j * 6, none⟩ = some (.string K) := by
      have h1 := (hcw.cell (cell_lt hkk0)).trans hkk0
      rw [Nat.mul_comm] at h1
      rw [h1, hK]; rfl
     have five : ∀ q u, [Value.int .i64 kk, .int .i64 en, .slice E1 en1 ec1, .slice E2 en2 ec2, .slice E3 en3 ec3][q]? = some u → wr.cell? ⟨gD, oD + j * 6 + 1 + q, none⟩ = some u := fun q u hq => by
      have h0 := hcv q (by have := (List.getElem?_eq_some_iff.1 hq).1; simpa using this)
      rw [hq] at h0
      have h1 := (hcw.cell (cell_lt h0)).trans h0
      rw [show oD + (6 * j + 1 + q) = oD + j * 6 + 1 + q by omega] at h1
      exact h1
     have x1 : wr.cell? ⟨gD, oD + j * 6 + 1, none⟩ = some (.int .i64 kk) := five 0 _ rfl
     have x2 : wr.cell? ⟨gD, oD + j * 6 + 2, none⟩ = some (.int .i64 en) := five 1 _ rfl
     have x3 : wr.cell? ⟨gD, oD + j * 6 + 3, none⟩ = some (.slice E1 en1 ec1) := five 2 _ rfl
     have x4 : wr.cell? ⟨gD, oD + j * 6 + 4, none⟩ = some (.slice E2 en2 ec2) := five 3 _ rfl
     have x5 : wr.cell? ⟨gD, oD + j * 6 + 5, none⟩ = some (.slice E3 en3 ec3) := five 4 _ rfl
     have cr := ih.out d[j].2 _ wr (dep - 1) hob (by omega) (by omega) (by omega)
     clear five hcv hob hus hkk hkk0
     replace hK := hi_ hK
     replace hC := hi_ hC
     replace hcw := hi_ hcw
     have lC := hC.out.size
     obtain ⟨p4, q4⟩ : ∃ z, decide ((300 : Int) < (K.size : Int)) = z := ⟨_, rfl⟩
     cases p4 with
     | true =>
      go_wp2
      go_ret
      first | exact ⟨_, rfl, hcw.out⟩ | exact ⟨.inl rfl, hcw.out⟩ | exact .inl ⟨rfl, hcw.out⟩
     | false =>
      go_wp2_with (go_at_call 8; (with_reducible refine cr.mono ?_); rintro e w2 ⟨bb, rfl, hB2⟩; replace hB2 := hi_ hB2; cases bb)
      ·go_ret
       exact ⟨_, rfl, bthen hcw.out hB2.out⟩
      ·go_roundw
       case rel => exact ⟨j + 1, by omega, by go_num, hC.out.trans (hB2.out.mono lC)⟩
       case measure => simp [RowKit.intOf]; omega
    ·obtain rfl : j = m3 := by omega
     have bC := bthen hb1.out hC
     replace hC := hi_ hC
     replace bC := hi_ bC
     go_wp2
     go_ret
     exact ⟨_, rfl, bC.out⟩
theorem room_all : ∀ N, N ≤ 1048576 → RoomC N
 | 0, _ => fun o vs w dep _ h _ _ => by have := bulk_pos o; omega
 | N + 1, h => room_step N h (room_all N (by omega))

/- The law of PrintValues. No condition. -/
end Go.Proofs.YthacnnmlephkhaaGreatDoor

/- The arguments of PrintValues opened. No condition. -/
namespace Go.Proofs.YthacnnmlephkhaaGreatDoor
open Go Go.RowKit Go.Wk Go.WideShapes
theorem laid_tail {P : Program} {w : World} {x : String × DataW Unit} {l : List (String × DataW Unit)} (h : laidMet P (x :: l) w) : laidMet P l w := by
 obtain ⟨ps, ⟨g, t, cs, fuel, p, q, _, _, _, _, hq, hp⟩, hnd, hc⟩ := h
 subst hp
 exact ⟨q, hq, (List.nodup_append.1 hnd).2.1, fun b off h => hc b off (List.mem_append_right _ h)⟩
theorem tab_of {W : World} {a b : String × DataW Unit} {rest : List (String × DataW Unit)} (h : laidMet Tryz.prog (a :: b :: ("internal/strconv.uint64pow10", Rows.laid_internal_strconv_uint64pow10) :: rest) W) : Tab W := by
 have h3 := laid_tail (laid_tail h)
 have e : (Rows.laid_internal_strconv_uint64pow10 : DataW Unit) = Lib.tabData .u64 Lib.pow10Tab := by kernel_rfl
 rw [e] at h3
 exact Lib.tabIs_of_head (g := 1) (t := 153) (e := 88) (n := 20) (by kernel_rfl) (by kernel_rfl) Tryz.underlying153 Tryz.underlying88 (by kernel_rfl) (by kernel_rfl) h3
theorem obty : ObTy Tryz.prog 26 53 22 23 24 3 2 9 5 where
 o := ⟨_, Tryz.underlying26, rfl⟩
 e := ⟨_, Tryz.underlying53, rfl⟩
 b := Tryz.underlying22
 u := Tryz.underlying5
 l := Tryz.underlying23
 d := Tryz.underlying24
 i := Tryz.underlying3
 n := Tryz.underlying2
 s := Tryz.underlying9
 co := by kernel_rfl
 ce := by kernel_rfl
 cb := by kernel_rfl
 cl := by kernel_rfl
 cd := by kernel_rfl
 ci := by kernel_rfl
 cn := by kernel_rfl
 cs := by kernel_rfl
 cu := by kernel_rfl
theorem bulk_law {H : Type} : BulkLaw (H := H) Rows.uptoBulk Rows.uptoBulkAll where
 pos d := by
  cases d with
  | lit l => cases l <;> simp [Rows.uptoBulk]
  | nil => simp [Rows.uptoBulk]
  | ptr d => simp [Rows.uptoBulk]
  | slice elems spare => simp [Rows.uptoBulk]
  | agg parts => simp [Rows.uptoBulk]
  | iface t d => simp [Rows.uptoBulk]
  | map entries => simp [Rows.uptoBulk]
  | held h => simp [Rows.uptoBulk]
 str b := by simp [Rows.uptoBulk]
 slice e s := by simp [Rows.uptoBulk]
 agg p := by simp [Rows.uptoBulk]
 nil := by simp [Rows.uptoBulkAll]
 cons d r := by simp [Rows.uptoBulkAll]
set_option maxRecDepth 100000 in
theorem small_one {H : Type} {d : DataW H} (h : Rows.uptoSmall H [d] = true) : Rows.uptoBulk d ≤ 1048576 := by
 have h : Rows.uptoBulkAll [d] ≤ 1048576 := of_decide_eq_true h
 simp only [Rows.uptoBulkAll] at h
 omega
end Go.Proofs.YthacnnmlephkhaaGreatDoor

/- The bytes of an object with its number, plain. No condition. -/
namespace Go.Proofs.YthacnnmlephkhaaGreatDoor
open Go Go.RowKit Go.Wk
def lenB : ByteArray := ⟨#[76, 101, 110, 103, 116, 104]⟩
def lenL : List UInt8 := [76, 101, 110, 103, 116, 104]
def itemB (num : Int) (o : Ob) : Bool := decide (1 ≤ num) && decide (num ≤ 8388607) && o.may 28 && !(o.kind == 8 && (Ob.get lenL o).kind != 0)
def numO (n : Nat) : Ob := .mk 2 n [] [] []
def dictB (d : List (List UInt8 × Ob)) : List UInt8 := 60 :: 60 :: (showD d ++ [62, 62])
def strmL : List UInt8 := [10, 115, 116, 114, 101, 97, 109, 10]
def endsL : List UInt8 := [10, 101, 110, 100, 115, 116, 114, 101, 97, 109]
def endoL : List UInt8 := [10, 101, 110, 100, 111, 98, 106, 10]
def objL : List UInt8 := [32, 48, 32, 111, 98, 106, 10]
def itmB : Ob → List UInt8
 | .mk k n b l d => if k = 8 then dictB (insE lenL (numO b.length) d) ++ (strmL ++ (b ++ endsL)) else (Ob.mk k n b l d).show
def itmS (num : Int) (o : Ob) : List UInt8 := if itemB num o = true then (numT num true ++ objL) ++ (itmB o ++ endoL) else []
def itmZ (num : Int) (o : Ob) : Int := if itemB num o = true then 0 else 1
theorem bulkD_app : ∀ (a b : List (List UInt8 × Ob)), bulkD (a ++ b) = bulkD a + bulkD b
 | [], b => by simp [bulkD]
 | x :: a, b => by simp [bulkD, bulkD_app a b]; omega
theorem insE_mem {K : List UInt8} {X : Ob} {d : List (List UInt8 × Ob)} {e : List UInt8 × Ob} (h : e ∈ insE K X d) : e = (K, X) ∨ e ∈ d := by
 unfold insE at h
 simp only [List.mem_append, List.mem_cons, List.not_mem_nil, or_false] at h
 rcases h with (h | h) | h
 ·exact .inr (List.mem_of_mem_take h)
 ·exact .inl h
 ·exact .inr (List.mem_of_mem_drop h)
theorem insE_bulk (K : List UInt8) (X : Ob) (d : List (List UInt8 × Ob)) : bulkD (insE K X d) = bulkD d + (K.length + X.bulk + 1) := by
 unfold insE
 rw [bulkD_app, bulkD_app]
 have := bulkD_app (d.take (placeE K d)) (d.drop (placeE K d))
 rw [List.take_append_drop] at this
 simp [bulkD]; omega
theorem numO_fits (n : Nat) (h : n ≤ 1048576) : Fits (numO n) := .mk _ _ _ _ _ ⟨by omega, by omega⟩ (by simp) (by simp)
theorem numO_bulk (n : Nat) : (numO n).bulk = 1 := by simp [numO, Ob.bulk, bulkL, bulkD]
theorem dictB_len (d : List (List UInt8 × Ob)) (h : ∀ e ∈ d, Fits e.2) : (dictB d).length ≤ 40 * bulkD d + 4 := by
 have := showD_len d h
 unfold dictB
 simp only [List.length_cons, List.length_append, List.length_nil]; omega
theorem ins_len (b : List UInt8) (d : List (List UInt8 × Ob)) (h : ∀ e ∈ d, Fits e.2) (hb : b.length ≤ 1048576) : (dictB (insE lenL (numO b.length) d)).length ≤ 40 * bulkD d + 400 := by
 have h1 := dictB_len (insE lenL (numO b.length) d) (fun e he => by
  rcases insE_mem he with rfl | he
  ·exact numO_fits _ hb
  ·exact h e he)
 rw [insE_bulk, numO_bulk] at h1
 have : lenL.length = 6 := rfl
 omega
theorem itmB_len (o : Ob) (h : Fits o) (hb : o.bulk ≤ 1048576) : (itmB o).length ≤ 50000000 := by
 cases o with
 | mk k n b l d =>
  have h0 := show_len _ h
  cases h with
  | mk _ _ _ _ _ hn hl hd =>
   have z : b.length + bulkL l + bulkD d + 1 ≤ 1048576 := hb
   have h1 := ins_len b d hd (by omega)
   have e : itmB (.mk k n b l d) = if k = 8 then dictB (insE lenL (numO b.length) d) ++ (strmL ++ (b ++ endsL)) else (Ob.mk k n b l d).show := rfl
   rw [e]
   by_cases h8 : k = 8
   ·rw [if_pos h8]
    simp only [List.length_append, strmL, endsL, List.length_cons, List.length_nil]; omega
   ·rw [if_neg h8]; omega
theorem numT_le (n : Int) (h : i64 n) : (numT n true).length ≤ 100 := Nat.le_trans (numT_len n true h) (by omega)
theorem itmS_len (num : Int) (hn : i64 num) (o : Ob) (h : Fits o) (hb : o.bulk ≤ 1048576) : (itmS num o).length ≤ 51000000 := by
 have h1 := itmB_len o h hb
 have h2 := numT_le num hn
 unfold itmS
 split
 ·simp only [List.length_append, objL, endoL, List.length_cons, List.length_nil]; omega
 ·simp
theorem get_null {o : Ob} (hm : o.may 28 = true) (h8 : o.kind = 8) (h : (Ob.get lenL o).kind = 0) {k n : Int} {b : List UInt8} {l : List Ob} {d : List (List UInt8 × Ob)} (ho : o = .mk k n b l d) : ∀ e ∈ d, (e.1 == lenL) = false := by
 subst ho
 have h8 : k = 8 := h8
 subst h8
 intro e he
 cases hq : (e.1 == lenL) with
 | false => rfl
 | true =>
  exfalso
  have hmd : mayD 27 d = true := by
   unfold Ob.may at hm
   simp at hm
   exact hm.2.2
  have hall : ∀ (d : List (List UInt8 × Ob)), mayD 27 d = true → ∀ x ∈ d, x.2.kind ≠ 0 := by
   intro d
   induction d with
   | nil => intro _ x hx; simp at hx
   | cons y d ih =>
    intro hy x hx
    simp only [mayD, Bool.and_eq_true] at hy
    rcases List.mem_cons.1 hx with rfl | hx
    ·have := hy.1.1.1.2; simpa using this
    ·exact ih hy.2 x hx
  have hg : (Ob.get lenL (Ob.mk 8 n b l d)) = (match d.find? fun e => e.1 == lenL with | some e => e.2 | none => zeroO) := by
   show (if hasI 8 = true then (match d.find? fun e => e.1 == lenL with | some e => e.2 | none => zeroO) else zeroO) = _
   rw [if_pos (by decide)]
  rw [hg] at h
  cases hf : d.find? fun e => e.1 == lenL with
  | none => have := List.find?_eq_none.1 hf e he; simp [hq] at this
  | some x =>
   rw [hf] at h
   exact hall d hmd x (List.mem_of_find?_eq_some hf) h
def VI (w : World) (num : Int) (o : Ob) (e : Ending) (w' : World) : Prop := ∃ A c, e = .returned (.tuple #[.slice A (itmS num o).length c, .int .i64 (itmZ num o)]) ∧ Byt w' A (itmS num o) ∧ Below w.heap.size w w'
def VIC (w : World) (num : Int) (o : Ob) (e : Ending) (w' : World) : Prop := ∃ A c, e = .returned (.tuple #[.slice A (itmS num o).length c, .int .i64 (itmZ num o)]) ∧ Byt w' A (itmS num o) ∧ (itmS num o).length ≤ c ∧ Below w.heap.size w w'
theorem VIC.vi {w w' : World} {num : Int} {o : Ob} {e : Ending} (h : VIC w num o e w') : VI w num o e w' := by
 obtain ⟨A, c, h1, h2, _, h3⟩ := h
 exact ⟨A, c, h1, h2, h3⟩
theorem VI.c {w w' : World} {num : Int} {o : Ob} {e : Ending} (hb : itemB num o = false) (h : VI w num o e w') : VIC w num o e w' := by
 obtain ⟨A, c, h1, h2, h3⟩ := h
 exact ⟨A, c, h1, h2, by simp [itmS, hb], h3⟩
theorem VI.no {w w' : World} {num : Int} {o : Ob} (h : itemB num o = false) (hB : Below w.heap.size w w') : VI w num o (.returned (.tuple #[.slice none 0 0, .int .i64 1])) w' :=
 ⟨none, 0, by simp [itmS, itmZ, h], by simp [itmS, h, Byt.nil], hB⟩
end Go.Proofs.YthacnnmlephkhaaGreatDoor

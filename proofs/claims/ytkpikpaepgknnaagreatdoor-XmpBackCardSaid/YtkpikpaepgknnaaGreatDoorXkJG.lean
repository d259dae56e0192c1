/- Walks and laws, joined: part G. No condition. -/
import Derived.Test.YtkpikpaepgknnaaGreatDoorXkJF
import Derived.Test.YtkpikpaepgknnaaGreatDoorXkJD
import Derived.Maps.AppendAt
import Derived.Laws.AppendOwnNone
import Derived.Lib.SlBytesConst
set_option linter.unusedSimpArgs false
set_option linter.unusedVariables false
/- What is written of an entry. No condition. -/
namespace Go.Xw
def langL (L : Bs) : Bs := if L = [] then [] else [32, 120, 109, 108, 58, 108, 97, 110, 103, 61, 34] ++ L ++ [34]
end Go.Xw
namespace Go.Proofs.YtkpikpaepgknnaaGreatDoor
open Go Go.RowKit Go.Wk Go.Xt Go.Xe Go.Xw
/-- an element of an entry -/
def markL (e : ByteArray × ByteArray) (N : Xw.Bs) : Xw.Bs := [60] ++ N ++ langL e.1.data.toList ++ [62] ++ escS e.2.data.toList ++ [60, 47] ++ N ++ [62]
theorem esc_of {w : World} (T : ByteArray) (hT3 : T.size ≤ 500) (hT : Lib.Utf8Tabs 0 1 w) (h2 : 2 ≤ w.heap.size) : ∃ E : ByteArray, E.data.toList = escS T.data.toList ∧ E.size ≤ 3000 ∧
    (∀ W, Below w.heap.size w W → Calls Tryz.prog 90 #[.string T] W fun e w' => e = .returned (.string E) ∧ Below W.heap.size W w') ∧
    (∀ W, Below w.heap.size w W → Calls Tryz.prog 31 #[.string T] W fun e w' => e = .returned (.string E) ∧ Below W.heap.size W w') := by
  have hl : T.data.toList.length = T.size := Array.length_toList
  have hf := flat_len T.data.toList.length T.data.toList (Nat.le_refl _)
  refine ⟨⟨(escS T.data.toList).toArray⟩, by simp, by show (escS T.data.toList).toArray.size ≤ 3000; rw [List.size_toArray]; omega, fun W hW => ?_, fun W hW => ?_⟩
  · have := xml_Escape (w := W) (bs := T.data.toList) (by omega) (tabs_below hT h2 hW) (by have := hW.size; omega)
    have e : str T.data.toList = .string T := by unfold str; simp
    rw [e] at this
    exact this
  · exact ref_Escape (w := W) T hT3 (tabs_below hT h2 hW) (by have := hW.size; omega)
theorem ba_app (a b : ByteArray) : (a ++ b).data.toList = a.data.toList ++ b.data.toList := by simp
set_option maxHeartbeats 4000000 in
set_option maxRecDepth 100000 in
theorem xmp_mark {w : World} (L T N : ByteArray) (hL : L.size ≤ 100) (hTs : T.size ≤ 300) (hN : N.size ≤ 300) (hT : Lib.Utf8Tabs 0 1 w) (h2 : 2 ≤ w.heap.size) :
    Calls Tryz.prog 60 #[.agg #[.string L, .string T], .string N] w fun e w' => ∃ R : ByteArray, e = .returned (.string R) ∧ R.data.toList = markL (L, T) N.data.toList ∧ R.size ≤ 4000 ∧ Below w.heap.size w w' := by
  obtain ⟨W1, hW1⟩ : ∃ W, W = w.alloc (.cells #[.string L, .string T] 55) := ⟨_, rfl⟩
  have hb1 : Below w.heap.size w W1 := by rw [hW1]; exact (Below.refl _ _).alloc (Nat.le_refl _) _
  have hR : Blk W1 w.heap.size 55 #[.string L, .string T] := by rw [hW1]; exact Blk.new w 55 _
  obtain ⟨E, hE, hEs, ce, _⟩ := esc_of T (by omega) hT h2
  have ce1 := ce W1 hb1
  have r0 := hR.cell 0
  have r1 := hR.cell 1
  have hem := ne_empty L
  have eL : L.data.toList = [] ↔ L.size = 0 := by
    have h : L.data.toList.length = L.size := Array.length_toList
    rw [← h, List.length_eq_zero_iff]
  replace hb1 := Lib.hid hb1
  replace hE := Lib.hid hE
  replace eL := Lib.hid eL
  clear ce hR hT h2
  cases hb : decide (0 < L.size) with
  | false =>
    have h0 : L.size = 0 := by have := of_decide_eq_false hb; omega
    have hem2 : L.toList.isEmpty = true := by rw [hb] at hem; simpa using hem
    replace h0 := Lib.hid h0
    clear hem hb
    go_enter Tryz.func60, Tryz.ntmps60
    go_upto_region 1 with (fail)
    rw [← hW1]
    replace hW1 := Lib.hid hW1
    go_wp2_with (go_at_call 90; (with_reducible refine ce1.mono ?_); rintro e w2 ⟨rfl, hb2⟩; replace hb2 := Lib.hid hb2)
    go_ret
    refine ⟨_, rfl, ?_, ?_, bthen hb1.out hb2.out⟩
    · unfold markL langL
      simp only [eL.out.2 h0.out, if_true]
      simp [hE.out]
    · simp only [ByteArray.size_append]; show 1 + _ + 0 + 1 + _ + 2 + _ + 1 ≤ 4000; omega
  | true =>
    have h0 : L.size ≠ 0 := by have := of_decide_eq_true hb; omega
    have hem2 : L.toList.isEmpty = false := by rw [hb] at hem; simpa using hem
    replace h0 := Lib.hid h0
    clear hem hb
    go_enter Tryz.func60, Tryz.ntmps60
    go_upto_region 1 with (fail)
    rw [← hW1]
    replace hW1 := Lib.hid hW1
    go_wp2_with (go_at_call 90; (with_reducible refine ce1.mono ?_); rintro e w2 ⟨rfl, hb2⟩; replace hb2 := Lib.hid hb2)
    go_ret
    refine ⟨_, rfl, ?_, ?_, bthen hb1.out hb2.out⟩
    · unfold markL langL
      rw [if_neg (fun h => h0.out (eL.out.1 h))]
      simp [hE.out]
    · simp only [ByteArray.size_append]; show 1 + _ + (11 + _ + 1) + 1 + _ + 2 + _ + 1 ≤ 4000; omega
/-- what a property has -/
def kindL (k : Int) : Xw.Bs := if k = 1 then [65, 108, 116] else if k = 2 then [83, 101, 113] else [66, 97, 103]
def liL : Xw.Bs := [114, 100, 102, 58, 108, 105]
def bodyL (p : Pr) : Xw.Bs :=
  if p.kd = 0 then (match p.it with | e :: _ => markL e ([112, 58] ++ p.nm.data.toList) | [] => [])
  else [60] ++ ([112, 58] ++ p.nm.data.toList) ++ [62, 60] ++ ([114, 100, 102, 58] ++ kindL p.kd) ++ [62] ++ p.it.flatMap (fun e => markL e liL) ++ [60, 47] ++ ([114, 100, 102, 58] ++ kindL p.kd) ++ [62, 60, 47] ++ ([112, 58] ++ p.nm.data.toList) ++ [62]
set_option maxHeartbeats 8000000 in
set_option maxRecDepth 100000 in
theorem xmp_body {w : World} (p : Pr) (A : Option Addr) (c : Nat) (h : EnsAt w A p.it) (hs : Xw.Small p) (hcp : p.it.length ≤ c) (hk : kindB p.kd p.it.length = true) (hT : Lib.Utf8Tabs 0 1 w) (h2 : 2 ≤ w.heap.size) :
    Calls Tryz.prog 27 #[prV p (.slice A p.it.length c)] w fun e w' => ∃ R : ByteArray, e = .returned (.string R) ∧ R.data.toList = bodyL p ∧ R.size ≤ 100000 ∧ Below w.heap.size w w' := by
  obtain ⟨i1, i2, i3, i4⟩ := hs
  obtain ⟨sp, nm, kd, it⟩ := p
  unfold prV
  simp only at h i1 i2 i3 i4 hk hcp ⊢
  obtain ⟨W1, hW1⟩ : ∃ W, W = w.alloc (.cells #[.string sp, .string nm, .int .i64 kd, .slice A it.length c] 38) := ⟨_, rfl⟩
  have hb1 : Below w.heap.size w W1 := by rw [hW1]; exact (Below.refl _ _).alloc (Nat.le_refl _) _
  have hR : Blk W1 w.heap.size 38 #[.string sp, .string nm, .int .i64 kd, .slice A it.length c] := by rw [hW1]; exact Blk.new w 38 _
  have cm := fun i (hi : i < it.length) (N : ByteArray) (hN : N.size ≤ 300) W (hW : Below w.heap.size w W) => xmp_mark (w := W) it[i].1 it[i].2 N (i4 _ (List.getElem_mem hi)).1 (i4 _ (List.getElem_mem hi)).2 hN (tabs_below hT h2 hW) (by have := hW.size; omega)
  obtain ⟨n, hn⟩ : ∃ n, n = it.length := ⟨_, rfl⟩
  rw [← hn] at hW1 hR hk i3 hcp ⊢
  obtain ⟨r0, r1, r2, r3⟩ := blk4 hR
  unfold kindB at hk
  simp only [Bool.and_eq_true, decide_eq_true_eq, Bool.or_eq_true, bne_iff_ne, beq_iff_eq] at hk
  obtain ⟨k1, k2, k3⟩ := hk
  replace h := Lib.hid h
  replace hb1 := Lib.hid hb1
  replace hR := Lib.hid hR
  replace cm := Lib.hid cm
  replace hn := Lib.hid hn
  clear hT h2 i4 i1
  by_cases h0 : kd = 0
  · subst h0
    have hn1 : n = 1 := k3.elim (fun h => absurd rfl h) id
    clear k1 k2 k3
    obtain ⟨e, rfl⟩ : ∃ e, it = [e] := by
      have := hn.out
      rw [hn1] at this
      match it, this with
      | [e], _ => exact ⟨e, rfl⟩
    subst hn1
    obtain ⟨g, o, rfl, hcs⟩ := h.out (by simp)
    obtain ⟨w0, w1⟩ := hcs 0 (by simp)
    have z0 := (hb1.out.cell (cell_lt w0)).trans w0
    have z1 := (hb1.out.cell (cell_lt w1)).trans w1
    obtain ⟨L, T⟩ := e
    have c60 := cm.out 0 (by simp) (⟨#[112, 58]⟩ ++ nm) (by rw [ByteArray.size_append]; show 2 + _ ≤ 300; omega) W1 hb1.out
    simp only [List.getElem_cons_zero] at c60 z0 z1
    rw [Nat.zero_mul, Nat.add_zero] at z0 z1
    clear hcs w0 w1
    go_enter Tryz.func27, Tryz.ntmps27
    go_upto_region 1 with (fail)
    rw [← hW1]
    replace hW1 := Lib.hid hW1
    go_wp2_with (go_at_call 60; (with_reducible refine c60.mono ?_); rintro e' w2 ⟨R, rfl, hr1, hr2, hb2⟩; replace hb2 := Lib.hid hb2; replace hr1 := Lib.hid hr1)
    go_ret
    exact ⟨R, rfl, by rw [hr1.out]; unfold bodyL; simp, by omega, bthen hb1.out hb2.out⟩
  · clear k3
    have hkc : kd = 1 ∨ kd = 2 ∨ kd = 3 := by omega
    clear k1 k2 h0
    rcases hkc with hq | hq | hq
    · subst hq
      have i5 := i2
      go_enter Tryz.func27, Tryz.ntmps27
      go_upto_region 1 with (fail)
      rw [← hW1]
      replace hW1 := Lib.hid hW1
      have hBB : Below W1.heap.size W1 (W1.alloc (.cells #[.string ⟨#[]⟩, .string ⟨#[65, 108, 116]⟩, .string ⟨#[83, 101, 113]⟩, .string ⟨#[66, 97, 103]⟩] 9)) := (Below.refl _ _).alloc (Nat.le_refl _) _
      have hbB : Below w.heap.size w (W1.alloc (.cells #[.string ⟨#[]⟩, .string ⟨#[65, 108, 116]⟩, .string ⟨#[83, 101, 113]⟩, .string ⟨#[66, 97, 103]⟩] 9)) := bthen hb1.out ((Below.refl _ _).alloc (Nat.le_refl _) _)
      obtain ⟨b0, b1, b2, b3⟩ := blk4 (hR.out.below hBB hR.out.lt)
      obtain ⟨t0, t1, t2, t3⟩ := blk4 (Blk.new W1 9 #[.string ⟨#[]⟩, .string ⟨#[65, 108, 116]⟩, .string ⟨#[83, 101, 113]⟩, .string ⟨#[66, 97, 103]⟩])
      replace hBB := Lib.hid hBB
      replace hbB := Lib.hid hbB
      go_upto_region 4 with (fail)
      go_upto_region 5 with (fail)
      go_upto_region 6 with (fail)
      obtain ⟨PRE, hPRE⟩ : ∃ s : ByteArray, s = ⟨#[60]⟩ ++ (⟨#[112, 58]⟩ ++ nm) ++ ⟨#[62, 60]⟩ ++ (⟨#[114, 100, 102, 58]⟩ ++ ⟨#[65, 108, 116]⟩) ++ ⟨#[62]⟩ := ⟨_, rfl⟩
      have hPs : PRE.size ≤ 300 := by rw [hPRE]; simp only [ByteArray.size_append]; show 1 + (2 + _) + 2 + (4 + 3) + 1 ≤ 300; omega
      have hPl : PRE.data.toList = [60] ++ ([112, 58] ++ nm.data.toList) ++ [62, 60] ++ ([114, 100, 102, 58] ++ kindL 1) ++ [62] := by rw [hPRE]; simp [kindL]
      clear t0 t1 t2 t3 r0 r1 r2 r3
      generalize (W1.alloc (.cells #[.string ⟨#[]⟩, .string ⟨#[65, 108, 116]⟩, .string ⟨#[83, 101, 113]⟩, .string ⟨#[66, 97, 103]⟩] 9)) = WB at *
      replace hPl := Lib.hid hPl
      rw [← hPRE]
      replace hPRE := Lib.hid hPRE
      go_wp2
      go_loopw [5, 7, 8, 36] (fun s5 _ _ s36 wr => ∃ (k : Nat) (o : ByteArray), k ≤ n ∧ s36 = .int .i64 k ∧ s5 = .string o ∧ o.data.toList = PRE.data.toList ++ (it.take k).flatMap (fun e => markL e liL) ∧ o.size ≤ 300 + k * 4000 ∧ Below w.heap.size w wr) (fun _ _ _ s36 _ => n - (RowKit.intOf s36).toNat)
      case atStart => exact ⟨0, PRE, Nat.zero_le _, rfl, by first | rw [hPRE.out] | rfl, by simp, by omega, hbB.out⟩
      case round =>
        obtain ⟨k, o, hk, rfl, rfl, ho, hos, hB⟩ := hrel
        by_cases hkn : k < n
        · have hkl : k < it.length := by rw [← hn.out]; exact hkn
          obtain ⟨g, og, rfl, hcs⟩ := h.out (by omega)
          obtain ⟨w0, w1⟩ := hcs k hkl
          have z0 := (hB.cell (cell_lt w0)).trans w0
          have z1 := (hB.cell (cell_lt w1)).trans w1
          have hT : (it.take (k + 1)).flatMap (fun e => markL e liL) = (it.take k).flatMap (fun e => markL e liL) ++ markL it[k] liL := by
            rw [List.take_succ_eq_append_getElem hkl, List.flatMap_append]; simp
          have c60 := fun W (hW : Below w.heap.size w W) => cm.out k hkl ⟨#[114, 100, 102, 58, 108, 105]⟩ (by decide) W hW
          generalize it[k] = en at z0 z1 c60 hT
          obtain ⟨L, T⟩ := en
          simp only at z0 z1 c60
          have c61 := c60 _ (bthen hB ((Below.refl wr.heap.size wr).alloc (Nat.le_refl _) (.cells #[.string L, .string T] 55)))
          replace hT := Lib.hid hT
          replace ho := Lib.hid ho
          replace hB := Lib.hid hB
          clear hcs w0 w1 c60
          go_wp2_with (go_at_call 60; (with_reducible refine c61.mono ?_); rintro e' w2 ⟨R, rfl, hr1, hr2, hb2⟩; replace hb2 := Lib.hid hb2; replace hr1 := Lib.hid hr1)
          go_roundw
          case rel => exact ⟨k + 1, o ++ R, by omega, by go_num, rfl, by rw [ba_app, ho.out, hr1.out, hT.out, List.append_assoc]; rfl, by rw [ByteArray.size_append]; omega, bthen hB.out (bthen ((Below.refl wr.heap.size wr).alloc (Nat.le_refl _) (.cells #[.string L, .string T] 55)) hb2.out)⟩
          case measure => simp [RowKit.intOf]; omega
        · obtain rfl : k = n := by omega
          have hT : it.take k = it := by rw [hn.out, List.take_length]
          rw [hT] at ho
          replace ho := Lib.hid ho
          replace hB := Lib.hid hB
          have hos2 : o.size ≤ 90000 := by omega
          clear hos
          go_wp2
          go_ret
          refine ⟨_, rfl, ?_, ?_, hB.out⟩
          · unfold bodyL
            simp only [ba_app, ho.out, hPl.out]
            simp [kindL, liL]
          · simp only [ByteArray.size_append]
            show _ ≤ 100000
            have : (ByteArray.mk #[60, 47]).size = 2 := rfl
            have : (ByteArray.mk #[114, 100, 102, 58]).size = 4 := rfl
            have : (ByteArray.mk #[65, 108, 116]).size = 3 := rfl
            have : (ByteArray.mk #[62, 60, 47]).size = 3 := rfl
            have : (ByteArray.mk #[112, 58]).size = 2 := rfl
            have : (ByteArray.mk #[62]).size = 1 := rfl
            omega
    · subst hq
      have i5 := i2
      go_enter Tryz.func27, Tryz.ntmps27
      go_upto_region 1 with (fail)
      rw [← hW1]
      replace hW1 := Lib.hid hW1
      have hBB : Below W1.heap.size W1 (W1.alloc (.cells #[.string ⟨#[]⟩, .string ⟨#[65, 108, 116]⟩, .string ⟨#[83, 101, 113]⟩, .string ⟨#[66, 97, 103]⟩] 9)) := (Below.refl _ _).alloc (Nat.le_refl _) _
      have hbB : Below w.heap.size w (W1.alloc (.cells #[.string ⟨#[]⟩, .string ⟨#[65, 108, 116]⟩, .string ⟨#[83, 101, 113]⟩, .string ⟨#[66, 97, 103]⟩] 9)) := bthen hb1.out ((Below.refl _ _).alloc (Nat.le_refl _) _)
      obtain ⟨b0, b1, b2, b3⟩ := blk4 (hR.out.below hBB hR.out.lt)
      obtain ⟨t0, t1, t2, t3⟩ := blk4 (Blk.new W1 9 #[.string ⟨#[]⟩, .string ⟨#[65, 108, 116]⟩, .string ⟨#[83, 101, 113]⟩, .string ⟨#[66, 97, 103]⟩])
      replace hBB := Lib.hid hBB
      replace hbB := Lib.hid hbB
      go_upto_region 4 with (fail)
      go_upto_region 5 with (fail)
      go_upto_region 6 with (fail)
      obtain ⟨PRE, hPRE⟩ : ∃ s : ByteArray, s = ⟨#[60]⟩ ++ (⟨#[112, 58]⟩ ++ nm) ++ ⟨#[62, 60]⟩ ++ (⟨#[114, 100, 102, 58]⟩ ++ ⟨#[83, 101, 113]⟩) ++ ⟨#[62]⟩ := ⟨_, rfl⟩
      have hPs : PRE.size ≤ 300 := by rw [hPRE]; simp only [ByteArray.size_append]; show 1 + (2 + _) + 2 + (4 + 3) + 1 ≤ 300; omega
      have hPl : PRE.data.toList = [60] ++ ([112, 58] ++ nm.data.toList) ++ [62, 60] ++ ([114, 100, 102, 58] ++ kindL 2) ++ [62] := by rw [hPRE]; simp [kindL]
      clear t0 t1 t2 t3 r0 r1 r2 r3
      generalize (W1.alloc (.cells #[.string ⟨#[]⟩, .string ⟨#[65, 108, 116]⟩, .string ⟨#[83, 101, 113]⟩, .string ⟨#[66, 97, 103]⟩] 9)) = WB at *
      replace hPl := Lib.hid hPl
      rw [← hPRE]
      replace hPRE := Lib.hid hPRE
      go_wp2
      go_loopw [5, 7, 8, 36] (fun s5 _ _ s36 wr => ∃ (k : Nat) (o : ByteArray), k ≤ n ∧ s36 = .int .i64 k ∧ s5 = .string o ∧ o.data.toList = PRE.data.toList ++ (it.take k).flatMap (fun e => markL e liL) ∧ o.size ≤ 300 + k * 4000 ∧ Below w.heap.size w wr) (fun _ _ _ s36 _ => n - (RowKit.intOf s36).toNat)
      case atStart => exact ⟨0, PRE, Nat.zero_le _, rfl, by first | rw [hPRE.out] | rfl, by simp, by omega, hbB.out⟩
      case round =>
        obtain ⟨k, o, hk, rfl, rfl, ho, hos, hB⟩ := hrel
        by_cases hkn : k < n
        · have hkl : k < it.length := by rw [← hn.out]; exact hkn
          obtain ⟨g, og, rfl, hcs⟩ := h.out (by omega)
          obtain ⟨w0, w1⟩ := hcs k hkl
          have z0 := (hB.cell (cell_lt w0)).trans w0
          have z1 := (hB.cell (cell_lt w1)).trans w1
          have hT : (it.take (k + 1)).flatMap (fun e => markL e liL) = (it.take k).flatMap (fun e => markL e liL) ++ markL it[k] liL := by
            rw [List.take_succ_eq_append_getElem hkl, List.flatMap_append]; simp
          have c60 := fun W (hW : Below w.heap.size w W) => cm.out k hkl ⟨#[114, 100, 102, 58, 108, 105]⟩ (by decide) W hW
          generalize it[k] = en at z0 z1 c60 hT
          obtain ⟨L, T⟩ := en
          simp only at z0 z1 c60
          have c61 := c60 _ (bthen hB ((Below.refl wr.heap.size wr).alloc (Nat.le_refl _) (.cells #[.string L, .string T] 55)))
          replace hT := Lib.hid hT
          replace ho := Lib.hid ho
          replace hB := Lib.hid hB
          clear hcs w0 w1 c60
          go_wp2_with (go_at_call 60; (with_reducible refine c61.mono ?_); rintro e' w2 ⟨R, rfl, hr1, hr2, hb2⟩; replace hb2 := Lib.hid hb2; replace hr1 := Lib.hid hr1)
          go_roundw
          case rel => exact ⟨k + 1, o ++ R, by omega, by go_num, rfl, by rw [ba_app, ho.out, hr1.out, hT.out, List.append_assoc]; rfl, by rw [ByteArray.size_append]; omega, bthen hB.out (bthen ((Below.refl wr.heap.size wr).alloc (Nat.le_refl _) (.cells #[.string L, .string T] 55)) hb2.out)⟩
          case measure => simp [RowKit.intOf]; omega
        · obtain rfl : k = n := by omega
          have hT : it.take k = it := by rw [hn.out, List.take_length]
          rw [hT] at ho
          replace ho := Lib.hid ho
          replace hB := Lib.hid hB
          have hos2 : o.size ≤ 90000 := by omega
          clear hos
          go_wp2
          go_ret
          refine ⟨_, rfl, ?_, ?_, hB.out⟩
          · unfold bodyL
            simp only [ba_app, ho.out, hPl.out]
            simp [kindL, liL]
          · simp only [ByteArray.size_append]
            show _ ≤ 100000
            have : (ByteArray.mk #[60, 47]).size = 2 := rfl
            have : (ByteArray.mk #[114, 100, 102, 58]).size = 4 := rfl
            have : (ByteArray.mk #[83, 101, 113]).size = 3 := rfl
            have : (ByteArray.mk #[62, 60, 47]).size = 3 := rfl
            have : (ByteArray.mk #[112, 58]).size = 2 := rfl
            have : (ByteArray.mk #[62]).size = 1 := rfl
            omega
    · subst hq
      have i5 := i2
      go_enter Tryz.func27, Tryz.ntmps27
      go_upto_region 1 with (fail)
      rw [← hW1]
      replace hW1 := Lib.hid hW1
      have hBB : Below W1.heap.size W1 (W1.alloc (.cells #[.string ⟨#[]⟩, .string ⟨#[65, 108, 116]⟩, .string ⟨#[83, 101, 113]⟩, .string ⟨#[66, 97, 103]⟩] 9)) := (Below.refl _ _).alloc (Nat.le_refl _) _
      have hbB : Below w.heap.size w (W1.alloc (.cells #[.string ⟨#[]⟩, .string ⟨#[65, 108, 116]⟩, .string ⟨#[83, 101, 113]⟩, .string ⟨#[66, 97, 103]⟩] 9)) := bthen hb1.out ((Below.refl _ _).alloc (Nat.le_refl _) _)
      obtain ⟨b0, b1, b2, b3⟩ := blk4 (hR.out.below hBB hR.out.lt)
      obtain ⟨t0, t1, t2, t3⟩ := blk4 (Blk.new W1 9 #[.string ⟨#[]⟩, .string ⟨#[65, 108, 116]⟩, .string ⟨#[83, 101, 113]⟩, .string ⟨#[66, 97, 103]⟩])
      replace hBB := Lib.hid hBB
      replace hbB := Lib.hid hbB
      go_upto_region 4 with (fail)
      go_upto_region 5 with (fail)
      go_upto_region 6 with (fail)
      obtain ⟨PRE, hPRE⟩ : ∃ s : ByteArray, s = ⟨#[60]⟩ ++ (⟨#[112, 58]⟩ ++ nm) ++ ⟨#[62, 60]⟩ ++ (⟨#[114, 100, 102, 58]⟩ ++ ⟨#[66, 97, 103]⟩) ++ ⟨#[62]⟩ := ⟨_, rfl⟩
      have hPs : PRE.size ≤ 300 := by rw [hPRE]; simp only [ByteArray.size_append]; show 1 + (2 + _) + 2 + (4 + 3) + 1 ≤ 300; omega
      have hPl : PRE.data.toList = [60] ++ ([112, 58] ++ nm.data.toList) ++ [62, 60] ++ ([114, 100, 102, 58] ++ kindL 3) ++ [62] := by rw [hPRE]; simp [kindL]
      clear t0 t1 t2 t3 r0 r1 r2 r3
      generalize (W1.alloc (.cells #[.string ⟨#[]⟩, .string ⟨#[65, 108, 116]⟩, .string ⟨#[83, 101, 113]⟩, .string ⟨#[66, 97, 103]⟩] 9)) = WB at *
      replace hPl := Lib.hid hPl
      rw [← hPRE]
      replace hPRE := Lib.hid hPRE
      go_wp2
      go_loopw [5, 7, 8, 36] (fun s5 _ _ s36 wr => ∃ (k : Nat) (o : ByteArray), k ≤ n ∧ s36 = .int .i64 k ∧ s5 = .string o ∧ o.data.toList = PRE.data.toList ++ (it.take k).flatMap (fun e => markL e liL) ∧ o.size ≤ 300 + k * 4000 ∧ Below w.heap.size w wr) (fun _ _ _ s36 _ => n - (RowKit.intOf s36).toNat)
      case atStart => exact ⟨0, PRE, Nat.zero_le _, rfl, by first | rw [hPRE.out] | rfl, by simp, by omega, hbB.out⟩
      case round =>
        obtain ⟨k, o, hk, rfl, rfl, ho, hos, hB⟩ := hrel
        by_cases hkn : k < n
        · have hkl : k < it.length := by rw [← hn.out]; exact hkn
          obtain ⟨g, og, rfl, hcs⟩ := h.out (by omega)
          obtain ⟨w0, w1⟩ := hcs k hkl
          have z0 := (hB.cell (cell_lt w0)).trans w0
          have z1 := (hB.cell (cell_lt w1)).trans w1
          have hT : (it.take (k + 1)).flatMap (fun e => markL e liL) = (it.take k).flatMap (fun e => markL e liL) ++ markL it[k] liL := by
            rw [List.take_succ_eq_append_getElem hkl, List.flatMap_append]; simp
          have c60 := fun W (hW : Below w.heap.size w W) => cm.out k hkl ⟨#[114, 100, 102, 58, 108, 105]⟩ (by decide) W hW
          generalize it[k] = en at z0 z1 c60 hT
          obtain ⟨L, T⟩ := en
          simp only at z0 z1 c60
          have c61 := c60 _ (bthen hB ((Below.refl wr.heap.size wr).alloc (Nat.le_refl _) (.cells #[.string L, .string T] 55)))
          replace hT := Lib.hid hT
          replace ho := Lib.hid ho
          replace hB := Lib.hid hB
          clear hcs w0 w1 c60
          go_wp2_with (go_at_call 60; (with_reducible refine c61.mono ?_); rintro e' w2 ⟨R, rfl, hr1, hr2, hb2⟩; replace hb2 := Lib.hid hb2; replace hr1 := Lib.hid hr1)
          go_roundw
          case rel => exact ⟨k + 1, o ++ R, by omega, by go_num, rfl, by rw [ba_app, ho.out, hr1.out, hT.out, List.append_assoc]; rfl, by rw [ByteArray.size_append]; omega, bthen hB.out (bthen ((Below.refl wr.heap.size wr).alloc (Nat.le_refl _) (.cells #[.string L, .string T] 55)) hb2.out)⟩
          case measure => simp [RowKit.intOf]; omega
        · obtain rfl : k = n := by omega
          have hT : it.take k = it := by rw [hn.out, List.take_length]
          rw [hT] at ho
          replace ho := Lib.hid ho
          replace hB := Lib.hid hB
          have hos2 : o.size ≤ 90000 := by omega
          clear hos
          go_wp2
          go_ret
          refine ⟨_, rfl, ?_, ?_, hB.out⟩
          · unfold bodyL
            simp only [ba_app, ho.out, hPl.out]
            simp [kindL, liL]
          · simp only [ByteArray.size_append]
            show _ ≤ 100000
            have : (ByteArray.mk #[60, 47]).size = 2 := rfl
            have : (ByteArray.mk #[114, 100, 102, 58]).size = 4 := rfl
            have : (ByteArray.mk #[66, 97, 103]).size = 3 := rfl
            have : (ByteArray.mk #[62, 60, 47]).size = 3 := rfl
            have : (ByteArray.mk #[112, 58]).size = 2 := rfl
            have : (ByteArray.mk #[62]).size = 1 := rfl
            omega
end Go.Proofs.YtkpikpaepgknnaaGreatDoor

/- A packet's text: its grammar, plain. Names, values, marks. No condition. -/
namespace Go.Proofs.YtkpikpaepgknnaaGreatDoor
open Go Go.RowKit Go.Wk Go.Xt Go.Xe Go.Xw
theorem name_S {nm : List UInt8} (h : nameB nm = true) {c : UInt8} {R : List UInt8} (hc : goesB c = false) : nameS (nm ++ c :: R) = nm := by
  cases nm with
  | nil => simp [nameB] at h
  | cons x l =>
    unfold nameB at h
    rw [Bool.and_eq_true] at h
    obtain ⟨h1, h2⟩ := h
    show (if beginsB x then ((x :: l) ++ c :: R).takeWhile goesB else []) = x :: l
    rw [if_pos h1, List.takeWhile_append_of_pos (fun a ha => List.all_eq_true.1 h2 a ha), List.takeWhile_cons, hc]
    simp
theorem name_ne {nm : List UInt8} (h : nameB nm = true) : nm ≠ [] := by rintro rfl; simp [nameB] at h
theorem full_two {pre nm : List UInt8} (hp : nameB pre = true) (hn : nameB nm = true) {c : UInt8} {R : List UInt8} (hc : goesB c = false) : FullN (pre ++ 58 :: (nm ++ c :: R)) pre nm (c :: R) := by
  have h := FullN.two (pre ++ 58 :: (nm ++ c :: R)) pre (nm ++ c :: R) nm (name_S hp (by decide)) (name_ne hp) (by simp) (name_S hn hc) (name_ne hn)
  rw [List.drop_left] at h
  exact h
theorem txt_plain {fin : Int} {l : List UInt8} (h : ∀ b ∈ l, b ≠ 60 ∧ b ≠ 38 ∧ (b.toNat : Int) ≠ fin) {c : UInt8} (hc : c = 60 ∨ (c.toNat : Int) = fin) (R : List UInt8) : Txt fin (l ++ c :: R) l (c :: R) := by
  induction l with
  | nil => exact .stop c R hc
  | cons x l ih =>
    obtain ⟨h1, h2, h3⟩ := h x (List.mem_cons_self ..)
    exact .byte x _ l _ h1 h3 h2 (ih fun b hb => h b (List.mem_cons_of_mem _ hb))
theorem ws_no {c : UInt8} {R : List UInt8} (h : whiteB c = false) : ws (c :: R) = 0 := by simp [ws, List.takeWhile_cons, h]
theorem att_two {pre nm v e : List UInt8} (hp : nameB pre = true) (hn : nameB nm = true) {R : List UInt8} (hT : Txt (34 : Int) (e ++ 34 :: R) v (34 :: R)) : AttP (pre ++ 58 :: (nm ++ 61 :: 34 :: (e ++ 34 :: R))) (pre, nm, v) R := by
  refine .mk _ pre nm (61 :: 34 :: (e ++ 34 :: R)) v 34 (34 :: (e ++ 34 :: R)) (e ++ 34 :: R) (full_two hp hn (by decide)) ?_ ?_ (.inl rfl) R hT
  · rw [ws_no (by decide)]; rfl
  · rw [ws_no (by decide)]; rfl
theorem atts_end (c : UInt8) (R : List UInt8) (h : c = 47 ∨ c = 62) : AttsP (c :: R) [] (c :: R) := by
  refine .nil _ _ c ?_ h
  rcases h with rfl | rfl <;> simp [ws, List.takeWhile_cons, whiteB]
theorem atts_more {r r2 r' : List UInt8} {a : List UInt8 × List UInt8 × List UInt8} {l : List (List UInt8 × List UInt8 × List UInt8)} (c : UInt8) (hc : whiteB c = false) (h1 : c ≠ 47) (h2 : c ≠ 62) (hA : AttP (c :: r) a r2) (h : AttsP r2 l r') : AttsP (32 :: c :: r) (a :: l) r' := by
  have hw : ws (32 :: c :: r) = 1 := by simp [ws, List.takeWhile_cons, hc]; simp [whiteB]
  exact .cons _ _ _ a l c r (by rw [hw]; omega) (by rw [hw]; rfl) h1 h2 hA h
theorem lang_txt {L : List UInt8} (h : L.all langB = true) (R : List UInt8) : Txt (34 : Int) (L ++ 34 :: R) L (34 :: R) := by
  refine txt_plain (fin := 34) (c := 34) (fun b hb => ?_) (.inr rfl) R
  have h1 := List.all_eq_true.1 h b hb
  refine ⟨?_, ?_, fun e => ?_⟩
  · rintro rfl; revert h1; decide
  · rintro rfl; revert h1; decide
  · have : b = 34 := UInt8.toNat_inj.1 (by show b.toNat = 34; omega)
    subst this; revert h1; decide
theorem space_txt {S : List UInt8} (h : S.all spaceB = true) (R : List UInt8) : Txt (34 : Int) (S ++ 34 :: R) S (34 :: R) := by
  refine txt_plain (fin := 34) (c := 34) (fun b hb => ?_) (.inr rfl) R
  have h1 := List.all_eq_true.1 h b hb
  refine ⟨?_, ?_, fun e => ?_⟩
  · rintro rfl; revert h1; decide
  · rintro rfl; revert h1; decide
  · have : b = 34 := UInt8.toNat_inj.1 (by show b.toNat = 34; omega)
    subst this; revert h1; decide
/-- an escaped text, up to a mark -/
theorem esc_txt {T : List UInt8} (h : signsB T = true) (R : List UInt8) : Txt (-1 : Int) (escS T ++ 60 :: R) T (60 :: R) := by
  have h1 := txt_esc (.inr rfl) (Txt.stop (fin := -1) 60 R (.inl rfl)) T
  rw [outS_ok T.length T (Nat.le_refl _) h, List.append_nil] at h1
  exact h1
/-- a language's attribute -/
def langA (L : List UInt8) : List (List UInt8 × List UInt8 × List UInt8) := if L = [] then [] else [([120, 109, 108], [108, 97, 110, 103], L)]
def langN (L : List UInt8) : List (List UInt8 × List UInt8 × List UInt8) := attsX xmlNs (langA L)
def txN (T : List UInt8) : List Nx := if T = [] then [] else [.tx T]
/-- a prefix is bound -/
def BoundTo (B : List (List UInt8 × List UInt8)) (pre sp : List UInt8) : Prop := ∃ B1 B2, B = B1 ++ (pre, sp) :: B2 ∧ ∀ b ∈ B2, b.1 ≠ pre
theorem lang_atts {L : List UInt8} (h : L.all langB = true) (R : List UInt8) : AttsP (langL L ++ 62 :: R) (langA L) (62 :: R) := by
  unfold langL langA
  by_cases h0 : L = []
  · rw [if_pos h0, if_pos h0]; exact atts_end 62 R (.inr rfl)
  · rw [if_neg h0, if_neg h0]
    have h1 := att_two (pre := [120, 109, 108]) (nm := [108, 97, 110, 103]) (by decide) (by decide) (lang_txt h (62 :: R))
    have h2 := atts_more 120 (by decide) (by decide) (by decide) (r := 109 :: 108 :: 58 :: 108 :: 97 :: 110 :: 103 :: 61 :: 34 :: (L ++ 34 :: 62 :: R)) (by simpa using h1) (atts_end 62 R (.inr rfl))
    simpa using h2
theorem lang_head (L R : List UInt8) : ∃ c R', langL L ++ 62 :: R = c :: R' ∧ goesB c = false := by
  unfold langL
  split
  · exact ⟨62, R, rfl, by decide⟩
  · exact ⟨32, _, rfl, by decide⟩
theorem lang_says {B : List (List UInt8 × List UInt8)} {pre sp L : List UInt8} (hB : B.length ≤ 1000) (hb : BoundTo B pre sp) (hp : pre ≠ [120, 109, 108]) : Says B B pre sp xmlNs (langA L) (langA L) := by
  have h1 : ∀ a ∈ langA L, a.1 = [120, 109, 108] ∧ saysB a = false := fun a ha => by
    unfold langA at ha
    split at ha
    · simp at ha
    · rw [List.mem_singleton.1 ha]; exact ⟨rfl, rfl⟩
  have h2 : (langA L).length ≤ 1 := by unfold langA; split <;> simp
  refine ⟨by omega, hB, fun i j hi hj hij => by omega, fun a ha e => ?_, ?_, by omega, hb, hp, ⟨[], [], by simp, by simp, by simp⟩, h2, fun a ha => ⟨(h1 a ha).2, ?_, .inl ⟨(h1 a ha).1, rfl⟩⟩⟩
  · rw [(h1 a ha).1] at e; exact absurd e (by decide)
  · unfold langA; split <;> rfl
  · rw [(h1 a ha).1]; decide
theorem cont_text {B : List (List UInt8 × List UInt8)} {T : List UInt8} (d m : Nat) (h : signsB T = true) (R : List UInt8) : ContX d m B (escS T ++ 60 :: 47 :: R) (txN T) m R :=
  .done d m B _ T _ R (esc_txt h _) (.no _ (by simp [List.cons_prefix_cons]) (by simp [List.cons_prefix_cons])) rfl
/-- an element that has a text alone -/
theorem elem_text {B : List (List UInt8 × List UInt8)} {pre nm sp L T : List UInt8} (d m : Nat) (hpr : nameB pre = true) (hnm : nameB nm = true) (hB : B.length ≤ 1000) (hb : BoundTo B pre sp) (hp : pre ≠ [120, 109, 108]) (hL : L.all langB = true) (hT : signsB T = true) (hm : m < 4000) (R : List UInt8) :
    ElemX (d + 1) m B (60 :: (pre ++ 58 :: (nm ++ (langL L ++ 62 :: (escS T ++ 60 :: 47 :: (pre ++ 58 :: (nm ++ 62 :: R))))))) (.el sp nm (langN L) (txN T)) (m + 1) R := by
  obtain ⟨c, R', e, hc⟩ := lang_head L (escS T ++ 60 :: 47 :: (pre ++ 58 :: (nm ++ 62 :: R)))
  have hA := lang_atts hL (escS T ++ 60 :: 47 :: (pre ++ 58 :: (nm ++ 62 :: R)))
  rw [e] at hA ⊢
  exact .open d m (m + 1) B B _ pre nm sp xmlNs (langA L) (langA L) _ (txN T) _ (62 :: R) R hm (.open _ pre nm _ _ _ (full_two hpr hnm hc) hA) (lang_says hB hb hp) (cont_text _ _ hT _) (full_two hpr hnm (by decide)) (by rw [ws_no (by decide)]; rfl)
end Go.Proofs.YtkpikpaepgknnaaGreatDoor

/- A packet's text: its grammar, plain. Properties. No condition. -/
namespace Go.Proofs.YtkpikpaepgknnaaGreatDoor
open Go Go.RowKit Go.Wk Go.Xt Go.Xe Go.Xw
theorem elem_any {B E : List (List UInt8 × List UInt8)} {pre nm sp so : List UInt8} {l o : List (List UInt8 × List UInt8 × List UInt8)} {c : UInt8} {A r1 : List UInt8} {ks : List Nx} {m2 : Nat} {R : List UInt8} (d m : Nat) (hpr : nameB pre = true) (hnm : nameB nm = true) (hc : goesB c = false) (hm : m < 4000) (hA : AttsP (c :: A) l (62 :: r1)) (hS : Says B E pre sp so l o) (hC : ContX (d + 1) (m + 1) E r1 ks m2 (pre ++ 58 :: (nm ++ 62 :: R))) :
    ElemX (d + 1) m B (60 :: (pre ++ 58 :: (nm ++ c :: A))) (.el sp nm (attsX so o) ks) m2 R :=
  .open d m m2 B E _ pre nm sp so l o r1 ks _ (62 :: R) R hm (.open _ pre nm _ _ _ (full_two hpr hnm hc) hA) hS hC (full_two hpr hnm (by decide)) (by rw [ws_no (by decide)]; rfl)
theorem cont_end {B : List (List UInt8 × List UInt8)} (d m : Nat) (R : List UInt8) : ContX d m B (60 :: 47 :: R) [] m R :=
  .done d m B _ [] _ R (.stop 60 _ (.inl rfl)) (.no _ (by simp [List.cons_prefix_cons]) (by simp [List.cons_prefix_cons])) rfl
theorem cont_elem {B : List (List UInt8 × List UInt8)} {d m m1 m2 : Nat} {x : UInt8} {r r2 R : List UInt8} {k : Nx} {ks : List Nx} (hx : beginsB x = true) (h : ElemX d m B (60 :: x :: r) k m1 r2) (hC : ContX (d + 1) m1 B r2 ks m2 R) : ContX (d + 1) m B (60 :: x :: r) (k :: ks) m2 R := by
  have h3 : x ≠ 33 := by rintro rfl; revert hx; decide
  have h4 : x ≠ 63 := by rintro rfl; revert hx; decide
  have h5 : x ≠ 47 := by rintro rfl; revert hx; decide
  have := ContX.elem d m m1 m2 B (60 :: x :: r) [] (60 :: x :: r) r2 k ks R (.stop 60 _ (.inl rfl)) (.no _ (by simp [List.cons_prefix_cons]; intro e; exact absurd e.symm h3) (by simp [List.cons_prefix_cons]; exact fun e => h4 e.symm)) (by simp [List.cons_prefix_cons]; exact fun e => h5 e.symm) h hC
  simpa using this
theorem cont_text_elem {B : List (List UInt8 × List UInt8)} {d m m1 m2 : Nat} {x : UInt8} {o r r2 R : List UInt8} {k : Nx} {ks : List Nx} (ho : o ≠ []) (hT : Txt (-1) (o ++ 60 :: x :: r) o (60 :: x :: r)) (hx : beginsB x = true) (h : ElemX d m B (60 :: x :: r) k m1 r2) (hC : ContX (d + 1) m1 B r2 ks m2 R) : ContX (d + 1) m B (o ++ 60 :: x :: r) (.tx o :: k :: ks) m2 R := by
  have h3 : x ≠ 33 := by rintro rfl; revert hx; decide
  have h4 : x ≠ 63 := by rintro rfl; revert hx; decide
  have h5 : x ≠ 47 := by rintro rfl; revert hx; decide
  have := ContX.elem d m m1 m2 B (o ++ 60 :: x :: r) o (60 :: x :: r) r2 k ks R hT (.no _ (by simp [List.cons_prefix_cons]; intro e; exact absurd e.symm h3) (by simp [List.cons_prefix_cons]; exact fun e => h4 e.symm)) (by simp [List.cons_prefix_cons]; exact fun e => h5 e.symm) h hC
  rw [if_neg ho] at this
  exact this
def liN (e : ByteArray × ByteArray) : Nx := .el rdfL [108, 105] (langN e.1.data.toList) (txN e.2.data.toList)
theorem ent_parts {e : ByteArray × ByteArray} (h : entB e = true) : e.1.data.toList.all langB = true ∧ signsB e.2.data.toList = true := by
  unfold entB at h; rw [Bool.and_eq_true] at h; exact h
theorem items_cont {B : List (List UInt8 × List UInt8)} (hB : B.length ≤ 1000) (hb : BoundTo B [114, 100, 102] rdfL) (d : Nat) (R : List UInt8) : ∀ (it : List (ByteArray × ByteArray)) (m : Nat), (∀ e ∈ it, entB e = true) → m + it.length ≤ 4000 →
    ContX (d + 2) m B (it.flatMap (fun e => markL e liL) ++ 60 :: 47 :: R) (it.map liN) (m + it.length) R
  | [], m, _, _ => cont_end _ _ _
  | e :: it, m, h, hm => by
    obtain ⟨h1, h2⟩ := ent_parts (h e (List.mem_cons_self ..))
    have ih := items_cont hB hb d R it (m + 1) (fun x hx => h x (List.mem_cons_of_mem _ hx)) (by simp at hm; omega)
    have h3 := elem_text (pre := [114, 100, 102]) (nm := [108, 105]) (sp := rdfL) d m (by decide) (by decide) hB hb (by decide) h1 h2 (by simp at hm; omega) (it.flatMap (fun e => markL e liL) ++ 60 :: 47 :: R)
    have h4 := cont_elem (by decide) h3 ih
    have e1 : m + 1 + it.length = m + (e :: it).length := by simp; omega
    rw [e1] at h4
    have e2 : (e :: it).flatMap (fun e => markL e liL) ++ 60 :: 47 :: R = 60 :: ([114, 100, 102] ++ 58 :: ([108, 105] ++ (langL e.1.data.toList ++ 62 :: (escS e.2.data.toList ++ 60 :: 47 :: ([114, 100, 102] ++ 58 :: ([108, 105] ++ 62 :: (it.flatMap (fun e => markL e liL) ++ 60 :: 47 :: R))))))) := by
      rw [List.flatMap_cons]; unfold markL liL; simp
    rw [e2]
    exact h4
end Go.Proofs.YtkpikpaepgknnaaGreatDoor

/- Own bytes, and what is appended to them. No condition. -/
namespace Go.Proofs.YtkpikpaepgknnaaGreatDoor
open Go Go.RowKit Go.Wk Go.Xt Go.Xe Go.Xw
/-- own bytes: a row that nobody else names -/
structure Own (B : Nat) (w : World) (v : Value) (bs : List UInt8) : Prop where
  row : w.ownsRow B 5 1 v bs.length (valsB bs)
theorem Own.nil (B : Nat) (w : World) : Own B w (.slice none 0 0) [] := ⟨World.ownsRow_nil _ _ _ _⟩
theorem Own.outc {B : Nat} {w : World} {v : Value} {bs : List UInt8} (h : Own B w v bs) (hm : bs.length ≤ maxLen) : ∃ A c, v = .slice A bs.length c ∧ Byt w A bs ∧ bs.length ≤ c ∧ c ≤ maxLen := by
  obtain ⟨A, c, rfl, hb⟩ := own_byt h.row
  refine ⟨A, c, rfl, hb hm, ?_⟩
  rcases h.row.2 with ⟨e, h0⟩ | ⟨g, cap, cur, e, _, _, h1, h2, _⟩
  · injection e with _ _ e
    exact ⟨by omega, by rw [e]; exact Nat.zero_le _⟩
  · injection e with _ _ e
    subst e
    exact ⟨h1, h2⟩
theorem Own.out {B : Nat} {w : World} {v : Value} {bs : List UInt8} (h : Own B w v bs) (hm : bs.length ≤ maxLen) : ∃ A c, v = .slice A bs.length c ∧ Byt w A bs ∧ (A = none → c = 0) := by
  obtain ⟨A, c, rfl, hb⟩ := own_byt h.row
  refine ⟨A, c, rfl, hb hm, ?_⟩
  rintro rfl
  rcases h.row.2 with ⟨e, _⟩ | ⟨g, cap, cur, e, _⟩
  · injection e
  · injection e with e; cases e
theorem Own.base {B B' : Nat} {w : World} {v : Value} {bs : List UInt8} (h : Own B' w v bs) (hB : B ≤ B') : Own B w v bs := by
  refine ⟨h.row.1, ?_⟩
  rcases h.row.2 with h2 | ⟨g, cap, cur, e, hB', rest⟩
  · exact .inl h2
  · exact .inr ⟨g, cap, cur, e, Nat.le_trans hB hB', rest⟩
theorem Own.below {B : Nat} {w w' : World} {v : Value} {bs : List UInt8} (h : Own B w v bs) (hb : Below w.heap.size w w') : Own B w' v bs := by
  refine ⟨h.row.1, ?_⟩
  rcases h.row.2 with h2 | ⟨g, cap, cur, e, hB, hh, rest⟩
  · exact .inl h2
  · exact .inr ⟨g, cap, cur, e, hB, (hb.block g (Array.getElem?_eq_some_iff.1 hh).1).trans hh, rest⟩
/-- a result: bytes -/
def RB (w : World) (bs : List UInt8) (e : Ending) (w' : World) : Prop := ∃ A c, e = .returned (.slice A bs.length c) ∧ Byt w' A bs ∧ (A = none → c = 0) ∧ Below w.heap.size w w'
def RO (w : World) (bs : List UInt8) (e : Ending) (w' : World) : Prop := ∃ v, e = .returned v ∧ Own w.heap.size w' v bs ∧ Below w.heap.size w w'
theorem RO.rb {w w' : World} {bs : List UInt8} {e : Ending} (h : RO w bs e w') (hm : bs.length ≤ maxLen) : RB w bs e w' := by
  obtain ⟨v, rfl, h1, h2⟩ := h
  obtain ⟨A, c, rfl, h3, h4⟩ := h1.out hm
  exact ⟨A, c, rfl, h3, h4, h2⟩
/-- bytes behind own bytes -/
theorem app_b {w : World} {ops : Array Oper} {rest : List Oper} {o : Oper} {a : Act} {Q : Exit → Act → World → Prop} (hgd : o.guard = none) (s x : Operand)
    (ho : o.op = .call { callee := .builtin .append, args := #[s, x], argTypes := #[25, 25] }) (B : Nat) (v : Value) (out : List UInt8) (hs : a.eval s = v) (hown : Own B w v out)
    (A : Option Addr) (n c : Nat) (bs : List UInt8) (hx : a.eval x = .slice A n c) (hn : n = bs.length) (hb : Byt w A bs) (hA : A = none → c = 0) (hl : out.length + bs.length ≤ 70368744177664) (hB : B ≤ w.heap.size)
    (h : ∀ v' w', Own B w' v' (out ++ bs) → Below B w w' → wpList Tryz.prog ops Q rest (a.put o.dst v') w') : wpList Tryz.prog ops Q (o :: rest) a w := by
  obtain ⟨i0, hi, hz0, hz1, hz2⟩ := byte_info
  cases A with
  | none =>
    have hbs : bs = [] := by
      cases bs with
      | nil => rfl
      | cons y l => obtain ⟨b, o, e, _⟩ := hb.2 (by simp); cases e
    subst hbs
    have hc := hA rfl
    subst hc
    obtain rfl : n = 0 := hn
    refine wpList_append_own_none hgd s x 25 ho B 5 i0 1 Tryz.underlying25 hi v out.length (valsB out) hs hown.row hx ?_
    exact h v w (by rw [List.append_nil]; exact hown) (Below.refl _ _ |>.mono hB)
  | some ad =>
    refine wpList_append_own_at w hgd s x 25 ho B 5 i0 (.int .u8 0) 1 1 Tryz.underlying25 hi hz0 hz1 hz2 rfl (by decide) v out.length (valsB out) hs hown.row ad n c (valsB bs) hx (by rw [valsB_len, hn, Nat.mul_one]) hb.news (valsB_one bs) (by unfold maxLen; omega) (by omega) hB ?_
    intro v' w' h1 h2 _ h3
    refine h v' w' ⟨?_⟩ ((Below.refl _ _ |>.mono hB).grown h2 hB fun k hk => (hown.row.lt k hk).1)
    rw [List.length_append, valsB_app, ← hn]
    exact h1
/-- a text behind own bytes -/
theorem app_s {w : World} {ops : Array Oper} {rest : List Oper} {o : Oper} {a : Act} {Q : Exit → Act → World → Prop} (hgd : o.guard = none) (s x : Operand)
    (ho : o.op = .call { callee := .builtin .append, args := #[s, x], argTypes := #[25, 9] }) (B : Nat) (v : Value) (out : List UInt8) (hs : a.eval s = v) (hown : Own B w v out)
    (S : ByteArray) (bs : List UInt8) (hx : a.eval x = .string S) (hS : S.data.toList = bs) (hl : out.length + bs.length ≤ 70368744177664) (hB : B ≤ w.heap.size)
    (h : ∀ v' w', Own B w' v' (out ++ bs) → Below B w w' → wpList Tryz.prog ops Q rest (a.put o.dst v') w') : wpList Tryz.prog ops Q (o :: rest) a w := by
  obtain ⟨i0, hi, hz0, hz1, hz2⟩ := byte_info
  subst hS
  have hlen : S.data.toList.length = S.size := Array.length_toList
  refine Lib.wpList_append_own_string w hgd s x 25 9 ho B 5 i0 Tryz.underlying25 Tryz.underlying9 hi hz0 hz1 hz2 v out.length (valsB out) hs hown.row S hx (by unfold maxLen; omega) (by omega) hB ?_
  intro v' w' h1 h2 h3
  refine h v' w' ⟨?_⟩ ((Below.refl _ _ |>.mono hB).grown h2 hB fun k hk => (hown.row.lt k hk).1)
  have e : Lib.strCells S = valsB S.data.toList := rfl
  rw [List.length_append, valsB_app, hlen, ← e]
  exact h1
/-- bytes of one's own: a row, or a constant's row, which is full -/
def OwnX (B : Nat) (w : World) (v : Value) (bs : List UInt8) : Prop := Own B w v bs ∨ ∃ g, v = .slice (some ⟨g, 0, none⟩) bs.length bs.length ∧ g < w.heap.size ∧ Byt w (some ⟨g, 0, none⟩) bs
theorem OwnX.below {B : Nat} {w w' : World} {v : Value} {bs : List UInt8} (h : OwnX B w v bs) (hb : Below w.heap.size w w') : OwnX B w' v bs := by
  rcases h with h | ⟨g, h1, h2, h3⟩
  · exact .inl (h.below hb)
  · exact .inr ⟨g, h1, Nat.lt_of_lt_of_le h2 hb.size, h3.below hb⟩
theorem app_x {w : World} {ops : Array Oper} {rest : List Oper} {o : Oper} {a : Act} {Q : Exit → Act → World → Prop} (hgd : o.guard = none) (s x : Operand)
    (ho : o.op = .call { callee := .builtin .append, args := #[s, x], argTypes := #[25, 25] }) (B : Nat) (v : Value) (out : List UInt8) (hs : a.eval s = v) (hown : OwnX B w v out)
    (A : Option Addr) (n c : Nat) (bs : List UInt8) (hx : a.eval x = .slice A n c) (hn : n = bs.length) (hp : 0 < bs.length) (hb : Byt w A bs) (hA : A = none → c = 0) (hl : out.length + bs.length ≤ 70368744177664) (hB : B ≤ w.heap.size)
    (h : ∀ v' w', Own B w' v' (out ++ bs) → Below B w w' → wpList Tryz.prog ops Q rest (a.put o.dst v') w') : wpList Tryz.prog ops Q (o :: rest) a w := by
  rcases hown with hown | ⟨g, hv, hg, hby⟩
  · exact app_b hgd s x ho B v out hs hown A n c bs hx hn hb hA hl hB h
  obtain ⟨i0, hi, hz0, hz1, hz2⟩ := byte_info
  subst hv
  obtain ⟨b, off, rfl, _⟩ := hb.2 hp
  refine wpList_plain hgd fun K hK => ?_
  have hr := run_append_grow (P := Tryz.prog) w 25 o.type 5 i0 (.int .u8 0) Tryz.underlying25 hi hz0 ⟨g, 0, none⟩ out.length out.length (valsB out) (by rw [hz1, valsB_len, Nat.mul_one]) hby.news ⟨b, off, none⟩ n c (valsB bs) (by rw [valsB_len, hz1, hn, Nat.mul_one]) hb.news (by omega) (by omega) (growslice_fits (by omega) (by rw [hz2]; omega))
  unfold Oper.wp execOp
  simp only [ho, resolve, invoke, builtin, Sem.run_bind, Sem.run_pure, Result.andThen_ok, List.map_toArray, List.map_cons, List.map_nil, hs, hx, hr]
  have hge := grownCap_ge w (out.length + n) out.length 5
  refine hK _ _ (h _ _ ⟨?_, .inr ⟨w.heap.size, grownCap w (out.length + n) out.length 5, ((valsB out).toArray ++ (valsB bs).toArray ++ Builtin.zeroCells (Value.int IntKind.u8 0).cells (grownCap w (out.length + n) out.length 5 - (out.length + n))), ?_, hB, heap_alloc_new w.drew _, ?_, grownCap_le_maxLen w _ _ _ (by unfold maxLen; omega), ?_, ?_⟩⟩ ((Below.refl _ _ |>.mono hB).drew.alloc hB _))
  · rw [valsB_len, Nat.mul_one]
  · rw [List.length_append, ← hn]
  · rw [List.length_append, ← hn]; exact hge
  · have hz : (Value.int IntKind.u8 0).cells.size = 1 := rfl
    simp only [Array.size_append, List.size_toArray, size_zeroCells, hz, valsB_len]
    omega
  · simp only [Array.toList_append, List.append_assoc]
    rw [← List.append_assoc, valsB_app, List.take_left' (by simp [valsB_len])]
theorem app_xs {w : World} {ops : Array Oper} {rest : List Oper} {o : Oper} {a : Act} {Q : Exit → Act → World → Prop} (hgd : o.guard = none) (s x : Operand)
    (ho : o.op = .call { callee := .builtin .append, args := #[s, x], argTypes := #[25, 9] }) (B : Nat) (v : Value) (out : List UInt8) (hs : a.eval s = v) (hown : OwnX B w v out)
    (S : ByteArray) (bs : List UInt8) (hx : a.eval x = .string S) (hS : S.data.toList = bs) (hp : 0 < bs.length) (hl : out.length + bs.length ≤ 70368744177664) (hB : B ≤ w.heap.size)
    (h : ∀ v' w', Own B w' v' (out ++ bs) → Below B w w' → wpList Tryz.prog ops Q rest (a.put o.dst v') w') : wpList Tryz.prog ops Q (o :: rest) a w := by
  rcases hown with hown | ⟨g, hv, hg, hby⟩
  · exact app_s hgd s x ho B v out hs hown S bs hx hS hl hB h
  obtain ⟨i0, hi, hz0, hz1, hz2⟩ := byte_info
  subst hv hS
  have hlen : S.data.toList.length = S.size := Array.length_toList
  refine wpList_plain hgd fun K hK => ?_
  have hr := Lib.run_append_grow_string (P := Tryz.prog) w 25 9 o.type 5 i0 (.int .u8 0) Tryz.underlying25 Tryz.underlying9 hi hz0 ⟨g, 0, none⟩ out.length out.length (valsB out) (by rw [hz1, valsB_len, Nat.mul_one]) hby.news S (by omega) (by omega) (growslice_fits (by omega) (by rw [hz2]; omega))
  unfold Oper.wp execOp
  simp only [ho, resolve, invoke, builtin, Sem.run_bind, Sem.run_pure, Result.andThen_ok, List.map_toArray, List.map_cons, List.map_nil, hs, hx, hr]
  have hge := grownCap_ge w (out.length + S.size) out.length 5
  have e : Lib.strCells S = valsB S.data.toList := rfl
  rw [e]
  refine hK _ _ (h _ _ ⟨?_, .inr ⟨w.heap.size, grownCap w (out.length + S.size) out.length 5, ((valsB out).toArray ++ (valsB S.data.toList).toArray ++ Builtin.zeroCells (Value.int IntKind.u8 0).cells (grownCap w (out.length + S.size) out.length 5 - (out.length + S.size))), ?_, hB, heap_alloc_new w.drew _, ?_, grownCap_le_maxLen w _ _ _ (by unfold maxLen; omega), ?_, ?_⟩⟩ ((Below.refl _ _ |>.mono hB).drew.alloc hB _))
  · rw [valsB_len, Nat.mul_one]
  · rw [List.length_append, hlen]
  · rw [List.length_append, hlen]; exact hge
  · have hz : (Value.int IntKind.u8 0).cells.size = 1 := rfl
    simp only [Array.size_append, List.size_toArray, size_zeroCells, hz, valsB_len]
    omega
  · simp only [Array.toList_append, List.append_assoc]
    rw [← List.append_assoc, valsB_app, List.take_left' (by simp [valsB_len])]
theorem conv_const (w : World) (C : Array Value) (n c : Nat) : (convert 25 25 (.slice (some ⟨w.heap.size, 0, none⟩) n c)).run Tryz.prog (w.alloc (.cells C 5)) = .ok (.slice (some ⟨w.heap.size, 0, none⟩) n c) (w.alloc (.cells C 5 (C.size, C.size + 1))) :=
  Lib.run_convert_bytes_const w 25 5 C n c Tryz.underlying25 Tryz.underlying5
theorem byt_mark (w : World) (l : List UInt8) (C : Array Value) (m : Nat × Nat) (hC : C = (valsB l).toArray) (hl : l.length ≤ maxLen) : Byt (w.alloc (.cells C 5 m)) (some ⟨w.heap.size, 0, none⟩) l := by
  subst hC
  refine ⟨hl, fun _ => ⟨_, 0, rfl, fun i hi => ?_⟩⟩
  have : (w.alloc (.cells (valsB l).toArray 5 m)).cell? ⟨w.heap.size, 0 + i, none⟩ = (valsB l)[i]? := by
    rw [Nat.zero_add, Lib.cell_of_heap (heap_alloc_new w (.cells (valsB l).toArray 5 m))]; simp
  rw [this]
  simp [valsB, hi]
theorem below_mark (w : World) (C : Array Value) (m : Nat × Nat) : Below w.heap.size w (w.alloc (.cells C 5 m)) := (Below.refl _ _).alloc (Nat.le_refl _) _
end Go.Proofs.YtkpikpaepgknnaaGreatDoor

/- A constant's bytes, however many. No condition. -/
namespace Go.Proofs.YtkpikpaepgknnaaGreatDoor
open Go Go.RowKit Go.Wk Go.Xt Go.Xe Go.Xw
theorem run_bytes_row (n : Nat) (parts : Array (Nat × Value)) (C : Array Value) (w : World) (hn0 : 0 < n) (hn : n ≤ 16777216)
    (hf : Instr.fill (fun i => some (i, 1)) (Array.map (fun x => (Value.int .u8 0).cells[x % (Value.int .u8 0).cells.size]!) (Array.range n)) parts.toList = some C) :
    (Instr.buildSlice 25 n parts).run Tryz.prog w = .ok (.slice (some ⟨w.heap.size, 0, none⟩) n n) (w.alloc (.cells C 5)) := by
  have h1 : ¬ 16777216 < n := by omega
  have h2 : n ≠ 0 := by omega
  unfold Instr.buildSlice
  simp [Sem.run_bind, run_underlying Tryz.underlying25, Sem.run_pure]
  rw [if_neg h1, if_neg h2, hf]
  simp [newRow]
theorem wpList_bytes_row {w : World} {ops : Array Oper} {rest : List Oper} {o : Oper} {a : Act} {Q : Exit → Act → World → Prop} (hgd : o.guard = none) (n : Nat) (parts : Array (Nat × Operand)) (ho : o.op = .buildSlice 25 n parts)
    (C : Array Value) (hn0 : 0 < n) (hn : n ≤ 16777216)
    (hf : Instr.fill (fun i => some (i, 1)) (Array.map (fun x => (Value.int .u8 0).cells[x % (Value.int .u8 0).cells.size]!) (Array.range n)) (parts.map fun (i, x) => (i, a.eval x)).toList = some C)
    (h : wpList Tryz.prog ops Q rest (a.put o.dst (.slice (some ⟨w.heap.size, 0, none⟩) n n)) (w.alloc (.cells C 5))) : wpList Tryz.prog ops Q (o :: rest) a w := by
  refine wpList_plain hgd fun K hK => ?_
  have hr := run_bytes_row n _ C w hn0 hn hf
  unfold Oper.wp execOp
  simp only [ho, Sem.run_bind, Sem.run_pure, hr, Result.andThen_ok]
  exact hK _ _ h
end Go.Proofs.YtkpikpaepgknnaaGreatDoor

/- What is written: a packet. No condition. -/
namespace Go.Proofs.YtkpikpaepgknnaaGreatDoor
open Go Go.RowKit Go.Wk Go.Xt Go.Xe Go.Xw
/-- all of them put in order, or none if one may not be -/
def addAll : List Pr → List Pr → Option (List Pr)
  | acc, [] => some acc
  | acc, p :: ps => if mayB p = true then (match addP acc p with | none => none | some l => addAll l ps) else none
theorem addAll_cons (acc : List Pr) (p : Pr) (ps : List Pr) : addAll acc (p :: ps) = if mayB p = true then (match addP acc p with | none => none | some l => addAll l ps) else none := rfl
def hdrL : Xe.Bs := [60, 63, 120, 112, 97, 99, 107, 101, 116, 32, 98, 101, 103, 105, 110, 61, 34, 34, 32, 105, 100, 61, 34, 87, 53, 77, 48, 77, 112, 67, 101, 104, 105, 72, 122, 114, 101, 83, 122, 78, 84, 99, 122, 107, 99, 57, 100, 34, 63, 62, 10, 60, 120, 58, 120, 109, 112, 109, 101, 116, 97, 32, 120, 109, 108, 110, 115, 58, 120, 61, 34, 97, 100, 111, 98, 101, 58, 110, 115, 58, 109, 101, 116, 97, 47, 34, 62, 60, 114, 100, 102, 58, 82, 68, 70, 32, 120, 109, 108, 110, 115, 58, 114, 100, 102, 61, 34, 104, 116, 116, 112, 58, 47, 47, 119, 119, 119, 46, 119, 51, 46, 111, 114, 103, 47, 49, 57, 57, 57, 47, 48, 50, 47, 50, 50, 45, 114, 100, 102, 45, 115, 121, 110, 116, 97, 120, 45, 110, 115, 35, 34, 62, 10]
def D1 : ByteArray := ⟨#[60, 114, 100, 102, 58, 68, 101, 115, 99, 114, 105, 112, 116, 105, 111, 110, 32, 114, 100, 102, 58, 97, 98, 111, 117, 116, 61, 34, 34, 32, 120, 109, 108, 110, 115, 58, 112, 61, 34]⟩
def D2 : ByteArray := ⟨#[60, 47, 114, 100, 102, 58, 68, 101, 115, 99, 114, 105, 112, 116, 105, 111, 110, 62, 10]⟩
def TL : ByteArray := ⟨#[60, 47, 114, 100, 102, 58, 82, 68, 70, 62, 60, 47, 120, 58, 120, 109, 112, 109, 101, 116, 97, 62, 10, 60, 63, 120, 112, 97, 99, 107, 101, 116, 32, 101, 110, 100, 61, 34, 119, 34, 63, 62]⟩
def descL (p : Pr) : Xe.Bs := D1.data.toList ++ p.sp.data.toList ++ [34, 62] ++ bodyL p ++ D2.data.toList
def packetL (l : List Pr) : Xe.Bs := hdrL ++ l.flatMap descL ++ TL.data.toList
/-- what is known of a property in memory -/
def GoodP (w : World) (x : PA) : Prop := EnsAt w x.2.1 x.1.it ∧ x.1.it.length ≤ x.2.2 ∧ Xw.Small x.1
theorem GoodP.below {w w' : World} {x : PA} (h : GoodP w x) (hb : Below w.heap.size w w') : GoodP w' x := ⟨h.1.below hb, h.2⟩
theorem mem_ins {l : List PA} {x y : PA} {n : Nat} (h : y ∈ l.take n ++ x :: l.drop n) : y = x ∨ y ∈ l := by
  rcases List.mem_append.1 h with h | h
  · exact .inr (List.mem_of_mem_take h)
  · rcases List.mem_cons.1 h with h | h
    · exact .inl h
    · exact .inr (List.mem_of_mem_drop h)
theorem pl_ins (l : List PA) (x : PA) (n : Nat) : pl (l.take n ++ x :: l.drop n) = (pl l).take n ++ x.1 :: (pl l).drop n := by
  unfold pl; rw [List.map_append, List.map_cons, List.map_take, List.map_drop]
theorem may_kind {p : Pr} (h : mayB p = true) : kindB p.kd p.it.length = true := by
  unfold mayB at h
  simp only [Bool.and_eq_true] at h
  exact h.2.1
def GW (p : Pr) (b : Nat) (ax : Array Value) : Nat → Value → World → Prop := fun j v _ => match j with
  | 1 => v = .pointer (some ⟨b, 0, none⟩)
  | 2 => v = .string p.sp
  | 3 => v = .string (D1 ++ p.sp)
  | 4 => v = .string (D1 ++ p.sp ++ ⟨#[34, 62]⟩)
  | 5 => v = .agg ax
  | 6 => ∃ R, v = .string R ∧ R.data.toList = bodyL p ∧ R.size ≤ 100000
  | _ => ∃ R, v = .string (D1 ++ p.sp ++ ⟨#[34, 62]⟩ ++ R) ∧ R.data.toList = bodyL p ∧ R.size ≤ 100000
theorem GW_mono {p : Pr} {b : Nat} {ax : Array Value} (j : Nat) (v : Value) (w w' : World) (hG : GW p b ax j v w) (hk : Below w.heap.size w w') : GW p b ax j v w' := by
  unfold GW at hG ⊢; exact hG
def FW (p : Pr) (w : World) (v : Value) (w' : World) : Prop := ∃ S, v = .string S ∧ S.data.toList = descL p ∧ S.size ≤ 101000 ∧ Below w.heap.size w w'
def GUW (v : Value) : Nat → Value → Prop := fun _ u => u = v
def UW (i : Nat) : Bool := i == 0
/-- what is answered -/
def Wrote (r : Option (List Pr)) (e : Ending) (w : World) : Prop := match r with
  | none => e = .returned (.tuple #[.slice none 0 0, .int .i64 1])
  | some l => ∃ A c, e = .returned (.tuple #[.slice A (packetL l).length c, .int .i64 0]) ∧ Byt w A (packetL l)
def WroteC (r : Option (List Pr)) (e : Ending) (w : World) : Prop := match r with
  | none => e = .returned (.tuple #[.slice none 0 0, .int .i64 1])
  | some l => ∃ A c, e = .returned (.tuple #[.slice A (packetL l).length c, .int .i64 0]) ∧ Byt w A (packetL l) ∧ (packetL l).length ≤ c ∧ c ≤ maxLen ∧ (packetL l).length ≤ 10000000
set_option maxHeartbeats 16000000 in
set_option maxRecDepth 100000 in
theorem xmp_Write {w : World} (A : Option Addr) (g c : Nat) (ps : List PA) (hA : 0 < ps.length → A = some ⟨g, 0, none⟩) (hn : ps.length ≤ 20) (hcp : ps.length ≤ c) (hc : CellsP w g ps) (hg : ∀ x ∈ ps, GoodP w x) (hT : Lib.Utf8Tabs 0 1 w) (h2 : 2 ≤ w.heap.size) :
    Calls Tryz.prog 10 #[.slice A ps.length c] w fun e w' => Below w.heap.size w w' ∧ WroteC (addAll [] (pl ps)) e w' := by
  obtain ⟨W1, hW1⟩ : ∃ W, W = w.alloc (.cells #[.slice none 0 0] 59) := ⟨_, rfl⟩
  have hb1 : Below w.heap.size w W1 := by rw [hW1]; exact (Below.refl _ _).alloc (Nat.le_refl _) _
  have hL1 : ListAt W1 w.heap.size (w.heap.size + 1) [] := ⟨⟨_, by rw [hW1]; exact Blk.new w 59 _, World.ownsRow_nil _ _ _ _⟩, by omega, by rw [hW1, World.size_alloc]; omega, List.Pairwise.nil⟩
  obtain ⟨n, hnn⟩ : ∃ n, n = ps.length := ⟨_, rfl⟩
  obtain ⟨RES, hRES⟩ : ∃ r, r = addAll [] (pl ps) := ⟨_, rfl⟩
  rw [← hnn, ← hRES]
  rw [← hnn] at hn hcp hA
  have hc1 := hc
  have gd := fun x hx W (hW : Below w.heap.size w W) => (hg x hx).below hW
  have tabs := fun W (hW : Below w.heap.size w W) => tabs_below hT h2 hW
  have siz := fun W (hW : Below w.heap.size w W) => Nat.le_trans h2 hW.size
  replace gd := Lib.hid gd
  replace tabs := Lib.hid tabs
  replace siz := Lib.hid siz
  replace hb1 := Lib.hid hb1
  replace hL1 := Lib.hid hL1
  replace hc1 := Lib.hid hc1
  replace hnn := Lib.hid hnn
  replace hA := Lib.hid hA
  replace hRES := Lib.hid hRES
  clear hc hg hT h2
  go_enter Tryz.func10, Tryz.ntmps10
  go_upto_region 2 with (fail)
  rw [← hW1]
  replace hW1 := Lib.hid hW1
  go_wp2
  go_loopw [12] (fun s12 wr => ∃ (k : Nat) (l : List PA), k ≤ n ∧ s12 = .int .i64 k ∧ l.length = k ∧ ListAt wr w.heap.size (w.heap.size + 1) l ∧ (∀ x ∈ l, GoodP w x ∧ mayB x.1 = true) ∧ RES = addAll (pl l) (pl (ps.drop k)) ∧ Below w.heap.size w wr) (fun s12 _ => n - (RowKit.intOf s12).toNat)
  case atStart => exact ⟨0, [], Nat.zero_le _, rfl, rfl, hL1.out, fun x hx => by simp at hx, hRES.out, hb1.out⟩
  case round =>
    obtain ⟨k, l, hk, rfl, hlk, hL, hgl, hres, hB⟩ := hrel
    by_cases hkn : k < n
    · have hkl : k < ps.length := by rw [← hnn.out]; exact hkn
      have hAe := hA.out (by omega)
      subst hAe
      obtain ⟨x0, x1, x2, x3⟩ := hc1.out.below hB k hkl
      have hxm := List.getElem_mem hkl
      have hd : pl (ps.drop k) = ps[k].1 :: pl (ps.drop (k + 1)) := by rw [List.drop_eq_getElem_cons hkl]; rfl
      rw [hd] at hres
      clear hd
      generalize ps[k] = x at x0 x1 x2 x3 hxm hres
      obtain ⟨WX, hWX⟩ : ∃ W, W = wr.alloc (.cells #[.string x.1.sp, .string x.1.nm, .int .i64 x.1.kd, .slice x.2.1 x.1.it.length x.2.2] 38) := ⟨_, rfl⟩
      have hbX : Below wr.heap.size wr WX := by rw [hWX]; exact (Below.refl _ _).alloc (Nat.le_refl _) _
      have hBX := bthen hB hbX
      obtain ⟨g1, g2, g3⟩ := gd.out x hxm WX hBX
      have gx := gd.out x hxm w (Below.refl _ _)
      have c25 := xmp_may (w := WX) x.1 x.2.1 x.2.2 g1 g3 (tabs.out WX hBX) (siz.out WX hBX)
      have hRX : Blk WX wr.heap.size 38 #[.string x.1.sp, .string x.1.nm, .int .i64 x.1.kd, .slice x.2.1 x.1.it.length x.2.2] := by rw [hWX]; exact Blk.new wr 38 _
      have kp := fun W (hW : Below WX.heap.size WX W) => blk4 (hRX.below hW hRX.lt)
      obtain ⟨y0, y1, y2, y3⟩ := blk4 hRX
      have c26 := fun W (hW : Below WX.heap.size WX W) => xmp_add (w := W) w.heap.size (w.heap.size + 1) l (hL.below (bthen hbX hW)) (by omega) x
      unfold prV at c26
      obtain ⟨PN, hPN⟩ : ∃ P, P = posP x.1 (pl l) := ⟨_, rfl⟩
      have hins : ∀ l', addP (pl l) x.1 = some l' → l' = pl (l.take PN ++ x :: l.drop PN) := fun l' h => by
        rw [pl_ins, hPN]
        unfold addP at h
        split at h
        · cases h
        · injection h with h; rw [← h]; rfl
      rw [← hPN] at c26
      have hlen : (l.take PN ++ x :: l.drop PN).length = k + 1 := by
        have h1 : PN ≤ l.length := by rw [hPN, ← pl_len l]; exact pos_le _ _
        rw [List.length_append, List.length_cons, List.length_take, List.length_drop]; omega
      have hres2 : mayB x.1 = false → RES = none := fun h => by rw [hres, addAll_cons, h]; rfl
      have hres3 : mayB x.1 = true → addP (pl l) x.1 = none → RES = none := fun h h' => by rw [hres, addAll_cons, h, h']; rfl
      have hres4 : mayB x.1 = true → ∀ l', addP (pl l) x.1 = some l' → RES = addAll l' (pl (ps.drop (k + 1))) := fun h l' h' => by rw [hres, addAll_cons, h, h']; rfl
      replace hres2 := Lib.hid hres2
      replace hres3 := Lib.hid hres3
      replace hres4 := Lib.hid hres4
      replace hlen := Lib.hid hlen
      replace hins := Lib.hid hins
      replace hPN := Lib.hid hPN
      replace kp := Lib.hid kp
      replace c25 := Lib.hid c25
      replace c26 := Lib.hid c26
      replace hbX := Lib.hid hbX
      replace hBX := Lib.hid hBX
      replace hB := Lib.hid hB
      replace hgl := Lib.hid hgl
      replace gx := Lib.hid gx
      replace hlk := Lib.hid hlk
      clear hL hres hxm g1 g2 g3 hRX
      go_upto_region 5 with (fail)
      rw [← hWX]
      replace hWX := Lib.hid hWX
      cases hm : mayB x.1 with
      | false =>
        have hr := hres2.out hm
        rw [hm] at c25
        clear hm
        replace hr := Lib.hid hr
        go_wp2_with (go_at_call 25; (with_reducible refine c25.out.mono ?_); rintro e' w2 ⟨rfl, hb2⟩; replace hb2 := Lib.hid hb2)
        go_ret2
        refine ⟨hBX.out.trans (hb2.out.mono hBX.out.size), ?_⟩
        rw [hr.out]; rfl
      | true =>
        cases ha : addP (pl l) x.1 with
        | none =>
          have hr := hres3.out hm ha
          rw [hm] at c25
          rw [ha] at c26
          clear hm ha
          replace hr := Lib.hid hr
          go_wp2_with (first
            | (go_at_call 25; (with_reducible refine c25.out.mono ?_); rintro e' w2 ⟨rfl, hb2⟩; obtain ⟨z0, z1, z2, z3⟩ := kp.out w2 hb2; have c26' := c26.out w2 hb2; replace c26' := Lib.hid c26'; replace hb2 := Lib.hid hb2)
            | (go_at_call 26; (with_reducible refine c26'.out.mono ?_); rintro e' w3 ⟨rfl, hb3, -⟩; replace hb3 := Lib.hid hb3))
          go_ret2
          refine ⟨(bthen hBX.out hb2.out).trans (hb3.out.mono (by omega)), ?_⟩
          rw [hr.out]; rfl
        | some l' =>
          have hr := hres4.out hm l' ha
          rw [hins.out l' ha] at hr
          rw [hm] at c25
          rw [ha] at c26
          replace hr := Lib.hid hr
          replace hm := Lib.hid hm
          clear ha
          go_wp2_with (first
            | (go_at_call 25; (with_reducible refine c25.out.mono ?_); rintro e' w2 ⟨rfl, hb2⟩; obtain ⟨z0, z1, z2, z3⟩ := kp.out w2 hb2; have c26' := c26.out w2 hb2; replace c26' := Lib.hid c26'; replace hb2 := Lib.hid hb2)
            | (go_at_call 26; (with_reducible refine c26'.out.mono ?_); rintro e' w3 ⟨rfl, hb3, hl3, -⟩; replace hb3 := Lib.hid hb3; replace hl3 := Lib.hid hl3))
          go_roundw
          case rel => exact ⟨k + 1, _, by omega, by go_num, hlen.out, hl3.out rfl, fun y hy => (mem_ins hy).elim (fun h => by rw [h]; exact ⟨gx.out, hm.out⟩) (fun h => hgl.out y h), hr.out, (bthen hBX.out hb2.out).trans (hb3.out.mono (by omega))⟩
          case measure => simp [RowKit.intOf]; omega
    · obtain rfl : k = n := by omega
      have hd : ps.drop k = [] := List.drop_eq_nil_of_le (by have := hnn.out; omega)
      rw [hd] at hres
      have hR9 : RES = some (pl l) := hres
      clear hres hd
      obtain ⟨WX, hWX⟩ : ∃ W, W = wr.alloc (.cells (valsB hdrL).toArray 5 (153, 154)) := ⟨_, rfl⟩
      have cc := conv_const wr (valsB hdrL).toArray 153 153
      have hW2 : Below wr.heap.size wr WX := by rw [hWX]; exact below_mark _ _ _
      have hX0 : OwnX WX.heap.size WX (.slice (some ⟨wr.heap.size, 0, none⟩) 153 153) hdrL := .inr ⟨_, rfl, by rw [hWX, World.size_alloc]; omega, by rw [hWX]; exact byt_mark wr hdrL _ _ rfl (by decide)⟩
      obtain ⟨CB, hCB⟩ : ∃ C, C = (valsB hdrL).toArray := ⟨_, rfl⟩
      have hCs : CB.size = 153 := by rw [hCB]; rfl
      rw [← hCB, hCs] at cc
      rw [← hCB] at hWX
      rw [← hWX] at cc
      have hcB : (#[.int .u8 60, .int .u8 63, .int .u8 120, .int .u8 112, .int .u8 97, .int .u8 99, .int .u8 107, .int .u8 101, .int .u8 116, .int .u8 32, .int .u8 98, .int .u8 101, .int .u8 103, .int .u8 105, .int .u8 110, .int .u8 61, .int .u8 34, .int .u8 34, .int .u8 32, .int .u8 105, .int .u8 100, .int .u8 61, .int .u8 34, .int .u8 87, .int .u8 53, .int .u8 77, .int .u8 48, .int .u8 77, .int .u8 112, .int .u8 67, .int .u8 101, .int .u8 104, .int .u8 105, .int .u8 72, .int .u8 122, .int .u8 114, .int .u8 101, .int .u8 83, .int .u8 122, .int .u8 78, .int .u8 84, .int .u8 99, .int .u8 122, .int .u8 107, .int .u8 99, .int .u8 57, .int .u8 100, .int .u8 34, .int .u8 63, .int .u8 62, .int .u8 10, .int .u8 60, .int .u8 120, .int .u8 58, .int .u8 120, .int .u8 109, .int .u8 112, .int .u8 109, .int .u8 101, .int .u8 116, .int .u8 97, .int .u8 32, .int .u8 120, .int .u8 109, .int .u8 108, .int .u8 110, .int .u8 115, .int .u8 58, .int .u8 120, .int .u8 61, .int .u8 34, .int .u8 97, .int .u8 100, .int .u8 111, .int .u8 98, .int .u8 101, .int .u8 58, .int .u8 110, .int .u8 115, .int .u8 58, .int .u8 109, .int .u8 101, .int .u8 116, .int .u8 97, .int .u8 47, .int .u8 34, .int .u8 62, .int .u8 60, .int .u8 114, .int .u8 100, .int .u8 102, .int .u8 58, .int .u8 82, .int .u8 68, .int .u8 70, .int .u8 32, .int .u8 120, .int .u8 109, .int .u8 108, .int .u8 110, .int .u8 115, .int .u8 58, .int .u8 114, .int .u8 100, .int .u8 102, .int .u8 61, .int .u8 34, .int .u8 104, .int .u8 116, .int .u8 116, .int .u8 112, .int .u8 58, .int .u8 47, .int .u8 47, .int .u8 119, .int .u8 119, .int .u8 119, .int .u8 46, .int .u8 119, .int .u8 51, .int .u8 46, .int .u8 111, .int .u8 114, .int .u8 103, .int .u8 47, .int .u8 49, .int .u8 57, .int .u8 57, .int .u8 57, .int .u8 47, .int .u8 48, .int .u8 50, .int .u8 47, .int .u8 50, .int .u8 50, .int .u8 45, .int .u8 114, .int .u8 100, .int .u8 102, .int .u8 45, .int .u8 115, .int .u8 121, .int .u8 110, .int .u8 116, .int .u8 97, .int .u8 120, .int .u8 45, .int .u8 110, .int .u8 115, .int .u8 35, .int .u8 34, .int .u8 62, .int .u8 10] : Array Value) = CB := hCB.symm
      replace hCB := Lib.hid hCB
      replace hcB := Lib.hid hcB
      replace hCs := Lib.hid hCs
      replace hWX := Lib.hid hWX
      go_upto_region 8 with (fail)
      obtain ⟨⟨vv, hLb, hO⟩, hlb, hsz, hso⟩ := hL
      obtain ⟨A7, g7, cap7, rfl, hA7, hcp7, hcs7⟩ := row_out hO
      rw [hlk] at hLb hA7 hcp7
      have hL2 := hLb.below hW2 hLb.lt
      have z4 := hL2.cell 0
      go_upto_region 9 with (refine wpList_bytes_row rfl 153 _ rfl CB (by decide) (by decide) (by rw [hCB.out]; kernel_rfl) ?_)
      have hc7 := hcs7.below hW2
      have hBX := bthen hB hW2
      replace hc7 := Lib.hid hc7
      replace hX0 := Lib.hid hX0
      replace hgl := Lib.hid hgl
      replace hA7 := Lib.hid hA7
      replace hlk := Lib.hid hlk
      replace hBX := Lib.hid hBX
      replace hR9 := Lib.hid hR9
      clear hcs7 hO hL2 hLb hlb hsz hso cc hB hW2
      go_wp2
      clear z4
      go_loopw [7, 29] (fun s7 s29 wq => ∃ (j : Nat) (o : List UInt8), j ≤ k ∧ s29 = .int .i64 j ∧ o = hdrL ++ (l.take j).flatMap (fun x => descL x.1) ∧ (∃ a m c, s7 = .slice a m c) ∧ OwnX WX.heap.size wq s7 o ∧ o.length ≤ 200 + j * 101000 ∧ Below WX.heap.size WX wq) (fun _ s29 _ => k - (RowKit.intOf s29).toNat)
      case atStart => exact ⟨0, hdrL, Nat.zero_le _, rfl, by simp, ⟨_, _, _, rfl⟩, hX0.out, by decide, Below.refl _ _⟩
      case round =>
        obtain ⟨j, o, hj, rfl, ho, ⟨a7, m7, c7, rfl⟩, hX, hos, hB⟩ := hrel
        by_cases hjk : j < k
        · have hjl : j < l.length := by rw [hlk.out]; exact hjk
          have hAe := hA7.out (by omega)
          subst hAe
          have hxm := List.getElem_mem hjl
          obtain ⟨x0, x1, x2, x3⟩ := hc7.out.below hB j hjl
          obtain ⟨gx, hm⟩ := hgl.out _ hxm
          have hT : hdrL ++ (l.take (j + 1)).flatMap (fun x => descL x.1) = o ++ descL l[j].1 := by
            rw [ho, List.take_succ_eq_append_getElem hjl, List.flatMap_append]; simp
          generalize l[j] = x at x0 x1 x2 x3 gx hm hT
          obtain ⟨WY, hWY⟩ : ∃ W, W = wr.alloc (.cells #[.string x.1.sp, .string x.1.nm, .int .i64 x.1.kd, .slice x.2.1 x.1.it.length x.2.2] 38) := ⟨_, rfl⟩
          have hbY : Below wr.heap.size wr WY := by rw [hWY]; exact (Below.refl _ _).alloc (Nat.le_refl _) _
          have hBY := bthen hB hbY
          have hBZ := bthen hBX.out hBY
          have hRY : Blk WY wr.heap.size 38 #[.string x.1.sp, .string x.1.nm, .int .i64 x.1.kd, .slice x.2.1 x.1.it.length x.2.2] := by rw [hWY]; exact Blk.new wr 38 _
          have kp := fun W (hW : Below WY.heap.size WY W) => blk4 (hRY.below hW hRY.lt)
          have cb := fun W (hW : Below WY.heap.size WY W) => xmp_body (w := W) x.1 x.2.1 x.2.2 (gx.below (bthen hBZ hW)).1 gx.2.2 gx.2.1 (may_kind hm) (tabs.out W (bthen hBZ hW)) (siz.out W (bthen hBZ hW))
          unfold prV at cb
          have hsp := gx.2.2.sp
          have hXY := hX.below hbY
          replace hT := Lib.hid hT
          replace ho := Lib.hid ho
          replace kp := Lib.hid kp
          replace cb := Lib.hid cb
          replace hsp := Lib.hid hsp
          replace hBY := Lib.hid hBY
          replace hbY := Lib.hid hbY
          replace hXY := Lib.hid hXY
          replace hB := Lib.hid hB
          clear gx hm hRY hBZ hX hxm
          go_upto_region 12 with (fail)
          rw [← hWY]
          replace hWY := Lib.hid hWY
          refine wp_lin_two (by kernel_rfl) [none, none, none, none, none, none, none, none, none, none, none, none, none, none, none, none, none, none, none, none, none, none, none, none, none, none, none, none, none, none, none, none, none, some 0, some 1, some 2, some 3, some 4, some 5, some 6, some 7, some 8, none, none, none, none] (fun w' => Below WY.heap.size WY w') (fun w' w'' => Below w'.heap.size w' w'') (GW x.1 wr.heap.size (prs x).toArray) (FW x.1 WY) (GUW (.slice a7 m7 c7)) UW (by rfl) (by kernel_rfl) 8 9 _ _ rfl rfl (by decide) (by decide) (by kernel_rfl) (by kernel_rfl) [0, 2, 3, 4, 7, 6, 7, 8] (by kernel_rfl) [9, 2, 3, 4, 7, 6, 7, 8, 9] (by kernel_rfl) ?thR ?tmono (.cons 8 (.inl rfl) (.cons 7 (.inr (.inr ⟨rfl, Wk.step_of [4, 6] rfl (by kernel_rfl) ?t7⟩)) (.cons 6 (.inr (.inr ⟨rfl, Wk.step_of [5] rfl (by kernel_rfl) ?t6⟩)) (.cons 5 (.inr (.inr ⟨rfl, Wk.step_of [] rfl (by kernel_rfl) ?t5⟩)) (.cons 4 (.inr (.inr ⟨rfl, Wk.step_of [3] rfl (by kernel_rfl) ?t4⟩)) (.cons 3 (.inr (.inr ⟨rfl, Wk.step_of [2] rfl (by kernel_rfl) ?t3⟩)) (.cons 2 (.inr (.inr ⟨rfl, Wk.step_of [1] rfl (by kernel_rfl) ?t2⟩)) (.cons 1 (.inr (.inr ⟨rfl, Wk.step_of [] rfl (by kernel_rfl) ?t1⟩)) (.cons 0 (.inr (.inl ⟨rfl, stepU_of [] rfl (by kernel_rfl) ?t0⟩)) (.nil)))))))))) ?tsN ?tdone
          case thR => exact (Below.refl _ _).drew
          case tmono => exact GW_mono
          case t0 =>
            intro x' w' hd K' hK
            simp (config := {decide := true}) only [upd, GUW, fillL, if_true, if_false] at hK ⊢
            go_simp
            have hK2 := hK _ rfl
            exact hK2
          case t1 =>
            intro x' w' hRw hd K' hK
            simp (config := {decide := true}) only [All, GW, UW, if_true, if_false] at hd
            simp (config := {decide := true}) only [upd, GW, UW, fillL, if_true, if_false] at hK ⊢
            go_simp
            have hK2 := hK _ _ ⟨hRw, Below.refl _ _, rfl⟩
            exact hK2
          case t2 =>
            intro x' w' hRw hd K' hK
            simp (config := {decide := true}) only [All, GW, UW, if_true, if_false] at hd
            obtain ⟨e1, _⟩ := hd
            simp (config := {decide := true}) only [upd, GW, UW, fillL, if_true, if_false] at hK ⊢
            simp only [e1] at hK ⊢
            obtain ⟨y0, y1, y2, y3⟩ := kp.out w' hRw
            go_simp
            have hK2 := hK _ _ ⟨hRw, Below.refl _ _, rfl⟩
            exact hK2
          case t3 =>
            intro x' w' hRw hd K' hK
            simp (config := {decide := true}) only [All, GW, UW, if_true, if_false] at hd
            obtain ⟨e2, _⟩ := hd
            simp (config := {decide := true}) only [upd, GW, UW, fillL, if_true, if_false] at hK ⊢
            simp only [e2] at hK ⊢
            go_simp
            rw [if_neg (by
              have h1 := hsp.out
              have h2 : D1.size = 39 := rfl
              have h3 : D2.size = 19 := rfl
              have h4 : (ByteArray.mk #[34, 62]).size = 2 := rfl
              first | omega | (simp only [ByteArray.size_append]; omega))]
            have hK2 := hK _ _ ⟨hRw, Below.refl _ _, rfl⟩
            exact hK2
          case t4 =>
            intro x' w' hRw hd K' hK
            simp (config := {decide := true}) only [All, GW, UW, if_true, if_false] at hd
            obtain ⟨e3, _⟩ := hd
            simp (config := {decide := true}) only [upd, GW, UW, fillL, if_true, if_false] at hK ⊢
            simp only [e3] at hK ⊢
            go_simp
            rw [if_neg (by
              have h1 := hsp.out
              have h2 : D1.size = 39 := rfl
              have h3 : D2.size = 19 := rfl
              have h4 : (ByteArray.mk #[34, 62]).size = 2 := rfl
              first | omega | (simp only [ByteArray.size_append]; omega))]
            have hK2 := hK _ _ ⟨hRw, Below.refl _ _, rfl⟩
            exact hK2
          case t5 =>
            intro x' w' hRw hd K' hK
            simp (config := {decide := true}) only [All, GW, UW, if_true, if_false] at hd
            simp (config := {decide := true}) only [upd, GW, UW, fillL, if_true, if_false] at hK ⊢
            obtain ⟨y0, y1, y2, y3⟩ := kp.out w' hRw
            go_simp
            have hK2 := hK _ _ ⟨hRw, Below.refl _ _, rfl⟩
            exact hK2
          case t6 =>
            intro x' w' hRw hd K' hK
            simp (config := {decide := true}) only [All, GW, UW, if_true, if_false] at hd
            obtain ⟨e5, _⟩ := hd
            simp (config := {decide := true}) only [upd, GW, UW, fillL, if_true, if_false] at hK ⊢
            simp only [e5] at hK ⊢
            go_simp
            refine (cb.out w' hRw).mono ?_
            rintro e' w2 ⟨R, rfl, hr1, hr2, hB9⟩
            have hK2 := hK _ _ ⟨bthen hRw hB9, hB9, _, rfl, hr1, hr2⟩
            exact hK2
          case t7 =>
            intro x' w' hRw hd K' hK
            simp (config := {decide := true}) only [All, GW, UW, if_true, if_false] at hd
            obtain ⟨e4, ⟨R, e6, hr1, hr2⟩, _⟩ := hd
            simp (config := {decide := true}) only [upd, GW, UW, fillL, if_true, if_false] at hK ⊢
            simp only [e4, e6] at hK ⊢
            go_simp
            rw [if_neg (by
              have h1 := hsp.out
              have h2 : D1.size = 39 := rfl
              have h3 : D2.size = 19 := rfl
              have h4 : (ByteArray.mk #[34, 62]).size = 2 := rfl
              first | omega | (simp only [ByteArray.size_append]; omega))]
            have hK2 := hK _ _ ⟨hRw, Below.refl _ _, _, rfl, hr1, hr2⟩
            exact hK2
          case tsN =>
            intro x' w6 hR6 hG _ K' hK fr hfr
            have a7 := hG 7 (by omega) rfl
            simp only [GW] at a7
            clear hG
            obtain ⟨R, a7, hr1, hr2⟩ := a7
            have hS : (D1 ++ x.1.sp ++ ⟨#[34, 62]⟩ ++ R ++ D2).data.toList = descL x.1 := by unfold descL; simp only [ba_app, hr1]
            have hSz : (D1 ++ x.1.sp ++ ⟨#[34, 62]⟩ ++ R ++ D2).size ≤ 101000 := by
              have := hsp.out
              simp only [ByteArray.size_append]
              show 39 + _ + 2 + _ + 19 ≤ _
              omega
            replace hS := Lib.hid hS
            replace hSz := Lib.hid hSz
            simp only [fillL] at hfr
            rw [a7] at hfr
            subst hfr
            rw [if_pos (show Region.wanted _ _ = true from rfl)]
            go_simp
            rw [if_neg (by
              have h1 := hsp.out
              have h2 : D1.size = 39 := rfl
              have h3 : D2.size = 19 := rfl
              have h4 : (ByteArray.mk #[34, 62]).size = 2 := rfl
              first | omega | (simp only [ByteArray.size_append]; omega))]
            have hK2 := hK _ w6 ⟨_, rfl, hS.out, hSz.out, hR6⟩
            simp (config := {decide := true}) only [upd, fillL, if_true, if_false] at hK2
            rw [a7] at hK2
            exact hK2

          case tdone =>
            intro x' w7 hF hU fr hfr
            obtain ⟨S, e8, hS, hSz, hB7⟩ := hF
            have u0 := hU 0 (by omega) rfl
            simp only [GUW] at u0
            simp only [fillL] at hfr
            rw [u0, e8] at hfr
            clear hU
            have hX7 := hXY.out.below hB7
            have hB8 := bthen hBY.out hB7
            have z7 := hB8.size
            have hlen : (descL x.1).length ≤ 101000 := by rw [← hS]; exact (show S.data.toList.length = S.size from Array.length_toList) ▸ hSz
            have hpos : 0 < (descL x.1).length := by unfold descL; simp only [List.length_append]; show 0 < 39 + _ + _ + _ + _; omega
            replace hS := Lib.hid hS
            replace hX7 := Lib.hid hX7
            replace hB8 := Lib.hid hB8
            subst hfr
            clear hB7 u0 e8
            refine app_xs rfl _ _ rfl WX.heap.size _ o rfl hX7.out S (descL x.1) rfl hS.out hpos (by omega) z7 ?_
            intro v' w8 hO8 hB9
            have hv8 : ∃ a m c, v' = .slice a m c := by rcases hO8.row.2 with ⟨rfl, _⟩ | ⟨_, _, _, rfl, _⟩ <;> exact ⟨_, _, _, rfl⟩
            obtain ⟨a8, m8, c8, rfl⟩ := hv8
            replace hO8 := Lib.hid hO8
            replace hB9 := Lib.hid hB9
            go_wp2
            go_roundw
            case rel => exact ⟨j + 1, _, by omega, by go_num, hT.out.symm, ⟨_, _, _, rfl⟩, .inl hO8.out, by rw [List.length_append]; omega, hB8.out.trans hB9.out⟩
            case measure => simp [RowKit.intOf]; omega
        · obtain rfl : j = k := by omega
          have hT : l.take j = l := by rw [← hlk.out, List.take_length]
          rw [hT] at ho
          have hTs : TL.data.toList.length = 42 := rfl
          have hP : packetL (pl l) = o ++ TL.data.toList := by
            unfold packetL pl
            rw [ho, List.flatMap_map]
          have hr9 := hR9.out
          have zb := hB.size
          replace hP := Lib.hid hP
          replace ho := Lib.hid ho
          replace hX := Lib.hid hX
          replace hB := Lib.hid hB
          replace hr9 := Lib.hid hr9
          clear hT hR9
          go_wp2_with (refine app_xs rfl _ _ rfl WX.heap.size _ o rfl hX.out TL TL.data.toList rfl rfl (by decide) (by rw [hTs]; omega) zb ?_; intro v' w8 hO8 hB9; have hv8 : ∃ a m c, v' = .slice a m c := by { rcases hO8.row.2 with ⟨rfl, _⟩ | ⟨_, _, _, rfl, _⟩ <;> exact ⟨_, _, _, rfl⟩ }; obtain ⟨a8, m8, c8, rfl⟩ := hv8; replace hO8 := Lib.hid hO8; replace hB9 := Lib.hid hB9)
          go_ret2
          refine ⟨hBX.out.trans ((hB.out.trans hB9.out).mono hBX.out.size), ?_⟩
          obtain ⟨A9, c9, e9, hy9, hc9⟩ := hO8.out.outc (by rw [List.length_append, hTs]; unfold maxLen; omega)
          rw [hr9.out]
          refine ⟨A9, c9, ?_, by rw [hP.out]; exact hy9, by rw [hP.out]; exact hc9.1, hc9.2, by rw [hP.out, List.length_append, hTs]; omega⟩
          rw [hP.out, ← e9]; rfl
end Go.Proofs.YtkpikpaepgknnaaGreatDoor

/- A packet's text: its grammar, plain. A property, its description, all. No condition. -/
namespace Go.Proofs.YtkpikpaepgknnaaGreatDoor
open Go Go.RowKit Go.Wk Go.Xt Go.Xe Go.Xw
theorem plain_says {B : List (List UInt8 × List UInt8)} {pre sp : List UInt8} (hB : B.length ≤ 1000) (hb : BoundTo B pre sp) (hp : pre ≠ [120, 109, 108]) : Says B B pre sp [] [] [] :=
  ⟨by simp, hB, fun i j hi => by simp at hi, fun a ha => by simp at ha, rfl, by omega, hb, hp, ⟨[], [], rfl, by simp, by simp⟩, by simp, fun a ha => by simp at ha⟩
/-- a property's element -/
def propN (p : Pr) : Nx := if p.kd = 0 then (match p.it with | e :: _ => .el p.sp.data.toList p.nm.data.toList (langN e.1.data.toList) (txN e.2.data.toList) | [] => .tx []) else .el p.sp.data.toList p.nm.data.toList [] [.el rdfL (kindL p.kd) [] (p.it.map liN)]
/-- how many marks it has -/
def propM (p : Pr) : Nat := if p.kd = 0 then 1 else 2 + p.it.length
theorem may_parts {p : Pr} (h : mayB p = true) : p.sp.data.toList.all spaceB = true ∧ nameB p.nm.data.toList = true ∧ kindB p.kd p.it.length = true ∧ ∀ e ∈ p.it, entB e = true := by
  unfold mayB at h
  simp only [Bool.and_eq_true] at h
  obtain ⟨⟨_, h1, h2, _⟩, h3, h4⟩ := h
  refine ⟨h1, h2, h3, fun e he => ?_⟩
  rw [Bool.not_eq_true'] at h4
  have := List.any_eq_false.1 h4 e he
  simpa using this
theorem kind_name {k : Int} (h0 : k ≠ 0) (h : 0 ≤ k ∧ k ≤ 3) : nameB (kindL k) = true := by
  have : k = 1 ∨ k = 2 ∨ k = 3 := by omega
  rcases this with rfl | rfl | rfl <;> decide
theorem prop_elem {B : List (List UInt8 × List UInt8)} {p : Pr} (hB : B.length ≤ 1000) (hb : BoundTo B [112] p.sp.data.toList) (hr : BoundTo B [114, 100, 102] rdfL) (h : mayB p = true) (d m : Nat) (hm : m + propM p ≤ 4000) (R : List UInt8) : ∃ x r, bodyL p ++ R = 60 :: x :: r ∧ beginsB x = true ∧ ElemX (d + 3) m B (bodyL p ++ R) (propN p) (m + propM p) R := by
  obtain ⟨_, hn, hk, he⟩ := may_parts h
  unfold propM at hm ⊢
  unfold bodyL propN
  by_cases h0 : p.kd = 0
  · rw [if_pos h0, if_pos h0, if_pos h0] at *
    unfold kindB at hk
    rw [h0] at hk
    have h1 : p.it.length = 1 := by simpa using hk
    obtain ⟨e, hi⟩ := List.length_eq_one_iff.1 h1
    rw [hi] at he ⊢
    obtain ⟨h3, h4⟩ := ent_parts (he e (by simp))
    refine ⟨112, _, rfl, by decide, ?_⟩
    have := elem_text (pre := [112]) (nm := p.nm.data.toList) (sp := p.sp.data.toList) (d + 2) m (by decide) hn hB hb (by decide) h3 h4 (by omega) R
    simp only [markL]
    simpa using this
  · rw [if_neg h0, if_neg h0, if_neg h0] at *
    have hk3 : 0 ≤ p.kd ∧ p.kd ≤ 3 := by
      unfold kindB at hk; simp only [Bool.and_eq_true, decide_eq_true_eq] at hk; exact ⟨hk.1, hk.2.1⟩
    refine ⟨112, _, rfl, by decide, ?_⟩
    have c1 := items_cont hB hr d ([114, 100, 102] ++ 58 :: (kindL p.kd ++ 62 :: (60 :: 47 :: ([112] ++ 58 :: (p.nm.data.toList ++ 62 :: R))))) p.it (m + 2) he (by omega)
    have e1 := elem_any (pre := [114, 100, 102]) (nm := kindL p.kd) (d + 1) (m + 1) (by decide) (kind_name h0 hk3) (c := 62) (by decide) (by omega) (atts_end 62 _ (.inr rfl)) (plain_says hB hr (by decide)) c1
    have c2 := cont_elem (by decide) e1 (cont_end _ _ ([112] ++ 58 :: (p.nm.data.toList ++ 62 :: R)))
    have e2 := elem_any (pre := [112]) (nm := p.nm.data.toList) (d + 2) m (by decide) hn (c := 62) (by decide) (by omega) (atts_end 62 _ (.inr rfl)) (plain_says hB hb (by decide)) c2
    have e3 : m + 2 + p.it.length = m + (2 + p.it.length) := by omega
    rw [e3] at e2
    simpa [attsX] using e2
end Go.Proofs.YtkpikpaepgknnaaGreatDoor

/- A packet's text: its grammar, plain. Descriptions. No condition. -/
namespace Go.Proofs.YtkpikpaepgknnaaGreatDoor
open Go Go.RowKit Go.Wk Go.Xt Go.Xe Go.Xw
def aboutL : List UInt8 := [97, 98, 111, 117, 116]
def descNm : List UInt8 := [68, 101, 115, 99, 114, 105, 112, 116, 105, 111, 110]
def descN (p : Pr) : Nx := .el rdfL descNm [(rdfL, aboutL, [])] [propN p]
def descA (p : Pr) : List (List UInt8 × List UInt8 × List UInt8) := [([114, 100, 102], aboutL, []), ([120, 109, 108, 110, 115], [112], p.sp.data.toList)]
theorem desc_says {B : List (List UInt8 × List UInt8)} {p : Pr} (hB : B.length ≤ 1000) (hr : BoundTo B [114, 100, 102] rdfL) (hs : p.sp.data.toList ≠ []) : Says B (B ++ [([112], p.sp.data.toList)]) [114, 100, 102] rdfL rdfL (descA p) [([114, 100, 102], aboutL, [])] := by
  obtain ⟨B1, B2, e, h2⟩ := hr
  have hb : BoundTo (B ++ [([112], p.sp.data.toList)]) [114, 100, 102] rdfL := ⟨B1, B2 ++ [([112], p.sp.data.toList)], by rw [e]; simp, fun b hb => by
    rcases List.mem_append.1 hb with h | h
    · exact h2 b h
    · rw [List.mem_singleton.1 h]; show ([112] : List UInt8) ≠ [114, 100, 102]; decide⟩
  refine ⟨Nat.le_refl 2, hB, fun i j hi hj hij => ?_, fun a ha e => ?_, by rfl, by simp; omega, hb, by decide, ⟨[], [([120, 109, 108, 110, 115], [112], p.sp.data.toList)], rfl, by simp, fun a ha => ?_⟩, by decide, fun a ha => ?_⟩
  · have hl : (descA p).length = 2 := rfl
    have : i = 0 ∧ j = 1 := by omega
    obtain ⟨rfl, rfl⟩ := this
    exact .inl (by show ([114, 100, 102] : List UInt8) ≠ [120, 109, 108, 110, 115]; decide)
  · unfold descA at ha
    simp at ha
    rcases ha with rfl | rfl
    · exact absurd e (by decide)
    · exact hs
  · rw [List.mem_singleton.1 ha]; rfl
  · rw [List.mem_singleton.1 ha]
    exact ⟨rfl, by decide, .inr ⟨by decide, hb⟩⟩
/-- a description's text, but for the end of its line -/
def descE (p : Pr) : List UInt8 := D1.data.toList ++ p.sp.data.toList ++ [34, 62] ++ bodyL p ++ [60, 47, 114, 100, 102, 58, 68, 101, 115, 99, 114, 105, 112, 116, 105, 111, 110, 62]
theorem descE_L (p : Pr) : descL p = descE p ++ [10] := by unfold descL descE D2; simp
theorem may_space {p : Pr} (h : mayB p = true) : p.sp.data.toList ≠ [] := by
  unfold mayB at h
  simp only [Bool.and_eq_true, Bool.not_eq_true'] at h
  have := h.1.1
  rw [← Lib.toList_data]
  intro e
  rw [e] at this
  cases this
theorem desc_atts {p : Pr} (h : mayB p = true) (R : List UInt8) : AttsP (32 :: 114 :: ([100, 102] ++ 58 :: (aboutL ++ 61 :: 34 :: 34 :: 32 :: 120 :: ([109, 108, 110, 115] ++ 58 :: ([112] ++ 61 :: 34 :: (p.sp.data.toList ++ 34 :: 62 :: R)))))) (descA p) (62 :: R) := by
  have h1 := att_two (pre := [120, 109, 108, 110, 115]) (nm := [112]) (by decide) (by decide) (space_txt (may_parts h).1 (62 :: R))
  have h2 := atts_more 120 (by decide) (by decide) (by decide) (r := [109, 108, 110, 115] ++ 58 :: ([112] ++ 61 :: 34 :: (p.sp.data.toList ++ 34 :: 62 :: R))) (by simpa using h1) (atts_end 62 R (.inr rfl))
  have h3 := att_two (pre := [114, 100, 102]) (nm := aboutL) (v := []) (e := []) (by decide) (by decide) (R := 32 :: 120 :: ([109, 108, 110, 115] ++ 58 :: ([112] ++ 61 :: 34 :: (p.sp.data.toList ++ 34 :: 62 :: R)))) (.stop 34 _ (.inr rfl))
  exact atts_more 114 (by decide) (by decide) (by decide) (by simpa using h3) h2
theorem desc_elem {B : List (List UInt8 × List UInt8)} {p : Pr} (hB : B.length ≤ 900) (hr : BoundTo B [114, 100, 102] rdfL) (h : mayB p = true) (d m : Nat) (hm : m + 1 + propM p ≤ 4000) (R : List UInt8) : ElemX (d + 4) m B (descE p ++ R) (descN p) (m + 1 + propM p) R := by
  have hs := may_space h
  obtain ⟨B1, B2, e, h2⟩ := hr
  have hb : BoundTo (B ++ [([112], p.sp.data.toList)]) [112] p.sp.data.toList := ⟨B, [], rfl, by simp⟩
  have hr2 : BoundTo (B ++ [([112], p.sp.data.toList)]) [114, 100, 102] rdfL := ⟨B1, B2 ++ [([112], p.sp.data.toList)], by rw [e]; simp, fun b hb => by
    rcases List.mem_append.1 hb with h | h
    · exact h2 b h
    · rw [List.mem_singleton.1 h]; show ([112] : List UInt8) ≠ [114, 100, 102]; decide⟩
  obtain ⟨x, r, ex, hx, hP⟩ := prop_elem (by simp; omega) hb hr2 h d (m + 1) hm (60 :: 47 :: ([114, 100, 102] ++ 58 :: (descNm ++ 62 :: R)))
  rw [ex] at hP
  have c1 := cont_elem hx hP (cont_end _ _ ([114, 100, 102] ++ 58 :: (descNm ++ 62 :: R)))
  rw [← ex] at c1
  have e1 := elem_any (pre := [114, 100, 102]) (nm := descNm) (d + 3) m (by decide) (by decide) (c := 32) (by decide) (by omega) (desc_atts h (bodyL p ++ 60 :: 47 :: ([114, 100, 102] ++ 58 :: (descNm ++ 62 :: R)))) (desc_says (by omega) ⟨B1, B2, e, h2⟩ hs) c1
  have e2 : descE p ++ R = 60 :: ([114, 100, 102] ++ 58 :: (descNm ++ 32 :: 114 :: ([100, 102] ++ 58 :: (aboutL ++ 61 :: 34 :: 34 :: 32 :: 120 :: ([109, 108, 110, 115] ++ 58 :: ([112] ++ 61 :: 34 :: (p.sp.data.toList ++ 34 :: 62 :: (bodyL p ++ 60 :: 47 :: ([114, 100, 102] ++ 58 :: (descNm ++ 62 :: R)))))))))) := by
    unfold descE D1 descNm aboutL; simp
  rw [e2]
  exact e1
/-- all descriptions, each on a line of its own -/
def kidsN (l : List Pr) : List Nx := l.flatMap (fun p => [.tx [10], descN p]) ++ [.tx [10]]
def kidsM (l : List Pr) : Nat := (l.map fun p => 1 + propM p).sum
theorem kids_cont {B : List (List UInt8 × List UInt8)} (hB : B.length ≤ 900) (hr : BoundTo B [114, 100, 102] rdfL) (d : Nat) (R : List UInt8) : ∀ (l : List Pr) (m : Nat), (∀ p ∈ l, mayB p = true) → m + kidsM l ≤ 4000 →
    ContX (d + 5) m B (10 :: (l.flatMap descL ++ 60 :: 47 :: R)) (kidsN l) (m + kidsM l) R
  | [], m, _, _ => by
    have := ContX.done (d + 5) m B (10 :: 60 :: 47 :: R) [10] (60 :: 47 :: R) R (.byte 10 _ [] _ (by decide) (by decide) (by decide) (.stop 60 _ (.inl rfl))) (.no _ (by simp [List.cons_prefix_cons]) (by simp [List.cons_prefix_cons])) rfl
    simpa [kidsN, kidsM] using this
  | p :: l, m, h, hm => by
    have hk : kidsM (p :: l) = 1 + propM p + kidsM l := by unfold kidsM; simp
    rw [hk] at hm
    have ih := kids_cont hB hr d R l (m + 1 + propM p) (fun x hx => h x (List.mem_cons_of_mem _ hx)) (by omega)
    have h1 := desc_elem hB hr (h p (List.mem_cons_self ..)) d m (by omega) (10 :: (l.flatMap descL ++ 60 :: 47 :: R))
    have ex : ∃ r, descE p ++ 10 :: (l.flatMap descL ++ 60 :: 47 :: R) = 60 :: 114 :: r := ⟨_, rfl⟩
    obtain ⟨r, ex⟩ := ex
    rw [ex] at h1
    have h2 := cont_text_elem (o := [10]) (by decide) (.byte 10 _ [] _ (by decide) (by decide) (by decide) (.stop 60 (114 :: r) (.inl rfl))) (by decide) h1 ih
    have e3 : m + 1 + propM p + kidsM l = m + kidsM (p :: l) := by rw [hk]; omega
    rw [e3] at h2
    have e4 : 10 :: ((p :: l).flatMap descL ++ 60 :: 47 :: R) = [10] ++ 60 :: 114 :: r := by
      rw [← ex, List.flatMap_cons, descE_L]; simp
    rw [e4]
    have e5 : kidsN (p :: l) = .tx [10] :: descN p :: kidsN l := by unfold kidsN; simp
    rw [e5]
    exact h2
end Go.Proofs.YtkpikpaepgknnaaGreatDoor

/- A packet's text: its grammar, plain. The whole. No condition. -/
namespace Go.Proofs.YtkpikpaepgknnaaGreatDoor
open Go Go.RowKit Go.Wk Go.Xt Go.Xe Go.Xw
def metaNs : List UInt8 := [97, 100, 111, 98, 101, 58, 110, 115, 58, 109, 101, 116, 97, 47]
def metaNm : List UInt8 := [120, 109, 112, 109, 101, 116, 97]
def rdfN (l : List Pr) : Nx := .el rdfL [82, 68, 70] [] (kidsN l)
def rootN (l : List Pr) : Nx := .el metaNs metaNm [] [rdfN l]
theorem one_says {B : List (List UInt8 × List UInt8)} {pre v : List UInt8} (hB : B.length ≤ 1000) (hv : v ≠ []) (hp : pre ≠ [120, 109, 108]) : Says B (B ++ [(pre, v)]) pre v [] [([120, 109, 108, 110, 115], pre, v)] [] := by
  refine ⟨by simp, hB, fun i j hi hj hij => by simp at hi hj; omega, fun a ha _ => ?_, by rfl, by simp; omega, ⟨B, [], rfl, by simp⟩, hp, ⟨[([120, 109, 108, 110, 115], pre, v)], [], by simp, fun a ha => ?_, by simp⟩, by simp, fun a ha => by simp at ha⟩
  · rw [List.mem_singleton.1 ha]; exact hv
  · rw [List.mem_singleton.1 ha]; rfl
theorem one_atts {q v : List UInt8} (hq : nameB q = true) (hv : v.all spaceB = true) (R : List UInt8) : AttsP (32 :: 120 :: ([109, 108, 110, 115] ++ 58 :: (q ++ 61 :: 34 :: (v ++ 34 :: 62 :: R)))) [([120, 109, 108, 110, 115], q, v)] (62 :: R) := by
  have h1 := att_two (pre := [120, 109, 108, 110, 115]) (nm := q) (by decide) hq (space_txt hv (62 :: R))
  exact atts_more 120 (by decide) (by decide) (by decide) (by simpa using h1) (atts_end 62 R (.inr rfl))
def rdfT (l : List Pr) (R : List UInt8) : List UInt8 := 60 :: ([114, 100, 102] ++ 58 :: ([82, 68, 70] ++ 32 :: 120 :: ([109, 108, 110, 115] ++ 58 :: ([114, 100, 102] ++ 61 :: 34 :: (rdfL ++ 34 :: 62 :: (10 :: (l.flatMap descL ++ 60 :: 47 :: ([114, 100, 102] ++ 58 :: ([82, 68, 70] ++ 62 :: R)))))))))
theorem rdf_elem {B : List (List UInt8 × List UInt8)} {l : List Pr} (hB : B.length ≤ 800) (h : ∀ p ∈ l, mayB p = true) (d m : Nat) (hm : m + 1 + kidsM l ≤ 4000) (R : List UInt8) : ElemX (d + 5) m B (rdfT l R) (rdfN l) (m + 1 + kidsM l) R := by
  have hb : BoundTo (B ++ [([114, 100, 102], rdfL)]) [114, 100, 102] rdfL := ⟨B, [], rfl, by simp⟩
  have c1 := kids_cont (by simp; omega) hb d ([114, 100, 102] ++ 58 :: ([82, 68, 70] ++ 62 :: R)) l (m + 1) h hm
  exact elem_any (pre := [114, 100, 102]) (nm := [82, 68, 70]) (d + 4) m (by decide) (by decide) (c := 32) (by decide) (by omega) (one_atts (by decide) (by decide) _) (one_says (by omega) (by decide) (by decide)) c1
def metaT (l : List Pr) (R : List UInt8) : List UInt8 := 60 :: ([120] ++ 58 :: (metaNm ++ 32 :: 120 :: ([109, 108, 110, 115] ++ 58 :: ([120] ++ 61 :: 34 :: (metaNs ++ 34 :: 62 :: rdfT l (60 :: 47 :: ([120] ++ 58 :: (metaNm ++ 62 :: R))))))))
theorem meta_elem {l : List Pr} (h : ∀ p ∈ l, mayB p = true) (hm : 2 + kidsM l ≤ 4000) (R : List UInt8) : ElemX 32 0 [] (metaT l R) (rootN l) (2 + kidsM l) R := by
  have e1 := rdf_elem (B := [([120], metaNs)]) (by simp) h 26 1 (by omega) (60 :: 47 :: ([120] ++ 58 :: (metaNm ++ 62 :: R)))
  have ex : ∃ r, rdfT l (60 :: 47 :: ([120] ++ 58 :: (metaNm ++ 62 :: R))) = 60 :: 114 :: r := ⟨_, rfl⟩
  obtain ⟨r, ex⟩ := ex
  rw [ex] at e1
  have c1 := cont_elem (by decide) e1 (cont_end _ _ ([120] ++ 58 :: (metaNm ++ 62 :: R)))
  rw [← ex] at c1
  have e2 : 1 + 1 + kidsM l = 2 + kidsM l := by omega
  rw [e2] at c1
  exact elem_any (pre := [120]) (nm := metaNm) 31 0 (by decide) (by decide) (c := 32) (by decide) (by omega) (one_atts (by decide) (by decide) _) (one_says (B := []) (by simp) (by decide) (by decide)) c1
/-- what stands between the packet's marks -/
def innerL (l : List Pr) : List UInt8 := 10 :: metaT l [10]
def headPI : List UInt8 := [60, 63, 120, 112, 97, 99, 107, 101, 116, 32, 98, 101, 103, 105, 110, 61, 34, 34, 32, 105, 100, 61, 34, 87, 53, 77, 48, 77, 112, 67, 101, 104, 105, 72, 122, 114, 101, 83, 122, 78, 84, 99, 122, 107, 99, 57, 100, 34, 63, 62]
def tailPI : List UInt8 := [60, 63, 120, 112, 97, 99, 107, 101, 116, 32, 101, 110, 100, 61, 34, 119, 34, 63, 62]
set_option maxRecDepth 100000 in
theorem packet_parts (l : List Pr) : packetL l = headPI ++ innerL l ++ tailPI := by
  unfold packetL innerL metaT rdfT hdrL TL headPI tailPI metaNm metaNs rdfL
  simp only [List.append_assoc, List.cons_append, List.nil_append]
theorem inner_around (l : List Pr) : Around (innerL l) (metaT l [10]) := by
  have h : ws (innerL l) = 1 := by unfold innerL metaT; simp [ws, List.takeWhile_cons, whiteB]
  have hd : (innerL l).drop (ws (innerL l)) = metaT l [10] := by rw [h]; rfl
  have := Around.stop (innerL l) (by rw [hd]; exact .no _ (by unfold metaT; simp [List.cons_prefix_cons]) (by unfold metaT; simp [List.cons_prefix_cons]))
  rw [hd] at this
  exact this
theorem end_around : Around [10] [] := by
  have h : ([10] : List UInt8).drop (ws [10]) = [] := by rfl
  have := Around.stop [10] (by rw [h]; exact .no _ (by simp) (by simp))
  rw [h] at this
  exact this
end Go.Proofs.YtkpikpaepgknnaaGreatDoor

/- An escaped text is signs: plain. No condition. -/
namespace Go.Proofs.YtkpikpaepgknnaaGreatDoor
open Go Go.RowKit Go.Wk Go.Xt Go.Xe
set_option maxHeartbeats 1000000 in
set_option maxRecDepth 100000 in
theorem decN_pre (n N M b0 b1 b2 b3 c1 c2 c3 : Nat) (h : (Lib.decodeN N b0 b1 b2 b3).2 = n) (hn : 2 ≤ n) (hM : n ≤ M) (e1 : c1 = b1) (e2 : 2 < n → c2 = b2) (e3 : 3 < n → c3 = b3) : Lib.decodeN M b0 c1 c2 c3 = Lib.decodeN N b0 b1 b2 b3 := by
  subst e1
  rcases decN_bytes N b0 c1 b2 b3 with h1 | ⟨h1, _⟩ | ⟨h1, _⟩ | ⟨h1, _⟩
  · omega
  · unfold Lib.decodeN at h1 ⊢
    repeat' split at h1
    all_goals first | (exfalso; simp only at h1; omega) | skip
    all_goals (repeat' split)
    all_goals first | rfl | (exfalso; omega)
  · have hn3 : n = 3 := h.symm.trans h1
    have e2 := e2 (by omega)
    subst e2
    unfold Lib.decodeN at h1 ⊢
    repeat' split at h1
    all_goals first | (exfalso; simp only at h1; omega) | skip
    all_goals (repeat' split)
    all_goals first | rfl | (exfalso; omega)
  · have hn4 : n = 4 := h.symm.trans h1
    have e2 := e2 (by omega)
    have e3 := e3 (by omega)
    subst e2 e3
    unfold Lib.decodeN at h1 ⊢
    repeat' split at h1
    all_goals first | (exfalso; simp only at h1; omega) | skip
    all_goals (repeat' split)
    all_goals first | rfl | (exfalso; omega)
theorem dec_part (l tail : List UInt8) (h : l ≠ []) (hn : 2 ≤ (Lib.decodeL l).2) : Lib.decodeL (l.take (Lib.decodeL l).2 ++ tail) = Lib.decodeL l := by
  have hle := Lib.decodeL_le l h
  obtain ⟨n, hnn⟩ : ∃ n, n = (Lib.decodeL l).2 := ⟨_, rfl⟩
  rw [← hnn] at hle hn ⊢
  have hl : (l.take n ++ tail).length = n + tail.length := by rw [List.length_append, List.length_take]; omega
  have hg : ∀ i, i < n → (l.take n ++ tail).getD i 0 = l.getD i 0 := fun i hi => by
    rw [List.getD_eq_getElem?_getD, List.getD_eq_getElem?_getD, List.getElem?_append_left (by rw [List.length_take]; omega), List.getElem?_take_of_lt hi]
  rw [Lib.decodeL_N] at hnn
  rw [Lib.decodeL_N, Lib.decodeL_N, hg 0 (by omega), hg 1 (by omega)]
  exact decN_pre n l.length _ _ _ _ _ _ _ _ hnn.symm hn (by omega) rfl (fun h => by rw [hg 2 h]) (fun h => by rw [hg 3 h])
end Go.Proofs.YtkpikpaepgknnaaGreatDoor

/- An escaped text is signs: plain, whole. No condition. -/
namespace Go.Proofs.YtkpikpaepgknnaaGreatDoor
open Go Go.RowKit Go.Wk Go.Xt Go.Xe
theorem decN_one (n b0 b1 b2 b3 : Nat) : (Lib.decodeN n b0 b1 b2 b3).2 = 1 → b0 < 128 ∨ (Lib.decodeN n b0 b1 b2 b3).1 = 65533 := by
  unfold Lib.decodeN
  repeat' split
  all_goals (intro h; first | (left; assumption) | (right; rfl) | (exfalso; simp at h))
theorem signs_byte (x : UInt8) (r : List UInt8) (h1 : 32 ≤ x.toNat ∨ x.toNat = 9 ∨ x.toNat = 10 ∨ x.toNat = 13) (h2 : x.toNat < 128) : signsB (x :: r) = signsB r := by
  have e : Lib.decodeL (x :: r) = (x.toNat, 1) := Lib.decodeL_ascii x r h2
  have e2 : nextOk (x :: r) = true := by
    unfold nextOk; rw [e]
    simp [signV, signB, validB]
    omega
  unfold signsB
  rw [partsS_cons _ (by simp), e]
  simp [e2]
theorem signs_bytes (r : List UInt8) : ∀ (l : List UInt8), (∀ x ∈ l, (32 ≤ x.toNat ∨ x.toNat = 9 ∨ x.toNat = 10 ∨ x.toNat = 13) ∧ x.toNat < 128) → signsB (l ++ r) = signsB r := by
  intro l
  induction l with
  | nil => intro _; rfl
  | cons x l ih =>
    intro h
    have hx := h x (by simp)
    rw [List.cons_append, signs_byte x _ hx.1 hx.2]
    exact ih fun y hy => h y (by simp [hy])
theorem signs_part (l : List UInt8) (h : l ≠ []) (hn : 2 ≤ (Lib.decodeL l).2) (hk : nextOk l = true) (r : List UInt8) : signsB (l.take (Lib.decodeL l).2 ++ r) = signsB r := by
  have hd := dec_part l r h hn
  have hle := Lib.decodeL_le l h
  have hlen : (l.take (Lib.decodeL l).2).length = (Lib.decodeL l).2 := by rw [List.length_take]; omega
  have hk2 : nextOk (l.take (Lib.decodeL l).2 ++ r) = true := by
    unfold nextOk at hk ⊢; rw [hd]; exact hk
  have hne : l.take (Lib.decodeL l).2 ++ r ≠ [] := by intro e; have := congrArg List.length e; rw [List.length_append, hlen] at this; simp at this; omega
  have hdr : (l.take (Lib.decodeL l).2 ++ r).drop (Lib.decodeL l).2 = r := by
    conv => lhs; arg 1; rw [← hlen]
    exact List.drop_left
  unfold signsB
  rw [partsS_cons _ hne, hd, List.all_cons, hk2, Bool.true_and, hdr]
theorem signs_esc : ∀ (n : Nat) (l r : List UInt8), l.length ≤ n → signsB (escS l ++ r) = signsB r := by
  intro n
  induction n with
  | zero =>
    intro l r hl
    have : l = [] := List.eq_nil_of_length_eq_zero (by omega)
    subst this
    unfold escS; rw [partsS_nil]; rfl
  | succ n ih =>
    intro l r hl
    by_cases h : l = []
    · subst h; unfold escS; rw [partsS_nil]; rfl
    · have hw := Lib.decodeL_width l
      have hp : 0 < l.length := List.length_pos_iff.2 h
      have hrest := ih (l.drop (Lib.decodeL l).2) r (by simp; omega)
      have e : escS l = escP (l.take (Lib.decodeL l).2, nextOk l) ++ escS (l.drop (Lib.decodeL l).2) := by
        unfold escS; rw [partsS_cons l h, List.flatMap_cons]
      rw [e, List.append_assoc, ← hrest]
      generalize escS (l.drop (Lib.decodeL l).2) ++ r = t
      unfold escP
      by_cases hk : nextOk l = false
      · rw [if_pos hk]
        exact signs_bytes t _ fun x hx => by rw [List.mem_replicate] at hx; rw [hx.2]; decide
      rw [if_neg hk]
      have hk : nextOk l = true := by simpa using hk
      split; · exact signs_bytes t _ (by decide)
      split; · exact signs_bytes t _ (by decide)
      split; · exact signs_bytes t _ (by decide)
      split; · exact signs_bytes t _ (by decide)
      split; · exact signs_bytes t _ (by decide)
      split; · exact signs_bytes t _ (by decide)
      by_cases h2 : 2 ≤ (Lib.decodeL l).2
      · exact signs_part l h h2 hk t
      · obtain ⟨x, t', rfl⟩ : ∃ x t, l = x :: t := by cases l with | nil => exact absurd rfl h | cons x t => exact ⟨x, t, rfl⟩
        have e1 : (Lib.decodeL (x :: t')).2 = 1 := by omega
        show signsB ((x :: t').take (Lib.decodeL (x :: t')).2 ++ t) = signsB t
        rw [e1]
        show signsB (x :: t) = signsB t
        by_cases hx : x.toNat < 128
        · have ea := Lib.decodeL_ascii x t' hx
          refine signs_byte x t ?_ hx
          unfold nextOk at hk
          rw [ea] at hk
          simp [signV, signB, validB] at hk
          omega
        · exfalso
          unfold nextOk at hk
          rw [Bool.and_eq_true, Bool.or_eq_true, decide_eq_true_eq, decide_eq_true_eq] at hk
          have hone := decN_one (x :: t').length ((x :: t').getD 0 0).toNat ((x :: t').getD 1 0).toNat ((x :: t').getD 2 0).toNat ((x :: t').getD 3 0).toNat
          rw [← Lib.decodeL_N] at hone
          have h3 : x.toNat < 128 ∨ (Lib.decodeL (x :: t')).1 = 65533 := hone e1
          rcases h3 with h3 | h3
          · exact hx h3
          · rcases hk.2 with h4 | h4
            · exact h4 h3
            · omega
end Go.Proofs.YtkpikpaepgknnaaGreatDoor

/- A packet's text: none but signs. No condition. -/
namespace Go.Proofs.YtkpikpaepgknnaaGreatDoor
open Go Go.RowKit Go.Wk Go.Xt Go.Xe Go.Xw
theorem escS_id : ∀ (n : Nat) (l : List UInt8), l.length ≤ n → signsB l = true → (∀ b ∈ l, b ≠ 60 ∧ b ≠ 62 ∧ b ≠ 38 ∧ b ≠ 34 ∧ b ≠ 39 ∧ b ≠ 13) → escS l = l := by
  intro n
  induction n with
  | zero =>
    intro l hl _ _
    have : l = [] := List.eq_nil_of_length_eq_zero (by omega)
    subst this
    unfold escS; rw [partsS_nil]; rfl
  | succ n ih =>
    intro l hl hs hb
    by_cases h : l = []
    · subst h; unfold escS; rw [partsS_nil]; rfl
    · have hw := Lib.decodeL_width l
      have hp : 0 < l.length := List.length_pos_iff.2 h
      unfold signsB at hs
      rw [partsS_cons l h, List.all_cons, Bool.and_eq_true] at hs
      have := ih (l.drop (Lib.decodeL l).2) (by simp; omega) hs.2 (fun b hx => hb b (List.mem_of_mem_drop hx))
      unfold escS at this ⊢
      rw [partsS_cons l h, List.flatMap_cons, this]
      unfold escP
      have h1 : nextOk l = true := hs.1
      have hne : ∀ x : UInt8, (∀ b ∈ l, b ≠ x) → ¬ l.take (Lib.decodeL l).2 = [x] := fun x hx e => by
        have : x ∈ l.take (Lib.decodeL l).2 := by rw [e]; simp
        exact hx x (List.mem_of_mem_take this) rfl
      rw [if_neg (by rw [h1]; simp), if_neg (hne 60 fun b hx => (hb b hx).1), if_neg (hne 62 fun b hx => (hb b hx).2.1), if_neg (hne 38 fun b hx => (hb b hx).2.2.1), if_neg (hne 34 fun b hx => (hb b hx).2.2.2.1), if_neg (hne 39 fun b hx => (hb b hx).2.2.2.2.1), if_neg (hne 13 fun b hx => (hb b hx).2.2.2.2.2)]
      exact List.take_append_drop _ _
theorem signs_app {a : List UInt8} (h : signsB a = true) (hb : ∀ b ∈ a, b ≠ 60 ∧ b ≠ 62 ∧ b ≠ 38 ∧ b ≠ 34 ∧ b ≠ 39 ∧ b ≠ 13) (r : List UInt8) : signsB (a ++ r) = signsB r := by
  have h1 := signs_esc a.length a r (Nat.le_refl _)
  rw [escS_id a.length a (Nat.le_refl _) h hb] at h1
  exact h1
theorem name_safe {nm : List UInt8} (h : nameB nm = true) : ∀ b ∈ nm, b ≠ 60 ∧ b ≠ 62 ∧ b ≠ 38 ∧ b ≠ 34 ∧ b ≠ 39 ∧ b ≠ 13 := by
  have hg : ∀ b ∈ nm, goesB b = true := by
    cases nm with
    | nil => simp
    | cons x l => unfold nameB at h; rw [Bool.and_eq_true] at h; exact fun b hb => List.all_eq_true.1 h.2 b hb
  intro b hb
  have h1 := hg b hb
  refine ⟨?_, ?_, ?_, ?_, ?_, ?_⟩ <;> (rintro rfl; revert h1; decide)
theorem signs_name {nm : List UInt8} (h : nameB nm = true) (hs : signsB nm = true) (r : List UInt8) : signsB (nm ++ r) = signsB r := signs_app hs (name_safe h) r
theorem signs_space {s : List UInt8} (h : s.all spaceB = true) (r : List UInt8) : signsB (s ++ r) = signsB r := signs_bytes r s fun x hx => by
  have h1 := List.all_eq_true.1 h x hx
  unfold spaceB at h1
  simp only [Bool.and_eq_true, decide_eq_true_eq] at h1
  exact ⟨.inl (by omega), by omega⟩
theorem signs_lang {L : List UInt8} (h : L.all langB = true) (r : List UInt8) : signsB (langL L ++ r) = signsB r := signs_bytes r _ fun x hx => by
  unfold langL at hx
  split at hx
  · simp at hx
  · rcases List.mem_append.1 hx with hx | hx
    · rcases List.mem_append.1 hx with hx | hx
      · have : ∀ y ∈ ([32, 120, 109, 108, 58, 108, 97, 110, 103, 61, 34] : List UInt8), (32 ≤ y.toNat ∨ y.toNat = 9 ∨ y.toNat = 10 ∨ y.toNat = 13) ∧ y.toNat < 128 := by decide
        exact this x hx
      · have h1 := List.all_eq_true.1 h x hx
        unfold langB at h1
        simp only [Bool.or_eq_true, Bool.and_eq_true, decide_eq_true_eq, beq_iff_eq] at h1
        rcases h1 with h1 | h1
        · exact ⟨.inl (by omega), by omega⟩
        · subst h1; decide
    · rw [List.mem_singleton.1 hx]; decide
end Go.Proofs.YtkpikpaepgknnaaGreatDoor

/- A packet's text: none but signs, the whole. No condition. -/
namespace Go.Proofs.YtkpikpaepgknnaaGreatDoor
open Go Go.RowKit Go.Wk Go.Xt Go.Xe Go.Xw
def safeB (l : List UInt8) : Bool := l.all fun x => (decide (32 ≤ x.toNat) || x.toNat == 10) && decide (x.toNat < 128)
theorem signs_safe {l : List UInt8} (h : safeB l = true) (r : List UInt8) : signsB (l ++ r) = signsB r := signs_bytes r l fun x hx => by
  have h1 := List.all_eq_true.1 h x hx
  simp only [Bool.and_eq_true, Bool.or_eq_true, decide_eq_true_eq, beq_iff_eq] at h1
  exact ⟨by omega, h1.2⟩
theorem signs_mark {e : ByteArray × ByteArray} (h : entB e = true) {N : List UInt8} (hN : ∀ r, signsB (N ++ r) = signsB r) (r : List UInt8) : signsB (markL e N ++ r) = signsB r := by
  obtain ⟨h1, h2⟩ := ent_parts h
  unfold markL
  simp only [List.append_assoc]
  rw [signs_safe (l := [60]) (by decide), hN, signs_lang h1, signs_safe (l := [62]) (by decide), signs_esc _ _ _ (Nat.le_refl _), signs_safe (l := [60, 47]) (by decide), hN, signs_safe (l := [62]) (by decide)]
theorem signs_items : ∀ (it : List (ByteArray × ByteArray)), (∀ e ∈ it, entB e = true) → ∀ r, signsB (it.flatMap (fun e => markL e liL) ++ r) = signsB r
  | [], _, r => rfl
  | e :: it, h, r => by
    rw [List.flatMap_cons, List.append_assoc, signs_mark (h e (List.mem_cons_self ..)) (fun r => signs_safe (by decide) r), signs_items it (fun x hx => h x (List.mem_cons_of_mem _ hx))]
theorem may_signs {p : Pr} (h : mayB p = true) : signsB p.nm.data.toList = true := by
  unfold mayB at h
  simp only [Bool.and_eq_true] at h
  exact h.1.2.2.2
theorem signs_body {p : Pr} (h : mayB p = true) (r : List UInt8) : signsB (bodyL p ++ r) = signsB r := by
  obtain ⟨_, hn, hk, he⟩ := may_parts h
  have hs := may_signs h
  have hP : ∀ r, signsB (([112, 58] ++ p.nm.data.toList) ++ r) = signsB r := fun r => by rw [List.append_assoc, signs_safe (l := [112, 58]) (by decide), signs_name hn hs]
  unfold bodyL
  by_cases h0 : p.kd = 0
  · rw [if_pos h0]
    match hi : p.it with
    | [] => rfl
    | e :: _ => exact signs_mark (he e (by rw [hi]; simp)) hP r
  · rw [if_neg h0]
    have hK : ∀ r, signsB (([114, 100, 102, 58] ++ kindL p.kd) ++ r) = signsB r := fun r => signs_safe (by unfold kindL; (repeat' split) <;> rfl) r
    have e : [60] ++ ([112, 58] ++ p.nm.data.toList) ++ [62, 60] ++ ([114, 100, 102, 58] ++ kindL p.kd) ++ [62] ++ p.it.flatMap (fun e => markL e liL) ++ [60, 47] ++ ([114, 100, 102, 58] ++ kindL p.kd) ++ [62, 60, 47] ++ ([112, 58] ++ p.nm.data.toList) ++ [62] ++ r = [60] ++ (([112, 58] ++ p.nm.data.toList) ++ ([62, 60] ++ (([114, 100, 102, 58] ++ kindL p.kd) ++ ([62] ++ (p.it.flatMap (fun e => markL e liL) ++ ([60, 47] ++ (([114, 100, 102, 58] ++ kindL p.kd) ++ ([62, 60, 47] ++ (([112, 58] ++ p.nm.data.toList) ++ ([62] ++ r)))))))))) := by simp
    rw [e, signs_safe (l := [60]) (by decide), hP, signs_safe (l := [62, 60]) (by decide), hK, signs_safe (l := [62]) (by decide), signs_items _ he, signs_safe (l := [60, 47]) (by decide), hK, signs_safe (l := [62, 60, 47]) (by decide), hP, signs_safe (l := [62]) (by decide)]
theorem signs_desc {p : Pr} (hp : mayB p = true) (r : List UInt8) : signsB (descL p ++ r) = signsB r := by
  unfold descL
  simp only [List.append_assoc]
  rw [signs_safe (l := D1.data.toList) (by decide), signs_space (may_parts hp).1, signs_safe (l := [34, 62]) (by decide), signs_body hp, signs_safe (l := D2.data.toList) (by decide)]
theorem signs_descs : ∀ (l : List Pr), (∀ p ∈ l, mayB p = true) → ∀ r, signsB (l.flatMap descL ++ r) = signsB r
  | [], _, r => rfl
  | p :: l, h, r => by
    have hp := h p (List.mem_cons_self ..)
    rw [List.flatMap_cons, List.append_assoc, signs_desc hp, signs_descs l (fun x hx => h x (List.mem_cons_of_mem _ hx))]
theorem signs_inner (l : List Pr) (h : ∀ p ∈ l, mayB p = true) : signsB (innerL l) = true := by
  have e : ∃ a b, innerL l = a ++ (l.flatMap descL ++ b) ∧ safeB a = true ∧ safeB b = true := by
    refine ⟨10 :: 60 :: ([120] ++ 58 :: (metaNm ++ 32 :: 120 :: ([109, 108, 110, 115] ++ 58 :: ([120] ++ 61 :: 34 :: (metaNs ++ 34 :: 62 :: 60 :: ([114, 100, 102] ++ 58 :: ([82, 68, 70] ++ 32 :: 120 :: ([109, 108, 110, 115] ++ 58 :: ([114, 100, 102] ++ 61 :: 34 :: (rdfL ++ 34 :: 62 :: [10])))))))))), 60 :: 47 :: ([114, 100, 102] ++ 58 :: ([82, 68, 70] ++ 62 :: (60 :: 47 :: ([120] ++ 58 :: (metaNm ++ 62 :: [10]))))), ?_, by decide, by decide⟩
    unfold innerL metaT rdfT
    simp
  obtain ⟨a, b, e, ha, hb⟩ := e
  rw [e, signs_safe ha, signs_descs l h]
  have := signs_safe hb []
  rw [List.append_nil] at this
  rw [this]
  unfold signsB; rw [partsS_nil]; rfl
end Go.Proofs.YtkpikpaepgknnaaGreatDoor

/- Walks and laws, joined: part F. No condition. -/
import Derived.Test.YthacnnmlephkhaaGreatDoorPrJE
import Derived.Test.YthacnnmlephkhaaGreatDoorPrJD
import Derived.Test.YthacnnmlephkhaaGreatDoorPrJC
set_option linter.unusedSimpArgs false
set_option linter.unusedVariables false
/- The document's text: what stands in brackets read. No condition. -/
namespace Go.Proofs.YthacnnmlephkhaaGreatDoor
open Go Go.RowKit Go.Wk Go.Rd Go.Fx
section
variable {L : Nat} {A : Option Addr} {c : Nat} {bs : Bs} {D P : Value} {w w' : World} {r r' : Bs}
theorem text_esc {f op : Nat} {out u : Bs} {d : UInt8} : textS (f + 1) op out (92 :: d :: u) = match escS d u with | (none, v) => textS f op out v | (some x, v) => if 32767 ≤ out.length then .err 3 v else textS f op (out ++ [x]) v := by
 rw [textS.eq_def]; rfl
theorem text_eol {f op : Nat} {out t : Bs} {x : UInt8} (hx : x = 13 ∨ x = 10) : textS (f + 1) op out (x :: t) = if 32767 ≤ out.length then .err 3 t else textS f op (out ++ [10]) (eolS x t) := by
 rcases hx with rfl | rfl <;> (rw [textS.eq_def]; rfl)
theorem text_one {f op : Nat} {out t : Bs} {x : UInt8} (h1 : x ≠ 92) (h2 : ¬ (x = 13 ∨ x = 10)) : textS (f + 1) op out (x :: t) = if x = 41 ∧ op = 1 then .ok out t else if 32767 ≤ out.length then .err 3 t else textS f (if x = 40 then op + 1 else if x = 41 then op - 1 else op) (out ++ [x]) t := by
 rw [textS.eq_def]; simp only []; rw [if_neg h1, if_neg h2]
theorem eolS_len (x : UInt8) (t : Bs) : (eolS x t).length ≤ t.length := by unfold eolS; split <;> simp
theorem esc_len (d : UInt8) (t : Bs) : (escS d t).2.length ≤ t.length := by
 unfold escS
 split
 ·exact eolS_len d t
 split
 ·exact oct_le _ _ _
 ·exact Nat.le_refl _
set_option maxHeartbeats 16000000 in
set_option maxRecDepth 100000 in
theorem rx_text (h : LX L A c bs D P w r) : Calls Tryz.prog 141 #[.pointer (some ⟨L, 0, none⟩)] w (LexR L A c bs D P w (textS (r.length + 1) 1 [] r)) := by
 obtain ⟨R, hR⟩ : ∃ R, R = textS (r.length + 1) 1 [] r := ⟨_, rfl⟩
 rw [← hR]
 have hLw := h.lt
 have hAw := h.a_lt
 have hrl := suf_len h.suf
 have hsm0 := h.small
 replace hAw := hi_ hAw
 replace hR := hi_ hR
 replace h := hi_ h
 go_enter Tryz.func141, Tryz.ntmps141
 go_wp2
 go_loopw [4, 5] (fun s4 s5 wr => ∃ f op out r1, s5 = .int .i64 (op : Nat) ∧ 1 ≤ op ∧ op + r1.length ≤ r.length + 1 ∧ Own w.heap.size wr s4 out ∧ LX L A c bs D P wr r1 ∧ textS f op out r1 = R ∧ r1.length < f ∧ out.length ≤ 32767 ∧ Save L w wr) (fun _ _ wr => bs.length + 1 - posOf L wr)
 case atStart => exact ⟨_, 1, _, r, rfl, by omega, by omega, Own.nil _ _, h.out, hR.out.symm, Nat.lt_succ_self _, by simp, Save.refl _ _⟩
 case round =>
  obtain ⟨f, op, out, r1, rfl, hop1, hop2, hO, hL, hE, hf, hmx, hS⟩ := hrel
  have hms := hL.posOf
  obtain ⟨f, rfl⟩ : ∃ g, f = g + 1 := ⟨f - 1, by omega⟩
  clear h hR
  obtain ⟨Ao, co, rfl, hby, hA⟩ := hO.out (by unfold maxLen; omega)
  obtain ⟨m, hm⟩ : ∃ m, m = out.length := ⟨_, rfl⟩
  rw [← hm] at hmx hO ⊢
  clear hby hA
  replace hm := hi_ hm
  replace hmx := hi_ hmx
  obtain ⟨q, hq, hq0, hq1⟩ := hL.pos_i
  have q1 := hL.blk.cell 1
  have v1 := hL.blk.frozen 1
  rw [← hq] at q1
  replace hq := hi_ hq
  replace hms := hi_ hms
  have hop3 : (op : Int) ≤ 1000000001 := by omega
  obtain ⟨oi, hoi⟩ := hidE (op : Int)
  have hoi0 : 1 ≤ oi ∧ oi ≤ 1000000001 := by rw [hoi.out]; omega
  rw [← hoi.out]
  clear hop3
  replace hop1 := hi_ hop1
  replace hop2 := hi_ hop2
  cases r1 with
  | nil =>
   have e4 : R = .err 2 [] := by rw [← hE, textS]
   subst e4
   have cp := fun W h => rx_peekN (L := L) (A := A) (c := c) (bs := bs) (D := D) (P := P) W h
   replace cp := hi_ cp
   replace hL := hi_ hL
   replace hS := hi_ hS
   replace hO := hi_ hO
   clear hE
   go_wp2_with (go_at_call 82; (with_reducible refine (cp.out _ hL.out).mono ?_); rintro e w1 ⟨rfl, hB⟩; replace hL := hi_ (hL.out.below hB); replace hS := hi_ (hS.out.then_ hB); replace q1 := hL.out.blk.cell 1; rw [← hq.out] at q1; replace v1 := hL.out.blk.frozen 1; replace hO := hi_ (hO.out.below hB); clear hB)
   go_ret2
   exact ⟨rfl, hL.out.at_, hS.out⟩
  | cons x t =>
   obtain ⟨X, hX⟩ := hidE (x.toNat : Int)
   have hX0 : 0 ≤ X ∧ X ≤ 255 := by rw [hX.out]; have := x.toNat_lt; omega
   have cp := fun W h => rx_peek0 (L := L) (A := A) (c := c) (bs := bs) (D := D) (P := P) (x := x) (t := t) X hX.out W h
   have hpc := pos_cons hL.suf
   have h92 : (X == 92) = (x == 92) := by rw [hX.out, u8_eqI x 92]; rfl
   simp only [List.length_cons] at hf hop2
   replace cp := hi_ cp
   replace hpc := hi_ hpc
   replace hL := hi_ hL
   replace hS := hi_ hS
   replace hE := hi_ hE
   replace hO := hi_ hO
   replace hf := hi_ hf
   have hbw : bs.length + 1 - posOf L wr = (x :: t).length + 1 := by
    rw [hms.out]; have := pos_len hL.out.suf; have := pos_le bs (x :: t); omega
   replace hbw := hi_ hbw
   cases hx92 : (x == 92) with
   | true =>
    rw [hx92] at h92
    obtain rfl : x = 92 := by simpa using hx92
    obtain rfl : X = 92 := by simpa using h92
    clear h92
    go_upto_region 13 with (go_at_call 82; (with_reducible refine (cp.out _ hL.out).mono ?_); rintro e w1 ⟨rfl, hB⟩; replace hL := hi_ (hL.out.below hB); replace hS := hi_ (hS.out.then_ hB); replace q1 := hL.out.blk.cell 1; rw [← hq.out] at q1; replace v1 := hL.out.blk.frozen 1; replace hO := hi_ (hO.out.below hB); clear hB)
    obtain ⟨W2, hW2⟩ : ∃ W, W = w1.setCell ⟨L, 1, none⟩ (.int .i64 (q + 1)) := ⟨_, rfl⟩
    rw [← hW2]
    have hL2 : LX L A c bs D P W2 t := by rw [hW2]; exact hL.out.next hq.out
    have hS2 : Save L w W2 := by rw [hW2]; exact hS.out.store 1 _
    have hO2 : Own w.heap.size W2 (.slice Ao m co) out := by rw [hW2]; exact hO.out.save_ ((Save.refl L w1).store 1 _) hLw
    replace hW2 := hi_ hW2
    clear hL hS hO q1 v1 hms hpc
    obtain ⟨hL, hS, hO⟩ : Hid (LX L A c bs D P W2 t) ∧ Hid (Save L w W2) ∧ Hid (Own w.heap.size W2 (.slice Ao m co) out) := ⟨Lib.hid hL2, Lib.hid hS2, Lib.hid hO2⟩
    clear hL2 hS2 hO2
    cases t with
    | nil =>
     have e4 : R = .err 2 [] := by rw [← hE.out, textS.eq_def]; rfl
     subst e4
     have cp := fun W h => rx_peekN (L := L) (A := A) (c := c) (bs := bs) (D := D) (P := P) W h
     replace cp := hi_ cp
     clear hE
     go_wp2_with (go_at_call 82; (with_reducible refine (cp.out _ hL.out).mono ?_); rintro e w1 ⟨rfl, hB⟩; replace hL := hi_ (hL.out.below hB); replace hS := hi_ (hS.out.then_ hB); replace q1 := hL.out.blk.cell 1; replace v1 := hL.out.blk.frozen 1; replace hO := hi_ (hO.out.below hB); clear hB)
     go_ret2
     exact ⟨rfl, hL.out.at_, hS.out⟩
    | cons d u =>
     obtain ⟨Y, hY⟩ := hidE (d.toNat : Int)
     have hY0 : 0 ≤ Y ∧ Y ≤ 255 := by rw [hY.out]; have := d.toNat_lt; omega
     have cp2 := fun W h => rx_peek0 (L := L) (A := A) (c := c) (bs := bs) (D := D) (P := P) (x := d) (t := u) Y hY.out W h
     have ces := fun W (h : LX L A c bs D P W (d :: u)) => rx_escape h
     have hE2 := hE.out
     rw [text_esc] at hE2
     have hul := esc_len d u
     simp only [List.length_cons] at hf hop2 hbw
     obtain ⟨E, hEe⟩ : ∃ E, E = escS d u := ⟨_, rfl⟩
     rw [← hEe] at ces hE2 hul
     replace cp2 := hi_ cp2
     replace ces := hi_ ces
     replace hEe := hi_ hEe
     obtain ⟨ev, u2⟩ := E
     clear hE cp
     cases ev with
     | none =>
      simp only [] at hE2 hul
      simp only [escV] at ces
      replace hE2 := hi_ hE2
      replace hul := hi_ hul
      go_upto_region 18 with (first
       | (go_at_call 82; (with_reducible refine (cp2.out _ hL.out).mono ?_); rintro e w1 ⟨rfl, hB⟩; replace hL := hi_ (hL.out.below hB); replace hS := hi_ (hS.out.then_ hB); replace q1 := hL.out.blk.cell 1; replace v1 := hL.out.blk.frozen 1; replace hO := hi_ (hO.out.below hB); clear hB)
       | (go_at_call 153; (with_reducible refine (ces.out _ hL.out).mono ?_); rintro e w3 ⟨rfl, hL3, hS3⟩; replace hO := hi_ (hO.out.save_ hS3 hLw); replace hS := hi_ (hS.out.trans hS3); replace hL := hi_ hL3; clear hL3 hS3))
      go_wp2
      have e1 := hL.out.posOf
      have e3 := hf.out
      have e5 := hm.out
      have e6 := hmx.out
      have e7 := hop1.out
      have e8 := hop2.out
      have e9 := hul.out
      have e10 := hbw.out
      have e11 := suf_len hL.out.suf
      exact ⟨⟨f, op, out, u2, by rw [hoi.out], by omega, by omega, hO.out, hL.out, hE2.out, by omega, by omega, hS.out⟩, by rw [e1, e10]; unfold pos; omega⟩
     | some z =>
      simp only [] at hE2 hul
      simp only [escV] at ces
      obtain ⟨Z, hZ⟩ := hidE (z.toNat : Int)
      have hZ0 : 0 ≤ Z ∧ Z ≤ 255 := by rw [hZ.out]; have := z.toNat_lt; omega
      rw [← hZ.out] at ces
      replace hE2 := hi_ hE2
      replace hul := hi_ hul
      go_upto_region 18 with (first
       | (go_at_call 82; (with_reducible refine (cp2.out _ hL.out).mono ?_); rintro e w1 ⟨rfl, hB⟩; replace hL := hi_ (hL.out.below hB); replace hS := hi_ (hS.out.then_ hB); replace q1 := hL.out.blk.cell 1; replace v1 := hL.out.blk.frozen 1; replace hO := hi_ (hO.out.below hB); clear hB)
       | (go_at_call 153; (with_reducible refine (ces.out _ hL.out).mono ?_); rintro e w3 ⟨rfl, hL3, hS3⟩; replace hO := hi_ (hO.out.save_ hS3 hLw); replace hS := hi_ (hS.out.trans hS3); replace hL := hi_ hL3; clear hL3 hS3))
      replace hE2 := hE2.out
      obtain ⟨W5, hW5⟩ : ∃ W, W = w3 := ⟨_, rfl⟩
      rw [← hW5] at hL hS hO ⊢
      have hmz : bs.length + 1 - pos bs u2 < bs.length + 1 - posOf L wr := by
       have e9 := hul.out
       have e10 := hbw.out
       have e11 := suf_len hL.out.suf
       rw [e10]; unfold pos; omega
      have hop9 : 1 ≤ op ∧ op + u2.length ≤ r.length + 1 := by
       have e7 := hop1.out
       have e8 := hop2.out
       have e9 := hul.out
       omega
      have hf9 : u2.length < f := by
       have e3 := hf.out
       have e9 := hul.out
       omega
      replace hmz := hi_ hmz
      replace hop9 := hi_ hop9
      replace hf9 := hi_ hf9
      replace hW5 := hi_ hW5
      by_cases h7 : 32767 ≤ m
      ·have e7 : decide ((32767 : Int) ≤ (m : Int)) = true := by simp; omega
       rw [if_pos (by have := hm.out; omega)] at hE2
       subst hE2
       replace h7 := hi_ h7
       go_wp2
       go_ret2
       exact ⟨rfl, hL.out.at_, hS.out⟩
      ·have e7 : decide ((32767 : Int) ≤ (m : Int)) = false := by simp; omega
       rw [if_neg (by have := hm.out; omega)] at hE2
       replace hE2 := hi_ hE2
       replace h7 := hi_ h7
       go_upto_region 23 with (fail)
       have hL2 := hL.out
       have hS2 := hS.out
       have hO2 := hO.out
       obtain ⟨Wa, hWa⟩ : ∃ W, W = W5.alloc (.cells #[.int .u8 Z] 5) := ⟨_, rfl⟩
       have hba : Below W5.heap.size W5 Wa := by rw [hWa]; exact (Below.refl _ _).alloc (Nat.le_refl _) _
       have hb1 : Byt Wa (some ⟨W5.heap.size, 0, none⟩) [z] := by rw [hWa, hZ.out]; exact byt_new1 W5 z 5
       have hO3 := hO2.below hba
       have hL3 := hL2.below hba
       have hS3 := hS2.then_ hba
       have zs := hS2.size
       have za := hba.size
       replace hWa := hi_ hWa
       replace hba := hi_ hba
       replace hb1 := hi_ hb1
       replace hL2 := hi_ hL2
       replace hS2 := hi_ hS2
       replace hO2 := hi_ hO2
       replace hL3 := hi_ hL3
       replace hS3 := hi_ hS3
       replace hO3 := hi_ hO3
       have hw8 : IntKind.u8.wrap Z = Z := by unfold IntKind.wrap; simp [IntKind.signed, IntKind.bits] <;> omega
       go_wp2_with (at_builtin; rw [← hWa.out]; refine app_b rfl _ _ rfl w.heap.size _ _ rfl hO3.out (some ⟨W5.heap.size, 0, none⟩) 1 1 [z] rfl rfl hb1.out (fun e => (by cases e)) (by have := hm.out; have := hmx.out; simp only [List.length_cons, List.length_nil]; omega) (by omega) ?_; intro v' w2 hO4 hB4; replace hO4 := hi_ hO4; replace hB4 := hi_ hB4)
       have hL4 := hL3.out.belowB hB4.out hLw hAw.out
       have hS4 := hS3.out.thenB hB4.out
       have e1 := hL4.posOf
       have e5 := hm.out
       have e6 := h7.out
       have e8 := hmz.out
       exact ⟨⟨f, op, _, _, by rw [hoi.out], hop9.out.1, hop9.out.2, hO4.out, hL4, hE2.out, hf9.out, by simp only [List.length_append, List.length_cons, List.length_nil]; omega, hS4⟩, by rw [e1]; exact e8⟩
   | false =>
    have hn92 : x ≠ 92 := by simpa using hx92
    rw [hx92] at h92
    have ce := fun W (h : LX L A c bs D P W (x :: t)) => rx_eol h
    by_cases hnl : x = 13 ∨ x = 10
    ·have e1 : eolR (x :: t) = (true, eolS x t) := by rw [eolR, if_pos hnl]
     rw [e1] at ce
     have hE2 := hE.out
     rw [text_eol hnl] at hE2
     obtain ⟨u2, hu2⟩ : ∃ u, u = eolS x t := ⟨_, rfl⟩
     have hul := eolS_len x t
     rw [← hu2] at ce hE2 hul
     simp only [] at ce
     replace ce := hi_ ce
     replace hE2 := hi_ hE2
     clear e1 hnl hE
     go_upto_region 18 with (first
      | (go_at_call 82; (with_reducible refine (cp.out _ hL.out).mono ?_); rintro e w1 ⟨rfl, hB⟩; replace hL := hi_ (hL.out.below hB); replace hS := hi_ (hS.out.then_ hB); replace q1 := hL.out.blk.cell 1; rw [← hq.out] at q1; replace v1 := hL.out.blk.frozen 1; replace hO := hi_ (hO.out.below hB); clear hB)
      | (go_at_call 84; (with_reducible refine (ce.out _ hL.out).mono ?_); rintro e w3 ⟨rfl, hL3, hS3⟩; replace hO := hi_ (hO.out.save_ hS3 hLw); replace hS := hi_ (hS.out.trans hS3); replace hL := hi_ hL3; clear hL3 hS3))
     replace hE2 := hE2.out
     obtain ⟨W5, hW5⟩ : ∃ W, W = w3 := ⟨_, rfl⟩
     rw [← hW5] at hL hS hO ⊢
     have hmz : bs.length + 1 - pos bs u2 < bs.length + 1 - posOf L wr := by
      have e10 := hbw.out
      have e11 := suf_len hL.out.suf
      simp only [List.length_cons] at e10
      rw [e10]; unfold pos; omega
     have hop9 : 1 ≤ op ∧ op + u2.length ≤ r.length + 1 := by
      have e7 := hop1.out
      have e8 := hop2.out
      omega
     have hf9 : u2.length < f := by
      have e3 := hf.out
      omega
     obtain ⟨Z, hZ⟩ : ∃ Z : Int, Z = ((10 : UInt8).toNat : Int) := ⟨_, rfl⟩
     have hZ10 : Z = 10 := hZ
     replace hmz := hi_ hmz
     replace hop9 := hi_ hop9
     replace hf9 := hi_ hf9
     replace hW5 := hi_ hW5
     replace hul := hi_ hul
     replace hu2 := hi_ hu2
     have hZ0 : 0 ≤ (10 : Int) ∧ (10 : Int) ≤ 255 := by omega
     have hZe : (10 : Int) = ((10 : UInt8).toNat : Int) := rfl
     replace hZe := hi_ hZe
     clear hZ hZ10
     by_cases h7 : 32767 ≤ m
     ·have e7 : decide ((32767 : Int) ≤ (m : Int)) = true := by simp; omega
      rw [if_pos (by have := hm.out; omega)] at hE2
      subst hE2
      replace h7 := hi_ h7
      go_wp2
      go_ret2
      exact ⟨rfl, hL.out.at_, hS.out⟩
     ·have e7 : decide ((32767 : Int) ≤ (m : Int)) = false := by simp; omega
      rw [if_neg (by have := hm.out; omega)] at hE2
      replace hE2 := hi_ hE2
      replace h7 := hi_ h7
      go_upto_region 23 with (fail)
      have hL2 := hL.out
      have hS2 := hS.out
      have hO2 := hO.out
      obtain ⟨Wa, hWa⟩ : ∃ W, W = W5.alloc (.cells #[.int .u8 10] 5) := ⟨_, rfl⟩
      have hba : Below W5.heap.size W5 Wa := by rw [hWa]; exact (Below.refl _ _).alloc (Nat.le_refl _) _
      have hb1 : Byt Wa (some ⟨W5.heap.size, 0, none⟩) [10] := by rw [hWa, hZe.out]; exact byt_new1 W5 10 5
      have hO3 := hO2.below hba
      have hL3 := hL2.below hba
      have hS3 := hS2.then_ hba
      have zs := hS2.size
      have za := hba.size
      replace hWa := hi_ hWa
      replace hba := hi_ hba
      replace hb1 := hi_ hb1
      replace hL2 := hi_ hL2
      replace hS2 := hi_ hS2
      replace hO2 := hi_ hO2
      replace hL3 := hi_ hL3
      replace hS3 := hi_ hS3
      replace hO3 := hi_ hO3
      have hw8 : IntKind.u8.wrap 10 = 10 := by unfold IntKind.wrap; simp [IntKind.signed, IntKind.bits] <;> omega
      go_wp2_with (at_builtin; rw [← hWa.out]; refine app_b rfl _ _ rfl w.heap.size _ _ rfl hO3.out (some ⟨W5.heap.size, 0, none⟩) 1 1 [10] rfl rfl hb1.out (fun e => (by cases e)) (by have := hm.out; have := hmx.out; simp only [List.length_cons, List.length_nil]; omega) (by omega) ?_; intro v' w2 hO4 hB4; replace hO4 := hi_ hO4; replace hB4 := hi_ hB4)
      have hL4 := hL3.out.belowB hB4.out hLw hAw.out
      have hS4 := hS3.out.thenB hB4.out
      have e1 := hL4.posOf
      have e5 := hm.out
      have e6 := h7.out
      have e8 := hmz.out
      exact ⟨⟨f, op, _, _, by rw [hoi.out], hop9.out.1, hop9.out.2, hO4.out, hL4, hE2.out, hf9.out, by simp only [List.length_append, List.length_cons, List.length_nil]; omega, hS4⟩, by rw [e1]; exact e8⟩
    ·have e1 : eolR (x :: t) = (false, x :: t) := by rw [eolR, if_neg hnl]
     rw [e1] at ce
     simp only [] at ce
     have hE2 := hE.out
     rw [text_one hn92 hnl] at hE2
     have h40 : (X == 40) = (x == 40) := by rw [hX.out, u8_eqI x 40]; rfl
     have h41 : (X == 41) = (x == 41) := by rw [hX.out, u8_eqI x 41]; rfl
     replace ce := hi_ ce
     replace hE2 := hi_ hE2
     clear e1 hnl hE
     cases hx41 : (x == 41) with
     | true =>
      rw [hx41] at h41
      obtain rfl : x = 41 := by simpa using hx41
      obtain rfl : X = 41 := by simpa using h41
      clear h41 h40
      by_cases ho : op = 1
      ·have e4 := hE2.out
       rw [if_pos ⟨rfl, ho⟩] at e4
       subst e4
       obtain rfl : oi = 1 := by rw [hoi.out, ho]; rfl
       clear hE2
       go_wp2_with (first
        | (go_at_call 82; (with_reducible refine (cp.out _ hL.out).mono ?_); rintro e w1 ⟨rfl, hB⟩; replace hL := hi_ (hL.out.below hB); replace hS := hi_ (hS.out.then_ hB); replace q1 := hL.out.blk.cell 1; rw [← hq.out] at q1; replace v1 := hL.out.blk.frozen 1; replace hO := hi_ (hO.out.below hB); clear hB)
        | (go_at_call 84; (with_reducible refine (ce.out _ hL.out).mono ?_); rintro e w3 ⟨rfl, hL3, hS3⟩; replace hO := hi_ (hO.out.save_ hS3 hLw); replace hS := hi_ (hS.out.trans hS3); replace hL := hi_ hL3; replace q1 := hL.out.blk.cell 1; rw [← hq.out] at q1; replace v1 := hL.out.blk.frozen 1; clear hL3 hS3))
       go_ret2
       exact ⟨_, rfl, hO.out.save_ ((Save.refl L w3).store 1 _) hLw, hL.out.next hq.out, hS.out.store 1 _⟩
      ·have hE3 := hE2.out
       rw [if_neg (fun h => ho h.2), show (if (41 : UInt8) = 40 then op + 1 else if (41 : UInt8) = 41 then op - 1 else op) = op - 1 from by rw [if_neg (by decide), if_pos rfl]] at hE3
       clear hE2
       have hoi2 : 2 ≤ oi := by have := hop1.out; rw [hoi.out]; omega
       obtain ⟨o2, ho2⟩ : ∃ o, o = op - 1 := ⟨_, rfl⟩
       rw [← ho2] at hE3
       have ho3 : oi - 1 = (o2 : Int) := by rw [hoi.out, ho2]; have := hop1.out; omega
       replace hE3 := hi_ hE3
       replace ho3 := hi_ ho3
       have ho4 : 1 ≤ o2 ∧ o2 ≤ op := by have := hop1.out; omega
       replace ho4 := hi_ ho4
       clear ho ho2
       go_upto_region 18 with (first
        | (go_at_call 82; (with_reducible refine (cp.out _ hL.out).mono ?_); rintro e w1 ⟨rfl, hB⟩; replace hL := hi_ (hL.out.below hB); replace hS := hi_ (hS.out.then_ hB); replace q1 := hL.out.blk.cell 1; rw [← hq.out] at q1; replace v1 := hL.out.blk.frozen 1; replace hO := hi_ (hO.out.below hB); clear hB)
        | (go_at_call 84; (with_reducible refine (ce.out _ hL.out).mono ?_); rintro e w3 ⟨rfl, hL3, hS3⟩; replace hO := hi_ (hO.out.save_ hS3 hLw); replace hS := hi_ (hS.out.trans hS3); replace hL := hi_ hL3; replace q1 := hL.out.blk.cell 1; rw [← hq.out] at q1; replace v1 := hL.out.blk.frozen 1; clear hL3 hS3))
       obtain ⟨W5, hW5⟩ : ∃ W, W = w3.setCell ⟨L, 1, none⟩ (.int .i64 (q + 1)) := ⟨_, rfl⟩
       rw [← hW5]
       have hL2 : LX L A c bs D P W5 t := by rw [hW5]; exact hL.out.next hq.out
       have hS2 : Save L w W5 := by rw [hW5]; exact hS.out.store 1 _
       have hO2 : Own w.heap.size W5 (.slice Ao m co) out := by rw [hW5]; exact hO.out.save_ ((Save.refl L w3).store 1 _) hLw
       clear hL hS hO q1 v1 hms
       obtain ⟨hL, hS, hO⟩ : Hid (LX L A c bs D P W5 t) ∧ Hid (Save L w W5) ∧ Hid (Own w.heap.size W5 (.slice Ao m co) out) := ⟨Lib.hid hL2, Lib.hid hS2, Lib.hid hO2⟩
       clear hL2 hS2 hO2
       have hE2 := hE3.out
       have hmz : bs.length + 1 - pos bs t < bs.length + 1 - posOf L wr := by
        have e10 := hbw.out
        have e11 := suf_len hL.out.suf
        simp only [List.length_cons] at e10
        rw [e10]; unfold pos; omega
       have hop9 : 1 ≤ o2 ∧ o2 + t.length ≤ r.length + 1 := by
        have e7 := ho4.out
        have e8 := hop2.out
        omega
       have hf9 : t.length < f := by have e3 := hf.out; omega
       replace hmz := hi_ hmz
       replace hop9 := hi_ hop9
       replace hf9 := hi_ hf9
       replace hW5 := hi_ hW5
       clear hE3
       by_cases h7 : 32767 ≤ m
       ·have e7 : decide ((32767 : Int) ≤ (m : Int)) = true := by simp; omega
        rw [if_pos (by have := hm.out; omega)] at hE2
        subst hE2
        replace h7 := hi_ h7
        go_wp2
        go_ret2
        exact ⟨rfl, hL.out.at_, hS.out⟩
       ·have e7 : decide ((32767 : Int) ≤ (m : Int)) = false := by simp; omega
        rw [if_neg (by have := hm.out; omega)] at hE2
        replace hE2 := hi_ hE2
        replace h7 := hi_ h7
        go_upto_region 23 with (fail)
        have hL2 := hL.out
        have hS2 := hS.out
        have hO2 := hO.out
        obtain ⟨Wa, hWa⟩ : ∃ W, W = W5.alloc (.cells #[.int .u8 41] 5) := ⟨_, rfl⟩
        have hba : Below W5.heap.size W5 Wa := by rw [hWa]; exact (Below.refl _ _).alloc (Nat.le_refl _) _
        have hb1 : Byt Wa (some ⟨W5.heap.size, 0, none⟩) [41] := by rw [hWa, hX.out]; exact byt_new1 W5 41 5
        have hO3 := hO2.below hba
        have hL3 := hL2.below hba
        have hS3 := hS2.then_ hba
        have zs := hS2.size
        have za := hba.size
        replace hWa := hi_ hWa
        replace hba := hi_ hba
        replace hb1 := hi_ hb1
        replace hL2 := hi_ hL2
        replace hS2 := hi_ hS2
        replace hO2 := hi_ hO2
        replace hL3 := hi_ hL3
        replace hS3 := hi_ hS3
        replace hO3 := hi_ hO3
        have hw8 : IntKind.u8.wrap 41 = 41 := by unfold IntKind.wrap; simp [IntKind.signed, IntKind.bits] <;> omega
        go_wp2_with (at_builtin; rw [← hWa.out]; refine app_b rfl _ _ rfl w.heap.size _ _ rfl hO3.out (some ⟨W5.heap.size, 0, none⟩) 1 1 [41] rfl rfl hb1.out (fun e => (by cases e)) (by have := hm.out; have := hmx.out; simp only [List.length_cons, List.length_nil]; omega) (by omega) ?_; intro v' w2 hO4 hB4; replace hO4 := hi_ hO4; replace hB4 := hi_ hB4)
        have hL4 := hL3.out.belowB hB4.out hLw hAw.out
        have hS4 := hS3.out.thenB hB4.out
        have e1 := hL4.posOf
        have e5 := hm.out
        have e6 := h7.out
        have e8 := hmz.out
        exact ⟨⟨f, o2, _, _, by rw [← ho3.out], hop9.out.1, hop9.out.2, hO4.out, hL4, hE2.out, hf9.out, by simp only [List.length_append, List.length_cons, List.length_nil]; omega, hS4⟩, by rw [e1]; exact e8⟩
     | false =>
      rw [hx41] at h41
      have hn41 : ¬ x = 41 := by simpa using hx41
      have hE4 := hE2.out
      rw [if_neg (fun h => hn41 h.1)] at hE4
      clear hE2
      cases hx40 : (x == 40) with
      | true =>
       rw [hx40] at h40
       obtain rfl : x = 40 := by simpa using hx40
       obtain rfl : X = 40 := by simpa using h40
       clear h40 h41
       rw [if_pos rfl] at hE4
       obtain ⟨o2, ho2⟩ : ∃ o, o = op + 1 := ⟨_, rfl⟩
       rw [← ho2] at hE4
       have ho3 : oi + 1 = (o2 : Int) := by rw [hoi.out, ho2]; omega
       have ho4 : 1 ≤ o2 ∧ o2 ≤ op + 1 := by have := hop1.out; omega
       have hE3 := hi_ hE4
       replace ho3 := hi_ ho3
       replace ho4 := hi_ ho4
       clear ho2 hE4
       go_upto_region 18 with (first
        | (go_at_call 82; (with_reducible refine (cp.out _ hL.out).mono ?_); rintro e w1 ⟨rfl, hB⟩; replace hL := hi_ (hL.out.below hB); replace hS := hi_ (hS.out.then_ hB); replace q1 := hL.out.blk.cell 1; rw [← hq.out] at q1; replace v1 := hL.out.blk.frozen 1; replace hO := hi_ (hO.out.below hB); clear hB)
        | (go_at_call 84; (with_reducible refine (ce.out _ hL.out).mono ?_); rintro e w3 ⟨rfl, hL3, hS3⟩; replace hO := hi_ (hO.out.save_ hS3 hLw); replace hS := hi_ (hS.out.trans hS3); replace hL := hi_ hL3; replace q1 := hL.out.blk.cell 1; rw [← hq.out] at q1; replace v1 := hL.out.blk.frozen 1; clear hL3 hS3))
       obtain ⟨W5, hW5⟩ : ∃ W, W = w3.setCell ⟨L, 1, none⟩ (.int .i64 (q + 1)) := ⟨_, rfl⟩
       rw [← hW5]
       have hL2 : LX L A c bs D P W5 t := by rw [hW5]; exact hL.out.next hq.out
       have hS2 : Save L w W5 := by rw [hW5]; exact hS.out.store 1 _
       have hO2 : Own w.heap.size W5 (.slice Ao m co) out := by rw [hW5]; exact hO.out.save_ ((Save.refl L w3).store 1 _) hLw
       clear hL hS hO q1 v1 hms
       obtain ⟨hL, hS, hO⟩ : Hid (LX L A c bs D P W5 t) ∧ Hid (Save L w W5) ∧ Hid (Own w.heap.size W5 (.slice Ao m co) out) := ⟨Lib.hid hL2, Lib.hid hS2, Lib.hid hO2⟩
       clear hL2 hS2 hO2
       have hE2 := hE3.out
       have hmz : bs.length + 1 - pos bs t < bs.length + 1 - posOf L wr := by
        have e10 := hbw.out
        have e11 := suf_len hL.out.suf
        simp only [List.length_cons] at e10
        rw [e10]; unfold pos; omega
       have hop9 : 1 ≤ o2 ∧ o2 + t.length ≤ r.length + 1 := by
        have e7 := ho4.out
        have e8 := hop2.out
        omega
       have hf9 : t.length < f := by have e3 := hf.out; omega
       replace hmz := hi_ hmz
       replace hop9 := hi_ hop9
       replace hf9 := hi_ hf9
       replace hW5 := hi_ hW5
       clear hE3
       by_cases h7 : 32767 ≤ m
       ·have e7 : decide ((32767 : Int) ≤ (m : Int)) = true := by simp; omega
        rw [if_pos (by have := hm.out; omega)] at hE2
        subst hE2
        replace h7 := hi_ h7
        go_wp2
        go_ret2
        exact ⟨rfl, hL.out.at_, hS.out⟩
       ·have e7 : decide ((32767 : Int) ≤ (m : Int)) = false := by simp; omega
        rw [if_neg (by have := hm.out; omega)] at hE2
        replace hE2 := hi_ hE2
        replace h7 := hi_ h7
        go_upto_region 23 with (fail)
        have hL2 := hL.out
        have hS2 := hS.out
        have hO2 := hO.out
        obtain ⟨Wa, hWa⟩ : ∃ W, W = W5.alloc (.cells #[.int .u8 40] 5) := ⟨_, rfl⟩
        have hba : Below W5.heap.size W5 Wa := by rw [hWa]; exact (Below.refl _ _).alloc (Nat.le_refl _) _
        have hb1 : Byt Wa (some ⟨W5.heap.size, 0, none⟩) [40] := by rw [hWa, hX.out]; exact byt_new1 W5 40 5
        have hO3 := hO2.below hba
        have hL3 := hL2.below hba
        have hS3 := hS2.then_ hba
        have zs := hS2.size
        have za := hba.size
        replace hWa := hi_ hWa
        replace hba := hi_ hba
        replace hb1 := hi_ hb1
        replace hL2 := hi_ hL2
        replace hS2 := hi_ hS2
        replace hO2 := hi_ hO2
        replace hL3 := hi_ hL3
        replace hS3 := hi_ hS3
        replace hO3 := hi_ hO3
        have hw8 : IntKind.u8.wrap 40 = 40 := by unfold IntKind.wrap; simp [IntKind.signed, IntKind.bits] <;> omega
        go_wp2_with (at_builtin; rw [← hWa.out]; refine app_b rfl _ _ rfl w.heap.size _ _ rfl hO3.out (some ⟨W5.heap.size, 0, none⟩) 1 1 [40] rfl rfl hb1.out (fun e => (by cases e)) (by have := hm.out; have := hmx.out; simp only [List.length_cons, List.length_nil]; omega) (by omega) ?_; intro v' w2 hO4 hB4; replace hO4 := hi_ hO4; replace hB4 := hi_ hB4)
        have hL4 := hL3.out.belowB hB4.out hLw hAw.out
        have hS4 := hS3.out.thenB hB4.out
        have e1 := hL4.posOf
        have e5 := hm.out
        have e6 := h7.out
        have e8 := hmz.out
        exact ⟨⟨f, o2, _, _, by rw [← ho3.out], hop9.out.1, hop9.out.2, hO4.out, hL4, hE2.out, hf9.out, by simp only [List.length_append, List.length_cons, List.length_nil]; omega, hS4⟩, by rw [e1]; exact e8⟩
      | false =>
       rw [hx40] at h40
       have hn40 : ¬ x = 40 := by simpa using hx40
       rw [if_neg hn40, if_neg hn41] at hE4
       have hE3 := hi_ hE4
       have ho4 : 1 ≤ op ∧ op ≤ op + 1 := by have := hop1.out; omega
       replace ho4 := hi_ ho4
       clear hE4
       go_upto_region 18 with (first
        | (go_at_call 82; (with_reducible refine (cp.out _ hL.out).mono ?_); rintro e w1 ⟨rfl, hB⟩; replace hL := hi_ (hL.out.below hB); replace hS := hi_ (hS.out.then_ hB); replace q1 := hL.out.blk.cell 1; rw [← hq.out] at q1; replace v1 := hL.out.blk.frozen 1; replace hO := hi_ (hO.out.below hB); clear hB)
        | (go_at_call 84; (with_reducible refine (ce.out _ hL.out).mono ?_); rintro e w3 ⟨rfl, hL3, hS3⟩; replace hO := hi_ (hO.out.save_ hS3 hLw); replace hS := hi_ (hS.out.trans hS3); replace hL := hi_ hL3; replace q1 := hL.out.blk.cell 1; rw [← hq.out] at q1; replace v1 := hL.out.blk.frozen 1; clear hL3 hS3))
       obtain ⟨W5, hW5⟩ : ∃ W, W = w3.setCell ⟨L, 1, none⟩ (.int .i64 (q + 1)) := ⟨_, rfl⟩
       rw [← hW5]
       have hL2 : LX L A c bs D P W5 t := by rw [hW5]; exact hL.out.next hq.out
       have hS2 : Save L w W5 := by rw [hW5]; exact hS.out.store 1 _
       have hO2 : Own w.heap.size W5 (.slice Ao m co) out := by rw [hW5]; exact hO.out.save_ ((Save.refl L w3).store 1 _) hLw
       clear hL hS hO q1 v1 hms
       obtain ⟨hL, hS, hO⟩ : Hid (LX L A c bs D P W5 t) ∧ Hid (Save L w W5) ∧ Hid (Own w.heap.size W5 (.slice Ao m co) out) := ⟨Lib.hid hL2, Lib.hid hS2, Lib.hid hO2⟩
       clear hL2 hS2 hO2
       have hE2 := hE3.out
       have hmz : bs.length + 1 - pos bs t < bs.length + 1 - posOf L wr := by
        have e10 := hbw.out
        have e11 := suf_len hL.out.suf
        simp only [List.length_cons] at e10
        rw [e10]; unfold pos; omega
       have hop9 : 1 ≤ op ∧ op + t.length ≤ r.length + 1 := by
        have e7 := ho4.out
        have e8 := hop2.out
        omega
       have hf9 : t.length < f := by have e3 := hf.out; omega
       replace hmz := hi_ hmz
       replace hop9 := hi_ hop9
       replace hf9 := hi_ hf9
       replace hW5 := hi_ hW5
       clear hE3
       by_cases h7 : 32767 ≤ m
       ·have e7 : decide ((32767 : Int) ≤ (m : Int)) = true := by simp; omega
        rw [if_pos (by have := hm.out; omega)] at hE2
        subst hE2
        replace h7 := hi_ h7
        go_wp2
        go_ret2
        exact ⟨rfl, hL.out.at_, hS.out⟩
       ·have e7 : decide ((32767 : Int) ≤ (m : Int)) = false := by simp; omega
        rw [if_neg (by have := hm.out; omega)] at hE2
        replace hE2 := hi_ hE2
        replace h7 := hi_ h7
        go_upto_region 23 with (fail)
        have hL2 := hL.out
        have hS2 := hS.out
        have hO2 := hO.out
        obtain ⟨Wa, hWa⟩ : ∃ W, W = W5.alloc (.cells #[.int .u8 X] 5) := ⟨_, rfl⟩
        have hba : Below W5.heap.size W5 Wa := by rw [hWa]; exact (Below.refl _ _).alloc (Nat.le_refl _) _
        have hb1 : Byt Wa (some ⟨W5.heap.size, 0, none⟩) [x] := by rw [hWa, hX.out]; exact byt_new1 W5 x 5
        have hO3 := hO2.below hba
        have hL3 := hL2.below hba
        have hS3 := hS2.then_ hba
        have zs := hS2.size
        have za := hba.size
        replace hWa := hi_ hWa
        replace hba := hi_ hba
        replace hb1 := hi_ hb1
        replace hL2 := hi_ hL2
        replace hS2 := hi_ hS2
        replace hO2 := hi_ hO2
        replace hL3 := hi_ hL3
        replace hS3 := hi_ hS3
        replace hO3 := hi_ hO3
        have hw8 : IntKind.u8.wrap X = X := by unfold IntKind.wrap; simp [IntKind.signed, IntKind.bits] <;> omega
        go_wp2_with (at_builtin; rw [← hWa.out]; refine app_b rfl _ _ rfl w.heap.size _ _ rfl hO3.out (some ⟨W5.heap.size, 0, none⟩) 1 1 [x] rfl rfl hb1.out (fun e => (by cases e)) (by have := hm.out; have := hmx.out; simp only [List.length_cons, List.length_nil]; omega) (by omega) ?_; intro v' w2 hO4 hB4; replace hO4 := hi_ hO4; replace hB4 := hi_ hB4)
        have hL4 := hL3.out.belowB hB4.out hLw hAw.out
        have hS4 := hS3.out.thenB hB4.out
        have e1 := hL4.posOf
        have e5 := hm.out
        have e6 := h7.out
        have e8 := hmz.out
        exact ⟨⟨f, op, _, _, by rw [hoi.out], hop9.out.1, hop9.out.2, hO4.out, hL4, hE2.out, hf9.out, by simp only [List.length_append, List.length_cons, List.length_nil]; omega, hS4⟩, by rw [e1]; exact e8⟩
end

/- The document's hex: digits by pairs read. No condition. -/
section
variable {L : Nat} {A : Option Addr} {c : Nat} {bs : Bs} {D P : Value} {w w' : World} {r r' : Bs}
theorem hex_step {f : Nat} {h : Int} {out t : Bs} {x : UInt8} (hw : whiteB x = false) : hexR (f + 1) h out (x :: t) =
 if x = 62 then (if h < 0 then .ok out t else if 32767 ≤ out.length then .err 3 t else .ok (out ++ [UInt8.ofNat (16 * h).toNat]) t)
 else if digI x.toNat < 0 then .err 4 t else if h < 0 then hexR f (digI x.toNat) out t else if 32767 ≤ out.length then .err 3 t else hexR f (-1) (out ++ [UInt8.ofNat (16 * h + digI x.toNat).toNat]) t := by
 rw [hexR, hw, if_neg (by decide)]
set_option maxHeartbeats 8000000 in
set_option maxRecDepth 100000 in
theorem rx_hex (h : LX L A c bs D P w r) : Calls Tryz.prog 142 #[.pointer (some ⟨L, 0, none⟩)] w (LexR L A c bs D P w (hexR (r.length + 1) (-1) [] r)) := by
 obtain ⟨R, hR⟩ : ∃ R, R = hexR (r.length + 1) (-1) [] r := ⟨_, rfl⟩
 rw [← hR]
 have hLw := h.lt
 have hAw := h.a_lt
 replace hAw := hi_ hAw
 replace hR := hi_ hR
 replace h := hi_ h
 go_enter Tryz.func142, Tryz.ntmps142
 go_wp2
 go_loopw [4, 5] (fun s4 s5 wr => ∃ f half out r1, s5 = .int .i64 half ∧ -1 ≤ half ∧ half ≤ 15 ∧ Own w.heap.size wr s4 out ∧ LX L A c bs D P wr r1 ∧ hexR f half out r1 = R ∧ r1.length < f ∧ out.length ≤ 32767 ∧ Save L w wr) (fun _ _ wr => bs.length + 1 - posOf L wr)
 case atStart => exact ⟨_, -1, _, r, rfl, by omega, by omega, Own.nil _ _, h.out, hR.out.symm, Nat.lt_succ_self _, by simp, Save.refl _ _⟩
 case round =>
  obtain ⟨f, half, out, r1, rfl, hh1, hh2, hO, hL, hE, hf, hmx, hS⟩ := hrel
  have hms := hL.posOf
  obtain ⟨f, rfl⟩ : ∃ g, f = g + 1 := ⟨f - 1, by omega⟩
  clear h hR
  obtain ⟨Ao, co, rfl, hby, hA⟩ := hO.out (by unfold maxLen; omega)
  obtain ⟨m, hm⟩ : ∃ m, m = out.length := ⟨_, rfl⟩
  rw [← hm] at hmx hO ⊢
  clear hby hA
  replace hm := hi_ hm
  replace hmx := hi_ hmx
  obtain ⟨q, hq, hq0, hq1⟩ := hL.pos_i
  have q1 := hL.blk.cell 1
  have v1 := hL.blk.frozen 1
  rw [← hq] at q1
  replace hq := hi_ hq
  replace hms := hi_ hms
  cases r1 with
  | nil =>
   have e4 : R = .err 2 [] := by rw [← hE, hexR]
   subst e4
   have cp := fun W h => rx_peekN (L := L) (A := A) (c := c) (bs := bs) (D := D) (P := P) W h
   have cd := fun W => rf_Digit (w := W) (-1) (by omega)
   rw [show digI (-1) = -1 from rfl] at cd
   replace cd := hi_ cd
   replace cp := hi_ cp
   replace hL := hi_ hL
   replace hS := hi_ hS
   replace hO := hi_ hO
   clear hE
   go_wp2_with (first
    | (go_at_call 82; (with_reducible refine (cp.out _ hL.out).mono ?_); rintro e w1 ⟨rfl, hB⟩; replace hL := hi_ (hL.out.below hB); replace hS := hi_ (hS.out.then_ hB); replace q1 := hL.out.blk.cell 1; rw [← hq.out] at q1; replace v1 := hL.out.blk.frozen 1; replace hO := hi_ (hO.out.below hB); clear hB)
    | (go_at_call 152; (with_reducible refine (cd.out _).mono ?_); rintro e w2 ⟨rfl, rfl⟩))
   go_ret2
   exact ⟨rfl, ⟨_, hL.out.blk.set_ 1 _⟩, hS.out.store 1 _⟩
  | cons x t =>
   obtain ⟨X, hX⟩ := hidE (x.toNat : Int)
   have hX0 : 0 ≤ X ∧ X ≤ 255 := by rw [hX.out]; have := x.toNat_lt; omega
   have cp := fun W h => rx_peek0 (L := L) (A := A) (c := c) (bs := bs) (D := D) (P := P) (x := x) (t := t) X hX.out W h
   have hpc := pos_cons hL.suf
   have cw := fun W => rf_White (w := W) X
   have hw : whtI X = whiteB x := by rw [hX.out]; exact white_u8 x
   rw [hw] at cw
   have cd := fun W => rf_Digit (w := W) X (by omega)
   obtain ⟨d, hd⟩ : ∃ d, d = digI X := ⟨_, rfl⟩
   have rd := dig_range X
   rw [← hd] at cd rd
   have h62 : (X == 62) = (x == 62) := by rw [hX.out, u8_eqI x 62]; rfl
   simp only [List.length_cons] at hf
   replace hw := hi_ hw
   replace hd := hi_ hd
   replace cp := hi_ cp
   replace cw := hi_ cw
   replace cd := hi_ cd
   replace hpc := hi_ hpc
   replace hL := hi_ hL
   replace hS := hi_ hS
   replace hE := hi_ hE
   replace hO := hi_ hO
   replace hf := hi_ hf
   go_upto_region 5 with (go_at_call 82; (with_reducible refine (cp.out _ hL.out).mono ?_); rintro e w1 ⟨rfl, hB⟩; replace hL := hi_ (hL.out.below hB); replace hS := hi_ (hS.out.then_ hB); replace q1 := hL.out.blk.cell 1; rw [← hq.out] at q1; replace v1 := hL.out.blk.frozen 1; replace hO := hi_ (hO.out.below hB); clear hB)
   obtain ⟨W2, hW2⟩ : ∃ W, W = w1.setCell ⟨L, 1, none⟩ (.int .i64 (q + 1)) := ⟨_, rfl⟩
   rw [← hW2]
   have hL2 : LX L A c bs D P W2 t := by rw [hW2]; exact hL.out.next hq.out
   have hS2 : Save L w W2 := by rw [hW2]; exact hS.out.store 1 _
   have hO2 : Own w.heap.size W2 (.slice Ao m co) out := by rw [hW2]; exact hO.out.save_ ((Save.refl L w1).store 1 _) hLw
   have hmz : bs.length + 1 - posOf L W2 < bs.length + 1 - posOf L wr := by
    have e1 := hL2.posOf
    have e2 := hms.out
    have e3 := hpc.out
    rw [e1, e2]; omega
   replace hmz := hi_ hmz
   have hpz : posOf L W2 = pos bs t := hL2.posOf
   replace hpz := hi_ hpz
   replace hW2 := hi_ hW2
   clear hL hS hO q1 v1 hms hpc
   obtain ⟨hL, hS, hO⟩ : Hid (LX L A c bs D P W2 t) ∧ Hid (Save L w W2) ∧ Hid (Own w.heap.size W2 (.slice Ao m co) out) := ⟨Lib.hid hL2, Lib.hid hS2, Lib.hid hO2⟩
   clear hL2 hS2 hO2
   cases hwx : whiteB x with
   | true =>
    rw [hwx] at cw
    have e4 : hexR f half out t = R := by rw [← hE.out, hexR, hwx, if_pos rfl]
    replace e4 := hi_ e4
    clear hE
    go_wp2_with (first
     | (go_at_call 152; (with_reducible refine (cd.out _).mono ?_); rintro e w2 ⟨rfl, rfl⟩)
     | (go_at_call 63; (with_reducible refine (cw.out _).mono ?_); rintro e w2 ⟨rfl, rfl⟩))
    have e3 := hf.out
    have e6 := hm.out
    have e7 := hmx.out
    exact ⟨⟨f, half, out, t, rfl, hh1, hh2, hO.out, hL.out, e4.out, by omega, by omega, hS.out⟩, hmz.out⟩
   | false =>
    rw [hwx] at cw
    have hE2 := hE.out
    rw [hex_step hwx, ← hX.out, ← hd.out] at hE2
    clear hE
    cases hx62 : (x == 62) with
    | true =>
     rw [hx62] at h62
     rw [if_pos (by simpa using hx62)] at hE2
     obtain rfl : X = 62 := by simpa using h62
     clear h62
     by_cases hh : half < 0
     ·rw [if_pos hh] at hE2
      subst hE2
      go_wp2_with (first
       | (go_at_call 152; (with_reducible refine (cd.out _).mono ?_); rintro e w2 ⟨rfl, rfl⟩)
       | (go_at_call 63; (with_reducible refine (cw.out _).mono ?_); rintro e w2 ⟨rfl, rfl⟩))
      go_ret2
      exact ⟨_, rfl, hO.out, hL.out, hS.out⟩
     ·rw [if_neg hh] at hE2
      have hh3 : 0 ≤ half := by omega
      have hh4 : decide (half < 0) = false := by simp; omega
      clear hh
      by_cases h7 : 32767 ≤ m
      ·have e7 : decide ((32767 : Int) ≤ (m : Int)) = true := by simp; omega
       rw [if_pos (by have := hm.out; omega)] at hE2
       subst hE2
       replace h7 := hi_ h7
       go_wp2_with (first
        | (go_at_call 152; (with_reducible refine (cd.out _).mono ?_); rintro e w2 ⟨rfl, rfl⟩)
        | (go_at_call 63; (with_reducible refine (cw.out _).mono ?_); rintro e w2 ⟨rfl, rfl⟩))
       go_ret2
       exact ⟨rfl, hL.out.at_, hS.out⟩
      ·have e7 : decide ((32767 : Int) ≤ (m : Int)) = false := by simp; omega
       rw [if_neg (by have := hm.out; omega)] at hE2
       obtain ⟨z, hz⟩ : ∃ z : UInt8, z = UInt8.ofNat (16 * half).toNat := ⟨_, rfl⟩
       have hX2 : 16 * half = (z.toNat : Int) := by
        rw [hz, UInt8.toNat_ofNat_of_lt' (show (16 * half).toNat < 256 by omega)]; omega
       rw [← hz] at hE2
       subst hE2
       replace h7 := hi_ h7
       replace hX2 := hi_ hX2
       replace hz := hi_ hz
       go_upto_region 19 with (first
        | (go_at_call 152; (with_reducible refine (cd.out _).mono ?_); rintro e w2 ⟨rfl, rfl⟩)
        | (go_at_call 63; (with_reducible refine (cw.out _).mono ?_); rintro e w2 ⟨rfl, rfl⟩))
       have hL2 := hL.out
       have hS2 := hS.out
       have hO2 := hO.out
       clear hh4
       obtain ⟨Wa, hWa⟩ : ∃ W, W = W2.alloc (.cells #[.int .u8 (16 * half)] 5) := ⟨_, rfl⟩
       have hba : Below W2.heap.size W2 Wa := by rw [hWa]; exact (Below.refl _ _).alloc (Nat.le_refl _) _
       have hb1 : Byt Wa (some ⟨W2.heap.size, 0, none⟩) [z] := by rw [hWa, hX2.out]; exact byt_new1 W2 z 5
       have hO3 := hO2.below hba
       have hL3 := hL2.below hba
       have hS3 := hS2.then_ hba
       have zs := hS2.size
       have za := hba.size
       replace hWa := hi_ hWa
       replace hba := hi_ hba
       replace hb1 := hi_ hb1
       replace hL2 := hi_ hL2
       replace hS2 := hi_ hS2
       replace hO2 := hi_ hO2
       replace hL3 := hi_ hL3
       replace hS3 := hi_ hS3
       replace hO3 := hi_ hO3
       have hw8 : IntKind.u8.wrap (16 * half) = (16 * half) := by unfold IntKind.wrap; simp [IntKind.signed, IntKind.bits] <;> omega
       go_wp2_with (at_builtin; rw [← hWa.out]; refine app_b rfl _ _ rfl w.heap.size _ _ rfl hO3.out (some ⟨W2.heap.size, 0, none⟩) 1 1 [z] rfl rfl hb1.out (fun e => (by cases e)) (by have := hm.out; have := hmx.out; simp only [List.length_cons, List.length_nil]; omega) (by omega) ?_; intro v' w2 hO4 hB4; replace hO4 := hi_ hO4; replace hB4 := hi_ hB4)
       have hL4 := hL3.out.belowB hB4.out hLw hAw.out
       have hS4 := hS3.out.thenB hB4.out
       replace hL4 := hi_ hL4
       replace hS4 := hi_ hS4
       go_ret2
       exact ⟨_, rfl, hO4.out, hL4.out, hS4.out⟩
    | false =>
     rw [hx62] at h62
     rw [if_neg (by simpa using hx62)] at hE2
     by_cases hdn : d < 0
     ·rw [if_pos hdn] at hE2
      subst hE2
      go_wp2_with (first
       | (go_at_call 152; (with_reducible refine (cd.out _).mono ?_); rintro e w2 ⟨rfl, rfl⟩)
       | (go_at_call 63; (with_reducible refine (cw.out _).mono ?_); rintro e w2 ⟨rfl, rfl⟩))
      go_ret2
      exact ⟨rfl, hL.out.at_, hS.out⟩
     ·rw [if_neg hdn] at hE2
      have hd0 : 0 ≤ d := by omega
      clear hdn
      by_cases hh : half < 0
      ·rw [if_pos hh] at hE2
       replace hE2 := hi_ hE2
       go_wp2_with (first
        | (go_at_call 152; (with_reducible refine (cd.out _).mono ?_); rintro e w2 ⟨rfl, rfl⟩)
        | (go_at_call 63; (with_reducible refine (cw.out _).mono ?_); rintro e w2 ⟨rfl, rfl⟩))
       have e3 := hf.out
       have e6 := hm.out
       have e7 := hmx.out
       exact ⟨⟨f, d, out, t, rfl, by omega, rd.2, hO.out, hL.out, hE2.out, by omega, by omega, hS.out⟩, hmz.out⟩
      ·rw [if_neg hh] at hE2
       have hh3 : 0 ≤ half := by omega
       clear hh
       by_cases h7 : 32767 ≤ m
       ·have e7 : decide ((32767 : Int) ≤ (m : Int)) = true := by simp; omega
        rw [if_pos (by have := hm.out; omega)] at hE2
        subst hE2
        replace h7 := hi_ h7
        go_wp2_with (first
         | (go_at_call 152; (with_reducible refine (cd.out _).mono ?_); rintro e w2 ⟨rfl, rfl⟩)
         | (go_at_call 63; (with_reducible refine (cw.out _).mono ?_); rintro e w2 ⟨rfl, rfl⟩))
        go_ret2
        exact ⟨rfl, hL.out.at_, hS.out⟩
       ·have e7 : decide ((32767 : Int) ≤ (m : Int)) = false := by simp; omega
        rw [if_neg (by have := hm.out; omega)] at hE2
        obtain ⟨z, hz⟩ : ∃ z : UInt8, z = UInt8.ofNat (16 * half + d).toNat := ⟨_, rfl⟩
        have hX2 : 16 * half + d = (z.toNat : Int) := by
         rw [hz, UInt8.toNat_ofNat_of_lt' (show (16 * half + d).toNat < 256 by omega)]; omega
        rw [← hz] at hE2
        replace hE2 := hi_ hE2
        replace h7 := hi_ h7
        replace hX2 := hi_ hX2
        replace hz := hi_ hz
        go_upto_region 19 with (first
         | (go_at_call 152; (with_reducible refine (cd.out _).mono ?_); rintro e w2 ⟨rfl, rfl⟩)
         | (go_at_call 63; (with_reducible refine (cw.out _).mono ?_); rintro e w2 ⟨rfl, rfl⟩))
        have hL2 := hL.out
        have hS2 := hS.out
        have hO2 := hO.out
        obtain ⟨Wa, hWa⟩ : ∃ W, W = W2.alloc (.cells #[.int .u8 (16 * half + d)] 5) := ⟨_, rfl⟩
        have hba : Below W2.heap.size W2 Wa := by rw [hWa]; exact (Below.refl _ _).alloc (Nat.le_refl _) _
        have hb1 : Byt Wa (some ⟨W2.heap.size, 0, none⟩) [z] := by rw [hWa, hX2.out]; exact byt_new1 W2 z 5
        have hO3 := hO2.below hba
        have hL3 := hL2.below hba
        have hS3 := hS2.then_ hba
        have zs := hS2.size
        have za := hba.size
        replace hWa := hi_ hWa
        replace hba := hi_ hba
        replace hb1 := hi_ hb1
        replace hL2 := hi_ hL2
        replace hS2 := hi_ hS2
        replace hO2 := hi_ hO2
        replace hL3 := hi_ hL3
        replace hS3 := hi_ hS3
        replace hO3 := hi_ hO3
        have hw8 : IntKind.u8.wrap (16 * half + d) = (16 * half + d) := by unfold IntKind.wrap; simp [IntKind.signed, IntKind.bits] <;> omega
        go_wp2_with (at_builtin; rw [← hWa.out]; refine app_b rfl _ _ rfl w.heap.size _ _ rfl hO3.out (some ⟨W2.heap.size, 0, none⟩) 1 1 [z] rfl rfl hb1.out (fun e => (by cases e)) (by have := hm.out; have := hmx.out; simp only [List.length_cons, List.length_nil]; omega) (by omega) ?_; intro v' w2 hO4 hB4; replace hO4 := hi_ hO4; replace hB4 := hi_ hB4)
        have hL4 := hL3.out.belowB hB4.out hLw hAw.out
        have hS4 := hS3.out.thenB hB4.out
        have e1 := hL4.posOf
        have e2 := hpz.out
        have e3 := hf.out
        have e5 := hm.out
        have e6 := h7.out
        have e8 := hmz.out
        exact ⟨⟨f, -1, _, t, rfl, by omega, by omega, hO4.out, hL4, hE2.out, by omega, by simp only [List.length_append, List.length_cons, List.length_nil]; omega, hS4⟩, by rw [e1, ← e2]; exact e8⟩
end
end Go.Proofs.YthacnnmlephkhaaGreatDoor

/- Fixed: the contract of the document's own Parse. No condition. -/
namespace Go.Proofs.YthacnnmlephkhaaGreatDoor
open Go Go.RowKit Go.Wk Go.Fx
theorem take_next (bs : List UInt8) (P q : Nat) (hq : P ≤ q) (hlt : q < bs.length) : (bs.drop P).take (q + 1 - P) = (bs.drop P).take (q - P) ++ [bs[q]] ∧ bs[q] ∈ bs.drop P := by
 have hl : q - P < (bs.drop P).length := by rw [List.length_drop]; omega
 have e : (bs.drop P)[q - P] = bs[q] := by rw [List.getElem_drop]; congr 1; omega
 constructor
 ·rw [show q + 1 - P = (q - P) + 1 by omega, List.take_succ_eq_append_getElem hl, e]
 ·rw [← e]; exact List.getElem_mem hl
theorem cnt_le (f : UInt8 → Bool) (bs : List UInt8) (P k : Nat) : ((bs.drop P).take k).countP f ≤ bs.length := by
 have h1 := List.countP_le_length (p := f) (l := (bs.drop P).take k)
 rw [List.length_take, List.length_drop] at h1
 omega
set_option maxHeartbeats 4000000 in
set_option maxRecDepth 100000 in
theorem rp_none {w : World} {b o c : Nat} {bs : List UInt8} (h : ∀ i (h : i < bs.length), w.cell? ⟨b, o + i, none⟩ = some (.int .u8 (bs[i].toNat : Int))) (h0 : 0 < bs.length) (hc : bs.length ≤ c) (hs : bs.length ≤ 1000000000)
 (h43 : ¬ (bs[0].toNat : Int) = 43) (h45 : ¬ (bs[0].toNat : Int) = 45) :
 Calls Tryz.prog 154 #[.slice (some ⟨b, o, none⟩) bs.length c] w fun e w' => e = .returned (.tuple #[.int .i64 (parseS bs).1, .bool (parseS bs).2.1, .int .i64 (parseS bs).2.2]) ∧ Below w.heap.size w w' := by
 have hR : parseS bs = parseP bs 0 false := by
  have e : bs[0]? = some bs[0] := List.getElem?_eq_getElem h0
  have e1 : ¬ bs[0]? = some 43 := by rw [e]; intro h; injection h with h; rw [h] at h43; exact h43 rfl
  have e2 : ¬ bs[0]? = some 45 := by rw [e]; intro h; injection h with h; rw [h] at h45; exact h45 rfl
  have hsg : sgn bs = (0, false) := by unfold sgn; rw [if_neg e1, if_neg e2]
  rw [parseS_eq, hsg]
 have hbad := hi_ (parse_bad bs 0 false (by omega))
 have hfit := hi_ (parse_fit bs 0 false (by omega))
 rw [hR]
 obtain ⟨T, hT⟩ : ∃ T, T = parseP bs 0 false := ⟨_, rfl⟩
 rw [← hT] at hbad hfit ⊢
 clear hR hT
 have hc0 := h 0 h0
 rw [Nat.add_zero] at hc0
 generalize bs[0] = x0 at *
 replace h := hi_ h
 skip
 go_enter Tryz.func154, Tryz.ntmps154
 go_wp2
 ·rename _ ∨ _ => hx
  rcases hx with hx | hx <;> simp at hx <;> omega
 go_loop [7, 8, 9] (fun pv dv iv => ∃ q : Nat, 0 ≤ q ∧ q ≤ bs.length ∧ iv = .int .i64 q ∧ pv = .int .i64 (((bs.drop 0).take (q - 0)).countP isP : Nat) ∧ dv = .int .i64 (((bs.drop 0).take (q - 0)).countP isD : Nat) ∧ ∀ b ∈ (bs.drop 0).take (q - 0), isD b = true ∨ isP b = true) (fun _ _ iv => bs.length - (RowKit.intOf iv).toNat)
 case atStart => exact ⟨0, Nat.le_refl _, by omega, by rfl, by simp, by simp, fun b hb => by simp at hb⟩
 case round =>
  obtain ⟨q, hq0, hq, rfl, rfl, rfl, hall⟩ := hrel
  replace hall := hi_ hall
  have hl1 := cnt_le isP bs 0 (q - 0)
  have hl2 := cnt_le isD bs 0 (q - 0)
  by_cases hlt : q < bs.length
  ·have hck := h.out q hlt
   obtain ⟨hn1, hn2⟩ := take_next bs 0 q hq0 hlt
   replace hn1 := hi_ hn1
   replace hn2 := hi_ hn2
   have hstep := hi_ (show ((bs.drop 0).take (q + 1 - 0)).countP isP = ((bs.drop 0).take (q - 0)).countP isP + (if isP bs[q] then 1 else 0) ∧ ((bs.drop 0).take (q + 1 - 0)).countP isD = ((bs.drop 0).take (q - 0)).countP isD + (if isD bs[q] then 1 else 0) by
    rw [hn1.out, List.countP_append, List.countP_append, List.countP_singleton, List.countP_singleton]; exact ⟨rfl, rfl⟩)
   generalize hxx : bs[q] = x at *
   replace hxx := hi_ hxx
   generalize ((bs.drop 0).take (q - 0)).countP isP = n1 at *
   generalize ((bs.drop 0).take (q - 0)).countP isD = n2 at *
   clear hq0 hc0 hc
   have hx0 := u8_lt x
   by_cases h46 : (x.toNat : Int) = 46
   ·have hip : isP x = true := by
     have : x.toNat = 46 := by omega
     have : x = 46 := UInt8.toNat_inj.1 (by rw [this]; rfl)
     rw [this]; rfl
    have hid' : isD x = false := by unfold isD; have : x.toNat = 46 := by omega
                                    rw [this]; rfl
    rw [hip, hid'] at hstep
    replace hip := hi_ hip
    go_wp2
    refine ⟨⟨q + 1, by omega, by omega, by rfl, by rw [hstep.out.1]; rfl, by rw [hstep.out.2]; rfl, ?_⟩, by simp only [RowKit.intOf]; omega⟩
    rw [hn1.out]
    intro z hz
    rcases List.mem_append.1 hz with hz | hz
    ·exact hall.out z hz
    ·rw [List.mem_singleton.1 hz]; exact .inr hip.out
   ·have hip : isP x = false := by
     unfold isP
     rw [beq_eq_false_iff_ne]
     intro e; rw [e] at h46; exact h46 rfl
    by_cases hdg : 48 ≤ (x.toNat : Int) ∧ (x.toNat : Int) ≤ 57
    ·have hid' : isD x = true := by
      unfold isD
      rw [decide_eq_true (show 48 ≤ x.toNat by omega), decide_eq_true (show x.toNat ≤ 57 by omega)]; rfl
     rw [hip, hid'] at hstep
     replace hid' := hi_ hid'
     obtain ⟨hdg1, hdg2⟩ := hdg
     go_wp2
     refine ⟨⟨q + 1, by omega, by omega, by rfl, by rw [hstep.out.1]; rfl, by rw [hstep.out.2]; rfl, ?_⟩, by simp only [RowKit.intOf]; omega⟩
     rw [hn1.out]
     intro z hz
     rcases List.mem_append.1 hz with hz | hz
     ·exact hall.out z hz
     ·rw [List.mem_singleton.1 hz]; exact .inl hid'.out
    ·have hid' : isD x = false := by
      unfold isD
      by_cases h48 : 48 ≤ x.toNat
      ·rw [decide_eq_false (show ¬ x.toNat ≤ 57 by omega)]; simp
      ·rw [decide_eq_false h48]; rfl
     have hTb := hi_ (hbad.out x hn2.out hid' hip)
     have hdg2 : (x.toNat : Int) < 48 ∨ 57 < (x.toNat : Int) := by omega
     clear hdg
     rcases hdg2 with hdg2 | hdg2
     ·go_wp2
      go_ret3
      rw [hTb.out]
      exact ⟨rfl, Below.refl _ _⟩
     ·go_wp2
      go_ret3
      rw [hTb.out]
      exact ⟨rfl, Below.refl _ _⟩
  ·have hqe : q = bs.length := by omega
   subst hqe
   have hfull : (bs.drop 0).take (bs.length - 0) = bs.drop 0 := List.take_of_length_le (by rw [List.length_drop]; omega)
   rw [hfull] at hall hl1 hl2 ⊢
   have hf := hfit.out hall.out
   clear hfit hbad hfull hall hc0 hq0
   obtain ⟨hf1, hf2⟩ := hf
   generalize (bs.drop 0).countP isP = n1 at *
   generalize (bs.drop 0).countP isD = n2 at *
   by_cases hw : 1 < n1 ∨ n2 = 0
   ·have hTb := hi_ (hf1 hw)
    clear hf1 hf2
    by_cases hw1 : 1 < n1
    ·clear hw
     go_wp2
     go_ret3
     rw [hTb.out]
     exact ⟨rfl, Below.refl _ _⟩
    ·have hw2 : n2 = 0 := by omega
     subst hw2
     clear hw
     go_wp2
     go_ret3
     rw [hTb.out]
     exact ⟨rfl, Below.refl _ _⟩
   ·obtain ⟨g1, g2, g3, g4⟩ := hf2 hw
    clear hf1 hf2
    have hw1 : n1 ≤ 1 := by omega
    have hw2 : 0 < n2 := by omega
    clear hw
    replace g3 := hi_ g3
    replace g4 := hi_ g4
    replace g1 := hi_ g1
    replace g2 := hi_ g2
    have hDl : 0 + (digs bs 0).length ≤ bs.length := by
     have : (digs bs 0).length ≤ (bs.drop 0).length := (List.takeWhile_sublist _).length_le
     rw [List.length_drop] at this
     omega
    have hdin : Hid (∀ k, ∀ hk : k < (digs bs 0).length, bs[0 + k]? = some (digs bs 0)[k] ∧ isD (digs bs 0)[k] = true) := hi_ (fun k hk => digs_in hk)
    have hstop := hi_ (num_stop (digs bs 0))
    have hgo := hi_ (num_go (digs bs 0))
    have hnle := hi_ (fun k => numD_le ((digs bs 0).take k) (0, true) (by omega))
    generalize digs bs 0 = D at *
    go_wp2
    ·rename _ ∨ _ => hx
     rcases hx with hx | hx
     ·omega
     ·simp at hx; omega
    go_loop [10, 11] (fun nv iv => ∃ q k : Nat, Hid (q = 0 + k) ∧ k ≤ D.length ∧ iv = .int .i64 q ∧ nv = .int .i64 ((numD (D.take k)).1 : Nat) ∧ Hid ((numD (D.take k)).2 = true)) (fun _ iv => bs.length - (RowKit.intOf iv).toNat)
    case atStart => exact ⟨0, 0, Lib.hid rfl, Nat.zero_le _, by rfl, by rfl, Lib.hid rfl⟩
    case round =>
     obtain ⟨q, k, hqk, hk, rfl, rfl, hnt⟩ := hrel
     by_cases hlt : k < D.length
     ·have hqb : q < bs.length := by rw [hqk.out]; omega
      obtain ⟨hd1, hd2⟩ := hdin.out k hlt
      have hst := hi_ (hstop.out k hlt)
      have hgg := hi_ (hgo.out k hlt hnt.out)
      have hle : (numD (D.take k)).1 ≤ 2147483647 := hnle.out k
      have hck := h.out q hqb
      have hbd : bs[q] = D[k] := by
       have e : bs[q]? = some D[k] := by rw [hqk.out]; exact hd1
       rw [List.getElem?_eq_getElem hqb] at e
       exact Option.some.inj e
      rw [hbd] at hck
      clear hbd hd1 hdin
      generalize D[k] = x at *
      generalize (numD (D.take k)).1 = n at *
      have hx : 48 ≤ (x.toNat : Int) ∧ (x.toNat : Int) ≤ 57 := by
       unfold isD at hd2
       have := (Bool.and_eq_true_iff.1 hd2)
       have h1 := of_decide_eq_true this.1
       have h2 := of_decide_eq_true this.2
       omega
      obtain ⟨hx1, hx2⟩ := hx
      clear hd2
      obtain ⟨N, hN⟩ := hidE (n : Int)
      have hN0 : 0 ≤ N ∧ N ≤ 2147483647 := by rw [hN.out]; omega
      rw [← hN.out]
      clear hle hstop hgo hnle
      go_wp2
      ·rename _ < _ => hgt
       go_ret3
       rw [g2.out (hst.out (by have := hN.out; omega))]
       exact ⟨rfl, Below.refl _ _⟩
      ·rename _ ≤ _ => hgt
       have e := hgg.out (by have := hN.out; omega)
       refine ⟨⟨q + 1, k + 1, Lib.hid (by rw [hqk.out]; omega), by omega, by rfl, by rw [e]; congr 1; have := hN.out; simp only; omega, Lib.hid (by rw [e])⟩, by simp only [RowKit.intOf]; omega⟩
     ·have hke : k = D.length := by omega
      subst hke
      rw [List.take_length] at hnt ⊢
      have hle := hnle.out D.length
      rw [List.take_length] at hle
      change (numD D).1 ≤ 2147483647 at hle
      clear hdin hstop hgo hnle g2
      replace g3 := hi_ (g3.out hnt.out)
      replace g4 := hi_ (g4.out hnt.out)
      generalize (numD D).1 = n at *
      obtain ⟨N, hN⟩ := hidE (n : Int)
      have hN0 : 0 ≤ N ∧ N ≤ 2147483647 := by rw [hN.out]; omega
      rw [← hN.out]
      clear hle hw2 hl1 hl2
      by_cases hn1 : n1 = 0
      ·obtain ⟨hend, hTw⟩ := g3.out hn1
       have hqe : q = bs.length := by rw [hqk.out, hend]
       subst hqe
       subst hn1
       rw [← hN.out] at hTw
       replace hTw := hi_ hTw
       clear g1 g3 g4 hend
       go_wp2
       go_ret3
       rw [hTw.out]
       exact ⟨by simp [signI], Below.refl _ _⟩
      ·obtain ⟨hlt2, hD2, hTp⟩ := g4.out hn1
       have hn1e : n1 = 1 := by omega
       subst hn1e
       have hqb : q < bs.length := by rw [hqk.out]; exact hlt2
       have hck := h.out q hqb
       have h46 : bs[q] = 46 := by
        have e := g1.out hlt2
        rw [← hqk.out, List.getElem?_eq_getElem hqb] at e
        exact Option.some.inj e
       rw [h46] at hck
       rw [← hN.out] at hTp
       clear h46 hlt2 g1 g3 g4
       rw [← hqk.out] at hD2 hTp
       replace hTp := hi_ hTp
       have hd2in : Hid (∀ k, ∀ hk : k < (digs bs (q + 1)).length, bs[q + 1 + k]? = some (digs bs (q + 1))[k] ∧ isD (digs bs (q + 1))[k] = true) := hi_ (fun k hk => digs_in hk)
       have hbd := hi_ (frac_bd (digs bs (q + 1)) digs_all)
       generalize digs bs (q + 1) = E at *
       go_wp2
       go_loop [12, 13] (fun fv kv => ∃ k : Nat, k ≤ 5 ∧ kv = .int .i64 k ∧ fv = .int .i64 (valD (E.take k) * 10 ^ (k - E.length) : Nat)) (fun _ kv => 5 - (RowKit.intOf kv).toNat)
       case atStart => exact ⟨0, by omega, by rfl, by simp [valD]⟩
       case round =>
        obtain ⟨k, hk, rfl, rfl⟩ := hrel
        by_cases hk5 : k < 5
        ·have hb1 : valD (E.take k) * 10 ^ (k - E.length) ≤ 9999 := by
          have h1 := hbd.out k
          have h2 : 10 ^ k ≤ 10 ^ 4 := Nat.pow_le_pow_right (by omega) (by omega)
          omega
         obtain ⟨hf1, hf2⟩ := frac_go E k
         replace hf1 := hi_ hf1
         replace hf2 := hi_ hf2
         generalize valD (E.take k) * 10 ^ (k - E.length) = m at *
         obtain ⟨M, hM⟩ := hidE (m : Int)
         have hM0 : 0 ≤ M ∧ M ≤ 9999 := by rw [hM.out]; omega
         rw [← hM.out]
         clear hb1
         by_cases hke : k < E.length
         ·obtain ⟨hd1, hd2⟩ := hd2in.out k hke
          have hqk2 : q + 1 + k < bs.length := by omega
          have hck2 := h.out (q + 1 + k) hqk2
          have hbd2 : bs[q + 1 + k] = E[k] := by
           rw [List.getElem?_eq_getElem hqk2] at hd1
           exact Option.some.inj hd1
          rw [hbd2] at hck2
          have hf3 := hi_ (hf1.out hke)
          clear hbd2 hd1 hd2in hf1 hf2
          generalize E[k] = x at *
          have hx : 48 ≤ (x.toNat : Int) ∧ (x.toNat : Int) ≤ 57 := by
           unfold isD at hd2
           have := (Bool.and_eq_true_iff.1 hd2)
           have h1 := of_decide_eq_true this.1
           have h2 := of_decide_eq_true this.2
           omega
          obtain ⟨hx1, hx2⟩ := hx
          clear hd2
          go_wp2
          have e := hf3.out
          refine ⟨⟨k + 1, by omega, by rfl, by rw [e]; congr 1; have := hM.out; omega⟩, by simp only [RowKit.intOf]; omega⟩
         ·have hf3 := hi_ (hf2.out hke)
          clear hf1 hf2 hd2in
          go_wp2
          have e := hf3.out
          refine ⟨⟨k + 1, by omega, by rfl, by rw [e]; congr 1; have := hM.out; omega⟩, by simp only [RowKit.intOf]; omega⟩
        ·have hk5 : k = 5 := by omega
         subst hk5
         have hb1 : fracD E ≤ 99999 := by
          have h1 := hbd.out 5
          unfold fracD
          omega
         change _ at hk
         rw [show valD (E.take 5) * 10 ^ (5 - E.length) = fracD E from rfl]
         generalize fracD E = m at *
         obtain ⟨M, hM⟩ := hidE (m : Int)
         have hM0 : 0 ≤ M ∧ M ≤ 99999 := by rw [hM.out]; omega
         rw [← hM.out]
         clear hb1 hd2in hbd
         go_wp2
         go_ret3
         rw [hTp.out, ← hM.out]
         exact ⟨by simp [signI], Below.refl _ _⟩
set_option maxHeartbeats 4000000 in
set_option maxRecDepth 100000 in
theorem rp_plus {w : World} {b o c : Nat} {bs : List UInt8} (h : ∀ i (h : i < bs.length), w.cell? ⟨b, o + i, none⟩ = some (.int .u8 (bs[i].toNat : Int))) (h0 : 0 < bs.length) (hc : bs.length ≤ c) (hs : bs.length ≤ 1000000000)
 (hs0 : bs[0] = 43) :
 Calls Tryz.prog 154 #[.slice (some ⟨b, o, none⟩) bs.length c] w fun e w' => e = .returned (.tuple #[.int .i64 (parseS bs).1, .bool (parseS bs).2.1, .int .i64 (parseS bs).2.2]) ∧ Below w.heap.size w w' := by
 have hR : parseS bs = parseP bs 1 false := by
  have e : bs[0]? = some 43 := by rw [List.getElem?_eq_getElem h0, hs0]
  have hsg : sgn bs = (1, false) := by unfold sgn; rw [e]; rfl
  rw [parseS_eq, hsg]
 have hbad := hi_ (parse_bad bs 1 false (by omega))
 have hfit := hi_ (parse_fit bs 1 false (by omega))
 rw [hR]
 obtain ⟨T, hT⟩ : ∃ T, T = parseP bs 1 false := ⟨_, rfl⟩
 rw [← hT] at hbad hfit ⊢
 clear hR hT
 have hc0 := h 0 h0
 rw [Nat.add_zero] at hc0
 rw [hs0] at hc0
 clear hs0
 replace h := hi_ h
 skip
 go_enter Tryz.func154, Tryz.ntmps154
 go_wp2
 go_loop [7, 8, 9] (fun pv dv iv => ∃ q : Nat, 1 ≤ q ∧ q ≤ bs.length ∧ iv = .int .i64 q ∧ pv = .int .i64 (((bs.drop 1).take (q - 1)).countP isP : Nat) ∧ dv = .int .i64 (((bs.drop 1).take (q - 1)).countP isD : Nat) ∧ ∀ b ∈ (bs.drop 1).take (q - 1), isD b = true ∨ isP b = true) (fun _ _ iv => bs.length - (RowKit.intOf iv).toNat)
 case atStart => exact ⟨1, Nat.le_refl _, by omega, by rfl, by simp, by simp, fun b hb => by simp at hb⟩
 case round =>
  obtain ⟨q, hq0, hq, rfl, rfl, rfl, hall⟩ := hrel
  replace hall := hi_ hall
  have hl1 := cnt_le isP bs 1 (q - 1)
  have hl2 := cnt_le isD bs 1 (q - 1)
  by_cases hlt : q < bs.length
  ·have hck := h.out q hlt
   obtain ⟨hn1, hn2⟩ := take_next bs 1 q hq0 hlt
   replace hn1 := hi_ hn1
   replace hn2 := hi_ hn2
   have hstep := hi_ (show ((bs.drop 1).take (q + 1 - 1)).countP isP = ((bs.drop 1).take (q - 1)).countP isP + (if isP bs[q] then 1 else 0) ∧ ((bs.drop 1).take (q + 1 - 1)).countP isD = ((bs.drop 1).take (q - 1)).countP isD + (if isD bs[q] then 1 else 0) by
    rw [hn1.out, List.countP_append, List.countP_append, List.countP_singleton, List.countP_singleton]; exact ⟨rfl, rfl⟩)
   generalize hxx : bs[q] = x at *
   replace hxx := hi_ hxx
   generalize ((bs.drop 1).take (q - 1)).countP isP = n1 at *
   generalize ((bs.drop 1).take (q - 1)).countP isD = n2 at *
   clear hq0 hc0 hc
   have hx0 := u8_lt x
   by_cases h46 : (x.toNat : Int) = 46
   ·have hip : isP x = true := by
     have : x.toNat = 46 := by omega
     have : x = 46 := UInt8.toNat_inj.1 (by rw [this]; rfl)
     rw [this]; rfl
    have hid' : isD x = false := by unfold isD; have : x.toNat = 46 := by omega
                                    rw [this]; rfl
    rw [hip, hid'] at hstep
    replace hip := hi_ hip
    go_wp2
    refine ⟨⟨q + 1, by omega, by omega, by rfl, by rw [hstep.out.1]; rfl, by rw [hstep.out.2]; rfl, ?_⟩, by simp only [RowKit.intOf]; omega⟩
    rw [hn1.out]
    intro z hz
    rcases List.mem_append.1 hz with hz | hz
    ·exact hall.out z hz
    ·rw [List.mem_singleton.1 hz]; exact .inr hip.out
   ·have hip : isP x = false := by
     unfold isP
     rw [beq_eq_false_iff_ne]
     intro e; rw [e] at h46; exact h46 rfl
    by_cases hdg : 48 ≤ (x.toNat : Int) ∧ (x.toNat : Int) ≤ 57
    ·have hid' : isD x = true := by
      unfold isD
      rw [decide_eq_true (show 48 ≤ x.toNat by omega), decide_eq_true (show x.toNat ≤ 57 by omega)]; rfl
     rw [hip, hid'] at hstep
     replace hid' := hi_ hid'
     obtain ⟨hdg1, hdg2⟩ := hdg
     go_wp2
     refine ⟨⟨q + 1, by omega, by omega, by rfl, by rw [hstep.out.1]; rfl, by rw [hstep.out.2]; rfl, ?_⟩, by simp only [RowKit.intOf]; omega⟩
     rw [hn1.out]
     intro z hz
     rcases List.mem_append.1 hz with hz | hz
     ·exact hall.out z hz
     ·rw [List.mem_singleton.1 hz]; exact .inl hid'.out
    ·have hid' : isD x = false := by
      unfold isD
      by_cases h48 : 48 ≤ x.toNat
      ·rw [decide_eq_false (show ¬ x.toNat ≤ 57 by omega)]; simp
      ·rw [decide_eq_false h48]; rfl
     have hTb := hi_ (hbad.out x hn2.out hid' hip)
     have hdg2 : (x.toNat : Int) < 48 ∨ 57 < (x.toNat : Int) := by omega
     clear hdg
     rcases hdg2 with hdg2 | hdg2
     ·go_wp2
      go_ret3
      rw [hTb.out]
      exact ⟨rfl, Below.refl _ _⟩
     ·go_wp2
      go_ret3
      rw [hTb.out]
      exact ⟨rfl, Below.refl _ _⟩
  ·have hqe : q = bs.length := by omega
   subst hqe
   have hfull : (bs.drop 1).take (bs.length - 1) = bs.drop 1 := List.take_of_length_le (by rw [List.length_drop]; omega)
   rw [hfull] at hall hl1 hl2 ⊢
   have hf := hfit.out hall.out
   clear hfit hbad hfull hall hc0 hq0
   obtain ⟨hf1, hf2⟩ := hf
   generalize (bs.drop 1).countP isP = n1 at *
   generalize (bs.drop 1).countP isD = n2 at *
   by_cases hw : 1 < n1 ∨ n2 = 0
   ·have hTb := hi_ (hf1 hw)
    clear hf1 hf2
    by_cases hw1 : 1 < n1
    ·clear hw
     go_wp2
     go_ret3
     rw [hTb.out]
     exact ⟨rfl, Below.refl _ _⟩
    ·have hw2 : n2 = 0 := by omega
     subst hw2
     clear hw
     go_wp2
     go_ret3
     rw [hTb.out]
     exact ⟨rfl, Below.refl _ _⟩
   ·obtain ⟨g1, g2, g3, g4⟩ := hf2 hw
    clear hf1 hf2
    have hw1 : n1 ≤ 1 := by omega
    have hw2 : 0 < n2 := by omega
    clear hw
    replace g3 := hi_ g3
    replace g4 := hi_ g4
    replace g1 := hi_ g1
    replace g2 := hi_ g2
    have hDl : 1 + (digs bs 1).length ≤ bs.length := by
     have : (digs bs 1).length ≤ (bs.drop 1).length := (List.takeWhile_sublist _).length_le
     rw [List.length_drop] at this
     omega
    have hdin : Hid (∀ k, ∀ hk : k < (digs bs 1).length, bs[1 + k]? = some (digs bs 1)[k] ∧ isD (digs bs 1)[k] = true) := hi_ (fun k hk => digs_in hk)
    have hstop := hi_ (num_stop (digs bs 1))
    have hgo := hi_ (num_go (digs bs 1))
    have hnle := hi_ (fun k => numD_le ((digs bs 1).take k) (0, true) (by omega))
    generalize digs bs 1 = D at *
    go_wp2
    ·rename _ ∨ _ => hx
     rcases hx with hx | hx
     ·omega
     ·simp at hx; omega
    go_loop [10, 11] (fun nv iv => ∃ q k : Nat, Hid (q = 1 + k) ∧ k ≤ D.length ∧ iv = .int .i64 q ∧ nv = .int .i64 ((numD (D.take k)).1 : Nat) ∧ Hid ((numD (D.take k)).2 = true)) (fun _ iv => bs.length - (RowKit.intOf iv).toNat)
    case atStart => exact ⟨1, 0, Lib.hid rfl, Nat.zero_le _, by rfl, by rfl, Lib.hid rfl⟩
    case round =>
     obtain ⟨q, k, hqk, hk, rfl, rfl, hnt⟩ := hrel
     by_cases hlt : k < D.length
     ·have hqb : q < bs.length := by rw [hqk.out]; omega
      obtain ⟨hd1, hd2⟩ := hdin.out k hlt
      have hst := hi_ (hstop.out k hlt)
      have hgg := hi_ (hgo.out k hlt hnt.out)
      have hle : (numD (D.take k)).1 ≤ 2147483647 := hnle.out k
      have hck := h.out q hqb
      have hbd : bs[q] = D[k] := by
       have e : bs[q]? = some D[k] := by rw [hqk.out]; exact hd1
       rw [List.getElem?_eq_getElem hqb] at e
       exact Option.some.inj e
      rw [hbd] at hck
      clear hbd hd1 hdin
      generalize D[k] = x at *
      generalize (numD (D.take k)).1 = n at *
      have hx : 48 ≤ (x.toNat : Int) ∧ (x.toNat : Int) ≤ 57 := by
       unfold isD at hd2
       have := (Bool.and_eq_true_iff.1 hd2)
       have h1 := of_decide_eq_true this.1
       have h2 := of_decide_eq_true this.2
       omega
      obtain ⟨hx1, hx2⟩ := hx
      clear hd2
      obtain ⟨N, hN⟩ := hidE (n : Int)
      have hN0 : 0 ≤ N ∧ N ≤ 2147483647 := by rw [hN.out]; omega
      rw [← hN.out]
      clear hle hstop hgo hnle
      go_wp2
      ·rename _ < _ => hgt
       go_ret3
       rw [g2.out (hst.out (by have := hN.out; omega))]
       exact ⟨rfl, Below.refl _ _⟩
      ·rename _ ≤ _ => hgt
       have e := hgg.out (by have := hN.out; omega)
       refine ⟨⟨q + 1, k + 1, Lib.hid (by rw [hqk.out]; omega), by omega, by rfl, by rw [e]; congr 1; have := hN.out; simp only; omega, Lib.hid (by rw [e])⟩, by simp only [RowKit.intOf]; omega⟩
     ·have hke : k = D.length := by omega
      subst hke
      rw [List.take_length] at hnt ⊢
      have hle := hnle.out D.length
      rw [List.take_length] at hle
      change (numD D).1 ≤ 2147483647 at hle
      clear hdin hstop hgo hnle g2
      replace g3 := hi_ (g3.out hnt.out)
      replace g4 := hi_ (g4.out hnt.out)
      generalize (numD D).1 = n at *
      obtain ⟨N, hN⟩ := hidE (n : Int)
      have hN0 : 0 ≤ N ∧ N ≤ 2147483647 := by rw [hN.out]; omega
      rw [← hN.out]
      clear hle hw2 hl1 hl2
      by_cases hn1 : n1 = 0
      ·obtain ⟨hend, hTw⟩ := g3.out hn1
       have hqe : q = bs.length := by rw [hqk.out, hend]
       subst hqe
       subst hn1
       rw [← hN.out] at hTw
       replace hTw := hi_ hTw
       clear g1 g3 g4 hend
       go_wp2
       go_ret3
       rw [hTw.out]
       exact ⟨by simp [signI], Below.refl _ _⟩
      ·obtain ⟨hlt2, hD2, hTp⟩ := g4.out hn1
       have hn1e : n1 = 1 := by omega
       subst hn1e
       have hqb : q < bs.length := by rw [hqk.out]; exact hlt2
       have hck := h.out q hqb
       have h46 : bs[q] = 46 := by
        have e := g1.out hlt2
        rw [← hqk.out, List.getElem?_eq_getElem hqb] at e
        exact Option.some.inj e
       rw [h46] at hck
       rw [← hN.out] at hTp
       clear h46 hlt2 g1 g3 g4
       rw [← hqk.out] at hD2 hTp
       replace hTp := hi_ hTp
       have hd2in : Hid (∀ k, ∀ hk : k < (digs bs (q + 1)).length, bs[q + 1 + k]? = some (digs bs (q + 1))[k] ∧ isD (digs bs (q + 1))[k] = true) := hi_ (fun k hk => digs_in hk)
       have hbd := hi_ (frac_bd (digs bs (q + 1)) digs_all)
       generalize digs bs (q + 1) = E at *
       go_wp2
       go_loop [12, 13] (fun fv kv => ∃ k : Nat, k ≤ 5 ∧ kv = .int .i64 k ∧ fv = .int .i64 (valD (E.take k) * 10 ^ (k - E.length) : Nat)) (fun _ kv => 5 - (RowKit.intOf kv).toNat)
       case atStart => exact ⟨0, by omega, by rfl, by simp [valD]⟩
       case round =>
        obtain ⟨k, hk, rfl, rfl⟩ := hrel
        by_cases hk5 : k < 5
        ·have hb1 : valD (E.take k) * 10 ^ (k - E.length) ≤ 9999 := by
          have h1 := hbd.out k
          have h2 : 10 ^ k ≤ 10 ^ 4 := Nat.pow_le_pow_right (by omega) (by omega)
          omega
         obtain ⟨hf1, hf2⟩ := frac_go E k
         replace hf1 := hi_ hf1
         replace hf2 := hi_ hf2
         generalize valD (E.take k) * 10 ^ (k - E.length) = m at *
         obtain ⟨M, hM⟩ := hidE (m : Int)
         have hM0 : 0 ≤ M ∧ M ≤ 9999 := by rw [hM.out]; omega
         rw [← hM.out]
         clear hb1
         by_cases hke : k < E.length
         ·obtain ⟨hd1, hd2⟩ := hd2in.out k hke
          have hqk2 : q + 1 + k < bs.length := by omega
          have hck2 := h.out (q + 1 + k) hqk2
          have hbd2 : bs[q + 1 + k] = E[k] := by
           rw [List.getElem?_eq_getElem hqk2] at hd1
           exact Option.some.inj hd1
          rw [hbd2] at hck2
          have hf3 := hi_ (hf1.out hke)
          clear hbd2 hd1 hd2in hf1 hf2
          generalize E[k] = x at *
          have hx : 48 ≤ (x.toNat : Int) ∧ (x.toNat : Int) ≤ 57 := by
           unfold isD at hd2
           have := (Bool.and_eq_true_iff.1 hd2)
           have h1 := of_decide_eq_true this.1
           have h2 := of_decide_eq_true this.2
           omega
          obtain ⟨hx1, hx2⟩ := hx
          clear hd2
          go_wp2
          have e := hf3.out
          refine ⟨⟨k + 1, by omega, by rfl, by rw [e]; congr 1; have := hM.out; omega⟩, by simp only [RowKit.intOf]; omega⟩
         ·have hf3 := hi_ (hf2.out hke)
          clear hf1 hf2 hd2in
          go_wp2
          have e := hf3.out
          refine ⟨⟨k + 1, by omega, by rfl, by rw [e]; congr 1; have := hM.out; omega⟩, by simp only [RowKit.intOf]; omega⟩
        ·have hk5 : k = 5 := by omega
         subst hk5
         have hb1 : fracD E ≤ 99999 := by
          have h1 := hbd.out 5
          unfold fracD
          omega
         change _ at hk
         rw [show valD (E.take 5) * 10 ^ (5 - E.length) = fracD E from rfl]
         generalize fracD E = m at *
         obtain ⟨M, hM⟩ := hidE (m : Int)
         have hM0 : 0 ≤ M ∧ M ≤ 99999 := by rw [hM.out]; omega
         rw [← hM.out]
         clear hb1 hd2in hbd
         go_wp2
         go_ret3
         rw [hTp.out, ← hM.out]
         exact ⟨by simp [signI], Below.refl _ _⟩
set_option maxHeartbeats 4000000 in
set_option maxRecDepth 100000 in
theorem rp_minus {w : World} {b o c : Nat} {bs : List UInt8} (h : ∀ i (h : i < bs.length), w.cell? ⟨b, o + i, none⟩ = some (.int .u8 (bs[i].toNat : Int))) (h0 : 0 < bs.length) (hc : bs.length ≤ c) (hs : bs.length ≤ 1000000000)
 (hs0 : bs[0] = 45) :
 Calls Tryz.prog 154 #[.slice (some ⟨b, o, none⟩) bs.length c] w fun e w' => e = .returned (.tuple #[.int .i64 (parseS bs).1, .bool (parseS bs).2.1, .int .i64 (parseS bs).2.2]) ∧ Below w.heap.size w w' := by
 have hR : parseS bs = parseP bs 1 true := by
  have e : bs[0]? = some 45 := by rw [List.getElem?_eq_getElem h0, hs0]
  have hsg : sgn bs = (1, true) := by unfold sgn; rw [e]; rfl
  rw [parseS_eq, hsg]
 have hbad := hi_ (parse_bad bs 1 true (by omega))
 have hfit := hi_ (parse_fit bs 1 true (by omega))
 rw [hR]
 obtain ⟨T, hT⟩ : ∃ T, T = parseP bs 1 true := ⟨_, rfl⟩
 rw [← hT] at hbad hfit ⊢
 clear hR hT
 have hc0 := h 0 h0
 rw [Nat.add_zero] at hc0
 rw [hs0] at hc0
 clear hs0
 replace h := hi_ h
 skip
 go_enter Tryz.func154, Tryz.ntmps154
 go_wp2
 go_loop [7, 8, 9] (fun pv dv iv => ∃ q : Nat, 1 ≤ q ∧ q ≤ bs.length ∧ iv = .int .i64 q ∧ pv = .int .i64 (((bs.drop 1).take (q - 1)).countP isP : Nat) ∧ dv = .int .i64 (((bs.drop 1).take (q - 1)).countP isD : Nat) ∧ ∀ b ∈ (bs.drop 1).take (q - 1), isD b = true ∨ isP b = true) (fun _ _ iv => bs.length - (RowKit.intOf iv).toNat)
 case atStart => exact ⟨1, Nat.le_refl _, by omega, by rfl, by simp, by simp, fun b hb => by simp at hb⟩
 case round =>
  obtain ⟨q, hq0, hq, rfl, rfl, rfl, hall⟩ := hrel
  replace hall := hi_ hall
  have hl1 := cnt_le isP bs 1 (q - 1)
  have hl2 := cnt_le isD bs 1 (q - 1)
  by_cases hlt : q < bs.length
  ·have hck := h.out q hlt
   obtain ⟨hn1, hn2⟩ := take_next bs 1 q hq0 hlt
   replace hn1 := hi_ hn1
   replace hn2 := hi_ hn2
   have hstep := hi_ (show ((bs.drop 1).take (q + 1 - 1)).countP isP = ((bs.drop 1).take (q - 1)).countP isP + (if isP bs[q] then 1 else 0) ∧ ((bs.drop 1).take (q + 1 - 1)).countP isD = ((bs.drop 1).take (q - 1)).countP isD + (if isD bs[q] then 1 else 0) by
    rw [hn1.out, List.countP_append, List.countP_append, List.countP_singleton, List.countP_singleton]; exact ⟨rfl, rfl⟩)
   generalize hxx : bs[q] = x at *
   replace hxx := hi_ hxx
   generalize ((bs.drop 1).take (q - 1)).countP isP = n1 at *
   generalize ((bs.drop 1).take (q - 1)).countP isD = n2 at *
   clear hq0 hc0 hc
   have hx0 := u8_lt x
   by_cases h46 : (x.toNat : Int) = 46
   ·have hip : isP x = true := by
     have : x.toNat = 46 := by omega
     have : x = 46 := UInt8.toNat_inj.1 (by rw [this]; rfl)
     rw [this]; rfl
    have hid' : isD x = false := by unfold isD; have : x.toNat = 46 := by omega
                                    rw [this]; rfl
    rw [hip, hid'] at hstep
    replace hip := hi_ hip
    go_wp2
    refine ⟨⟨q + 1, by omega, by omega, by rfl, by rw [hstep.out.1]; rfl, by rw [hstep.out.2]; rfl, ?_⟩, by simp only [RowKit.intOf]; omega⟩
    rw [hn1.out]
    intro z hz
    rcases List.mem_append.1 hz with hz | hz
    ·exact hall.out z hz
    ·rw [List.mem_singleton.1 hz]; exact .inr hip.out
   ·have hip : isP x = false := by
     unfold isP
     rw [beq_eq_false_iff_ne]
     intro e; rw [e] at h46; exact h46 rfl
    by_cases hdg : 48 ≤ (x.toNat : Int) ∧ (x.toNat : Int) ≤ 57
    ·have hid' : isD x = true := by
      unfold isD
      rw [decide_eq_true (show 48 ≤ x.toNat by omega), decide_eq_true (show x.toNat ≤ 57 by omega)]; rfl
     rw [hip, hid'] at hstep
     replace hid' := hi_ hid'
     obtain ⟨hdg1, hdg2⟩ := hdg
     go_wp2
     refine ⟨⟨q + 1, by omega, by omega, by rfl, by rw [hstep.out.1]; rfl, by rw [hstep.out.2]; rfl, ?_⟩, by simp only [RowKit.intOf]; omega⟩
     rw [hn1.out]
     intro z hz
     rcases List.mem_append.1 hz with hz | hz
     ·exact hall.out z hz
     ·rw [List.mem_singleton.1 hz]; exact .inl hid'.out
    ·have hid' : isD x = false := by
      unfold isD
      by_cases h48 : 48 ≤ x.toNat
      ·rw [decide_eq_false (show ¬ x.toNat ≤ 57 by omega)]; simp
      ·rw [decide_eq_false h48]; rfl
     have hTb := hi_ (hbad.out x hn2.out hid' hip)
     have hdg2 : (x.toNat : Int) < 48 ∨ 57 < (x.toNat : Int) := by omega
     clear hdg
     rcases hdg2 with hdg2 | hdg2
     ·go_wp2
      go_ret3
      rw [hTb.out]
      exact ⟨rfl, Below.refl _ _⟩
     ·go_wp2
      go_ret3
      rw [hTb.out]
      exact ⟨rfl, Below.refl _ _⟩
  ·have hqe : q = bs.length := by omega
   subst hqe
   have hfull : (bs.drop 1).take (bs.length - 1) = bs.drop 1 := List.take_of_length_le (by rw [List.length_drop]; omega)
   rw [hfull] at hall hl1 hl2 ⊢
   have hf := hfit.out hall.out
   clear hfit hbad hfull hall hc0 hq0
   obtain ⟨hf1, hf2⟩ := hf
   generalize (bs.drop 1).countP isP = n1 at *
   generalize (bs.drop 1).countP isD = n2 at *
   by_cases hw : 1 < n1 ∨ n2 = 0
   ·have hTb := hi_ (hf1 hw)
    clear hf1 hf2
    by_cases hw1 : 1 < n1
    ·clear hw
     go_wp2
     go_ret3
     rw [hTb.out]
     exact ⟨rfl, Below.refl _ _⟩
    ·have hw2 : n2 = 0 := by omega
     subst hw2
     clear hw
     go_wp2
     go_ret3
     rw [hTb.out]
     exact ⟨rfl, Below.refl _ _⟩
   ·obtain ⟨g1, g2, g3, g4⟩ := hf2 hw
    clear hf1 hf2
    have hw1 : n1 ≤ 1 := by omega
    have hw2 : 0 < n2 := by omega
    clear hw
    replace g3 := hi_ g3
    replace g4 := hi_ g4
    replace g1 := hi_ g1
    replace g2 := hi_ g2
    have hDl : 1 + (digs bs 1).length ≤ bs.length := by
     have : (digs bs 1).length ≤ (bs.drop 1).length := (List.takeWhile_sublist _).length_le
     rw [List.length_drop] at this
     omega
    have hdin : Hid (∀ k, ∀ hk : k < (digs bs 1).length, bs[1 + k]? = some (digs bs 1)[k] ∧ isD (digs bs 1)[k] = true) := hi_ (fun k hk => digs_in hk)
    have hstop := hi_ (num_stop (digs bs 1))
    have hgo := hi_ (num_go (digs bs 1))
    have hnle := hi_ (fun k => numD_le ((digs bs 1).take k) (0, true) (by omega))
    generalize digs bs 1 = D at *
    go_wp2
    ·rename _ ∨ _ => hx
     rcases hx with hx | hx
     ·omega
     ·simp at hx; omega
    go_loop [10, 11] (fun nv iv => ∃ q k : Nat, Hid (q = 1 + k) ∧ k ≤ D.length ∧ iv = .int .i64 q ∧ nv = .int .i64 ((numD (D.take k)).1 : Nat) ∧ Hid ((numD (D.take k)).2 = true)) (fun _ iv => bs.length - (RowKit.intOf iv).toNat)
    case atStart => exact ⟨1, 0, Lib.hid rfl, Nat.zero_le _, by rfl, by rfl, Lib.hid rfl⟩
    case round =>
     obtain ⟨q, k, hqk, hk, rfl, rfl, hnt⟩ := hrel
     by_cases hlt : k < D.length
     ·have hqb : q < bs.length := by rw [hqk.out]; omega
      obtain ⟨hd1, hd2⟩ := hdin.out k hlt
      have hst := hi_ (hstop.out k hlt)
      have hgg := hi_ (hgo.out k hlt hnt.out)
      have hle : (numD (D.take k)).1 ≤ 2147483647 := hnle.out k
      have hck := h.out q hqb
      have hbd : bs[q] = D[k] := by
       have e : bs[q]? = some D[k] := by rw [hqk.out]; exact hd1
       rw [List.getElem?_eq_getElem hqb] at e
       exact Option.some.inj e
      rw [hbd] at hck
      clear hbd hd1 hdin
      generalize D[k] = x at *
      generalize (numD (D.take k)).1 = n at *
      have hx : 48 ≤ (x.toNat : Int) ∧ (x.toNat : Int) ≤ 57 := by
       unfold isD at hd2
       have := (Bool.and_eq_true_iff.1 hd2)
       have h1 := of_decide_eq_true this.1
       have h2 := of_decide_eq_true this.2
       omega
      obtain ⟨hx1, hx2⟩ := hx
      clear hd2
      obtain ⟨N, hN⟩ := hidE (n : Int)
      have hN0 : 0 ≤ N ∧ N ≤ 2147483647 := by rw [hN.out]; omega
      rw [← hN.out]
      clear hle hstop hgo hnle
      go_wp2
      ·rename _ < _ => hgt
       go_ret3
       rw [g2.out (hst.out (by have := hN.out; omega))]
       exact ⟨rfl, Below.refl _ _⟩
      ·rename _ ≤ _ => hgt
       have e := hgg.out (by have := hN.out; omega)
       refine ⟨⟨q + 1, k + 1, Lib.hid (by rw [hqk.out]; omega), by omega, by rfl, by rw [e]; congr 1; have := hN.out; simp only; omega, Lib.hid (by rw [e])⟩, by simp only [RowKit.intOf]; omega⟩
     ·have hke : k = D.length := by omega
      subst hke
      rw [List.take_length] at hnt ⊢
      have hle := hnle.out D.length
      rw [List.take_length] at hle
      change (numD D).1 ≤ 2147483647 at hle
      clear hdin hstop hgo hnle g2
      replace g3 := hi_ (g3.out hnt.out)
      replace g4 := hi_ (g4.out hnt.out)
      generalize (numD D).1 = n at *
      obtain ⟨N, hN⟩ := hidE (n : Int)
      have hN0 : 0 ≤ N ∧ N ≤ 2147483647 := by rw [hN.out]; omega
      rw [← hN.out]
      clear hle hw2 hl1 hl2
      by_cases hn1 : n1 = 0
      ·obtain ⟨hend, hTw⟩ := g3.out hn1
       have hqe : q = bs.length := by rw [hqk.out, hend]
       subst hqe
       subst hn1
       rw [← hN.out] at hTw
       replace hTw := hi_ hTw
       clear g1 g3 g4 hend
       go_wp2
       go_ret3
       rw [hTw.out]
       exact ⟨by simp [signI], Below.refl _ _⟩
      ·obtain ⟨hlt2, hD2, hTp⟩ := g4.out hn1
       have hn1e : n1 = 1 := by omega
       subst hn1e
       have hqb : q < bs.length := by rw [hqk.out]; exact hlt2
       have hck := h.out q hqb
       have h46 : bs[q] = 46 := by
        have e := g1.out hlt2
        rw [← hqk.out, List.getElem?_eq_getElem hqb] at e
        exact Option.some.inj e
       rw [h46] at hck
       rw [← hN.out] at hTp
       clear h46 hlt2 g1 g3 g4
       rw [← hqk.out] at hD2 hTp
       replace hTp := hi_ hTp
       have hd2in : Hid (∀ k, ∀ hk : k < (digs bs (q + 1)).length, bs[q + 1 + k]? = some (digs bs (q + 1))[k] ∧ isD (digs bs (q + 1))[k] = true) := hi_ (fun k hk => digs_in hk)
       have hbd := hi_ (frac_bd (digs bs (q + 1)) digs_all)
       generalize digs bs (q + 1) = E at *
       go_wp2
       go_loop [12, 13] (fun fv kv => ∃ k : Nat, k ≤ 5 ∧ kv = .int .i64 k ∧ fv = .int .i64 (valD (E.take k) * 10 ^ (k - E.length) : Nat)) (fun _ kv => 5 - (RowKit.intOf kv).toNat)
       case atStart => exact ⟨0, by omega, by rfl, by simp [valD]⟩
       case round =>
        obtain ⟨k, hk, rfl, rfl⟩ := hrel
        by_cases hk5 : k < 5
        ·have hb1 : valD (E.take k) * 10 ^ (k - E.length) ≤ 9999 := by
          have h1 := hbd.out k
          have h2 : 10 ^ k ≤ 10 ^ 4 := Nat.pow_le_pow_right (by omega) (by omega)
          omega
         obtain ⟨hf1, hf2⟩ := frac_go E k
         replace hf1 := hi_ hf1
         replace hf2 := hi_ hf2
         generalize valD (E.take k) * 10 ^ (k - E.length) = m at *
         obtain ⟨M, hM⟩ := hidE (m : Int)
         have hM0 : 0 ≤ M ∧ M ≤ 9999 := by rw [hM.out]; omega
         rw [← hM.out]
         clear hb1
         by_cases hke : k < E.length
         ·obtain ⟨hd1, hd2⟩ := hd2in.out k hke
          have hqk2 : q + 1 + k < bs.length := by omega
          have hck2 := h.out (q + 1 + k) hqk2
          have hbd2 : bs[q + 1 + k] = E[k] := by
           rw [List.getElem?_eq_getElem hqk2] at hd1
           exact Option.some.inj hd1
          rw [hbd2] at hck2
          have hf3 := hi_ (hf1.out hke)
          clear hbd2 hd1 hd2in hf1 hf2
          generalize E[k] = x at *
          have hx : 48 ≤ (x.toNat : Int) ∧ (x.toNat : Int) ≤ 57 := by
           unfold isD at hd2
           have := (Bool.and_eq_true_iff.1 hd2)
           have h1 := of_decide_eq_true this.1
           have h2 := of_decide_eq_true this.2
           omega
          obtain ⟨hx1, hx2⟩ := hx
          clear hd2
          go_wp2
          have e := hf3.out
          refine ⟨⟨k + 1, by omega, by rfl, by rw [e]; congr 1; have := hM.out; omega⟩, by simp only [RowKit.intOf]; omega⟩
         ·have hf3 := hi_ (hf2.out hke)
          clear hf1 hf2 hd2in
          go_wp2
          have e := hf3.out
          refine ⟨⟨k + 1, by omega, by rfl, by rw [e]; congr 1; have := hM.out; omega⟩, by simp only [RowKit.intOf]; omega⟩
        ·have hk5 : k = 5 := by omega
         subst hk5
         have hb1 : fracD E ≤ 99999 := by
          have h1 := hbd.out 5
          unfold fracD
          omega
         change _ at hk
         rw [show valD (E.take 5) * 10 ^ (5 - E.length) = fracD E from rfl]
         generalize fracD E = m at *
         obtain ⟨M, hM⟩ := hidE (m : Int)
         have hM0 : 0 ≤ M ∧ M ≤ 99999 := by rw [hM.out]; omega
         rw [← hM.out]
         clear hb1 hd2in hbd
         go_wp2
         go_ret3
         rw [hTp.out, ← hM.out]
         exact ⟨by simp [signI], Below.refl _ _⟩
set_option maxHeartbeats 1000000 in
set_option maxRecDepth 100000 in
theorem rp_nil {w : World} (A : Option Addr) (c : Nat) :
 Calls Tryz.prog 154 #[.slice A 0 c] w fun e w' => e = .returned (.tuple #[.int .i64 0, .bool false, .int .i64 4]) ∧ Below w.heap.size w w' := by
 go_enter Tryz.func154, Tryz.ntmps154
 go_wp2
 go_loop [7, 8, 9] (fun pv dv iv => iv = .int .i64 0 ∧ pv = .int .i64 0 ∧ dv = .int .i64 0) (fun _ _ _ => 0)
 case atStart => exact ⟨rfl, rfl, rfl⟩
 case round =>
  obtain ⟨rfl, rfl, rfl⟩ := hrel
  go_wp2
  go_ret3
  exact ⟨rfl, Below.refl _ _⟩
theorem ref_parse {w : World} {A : Option Addr} {c : Nat} {bs : List UInt8} (h : Byt w A bs) (hc : bs.length ≤ c) (hs : bs.length ≤ 1000000000) :
 Calls Tryz.prog 154 #[.slice A bs.length c] w fun e w' => e = .returned (.tuple #[.int .i64 (parseS bs).1, .bool (parseS bs).2.1, .int .i64 (parseS bs).2.2]) ∧ Below w.heap.size w w' := by
 by_cases h0 : 0 < bs.length
 ·obtain ⟨b, o, rfl, hcell⟩ := h.2 h0
  by_cases e43 : bs[0] = 43
  ·exact rp_plus hcell h0 hc hs e43
  ·by_cases e45 : bs[0] = 45
   ·exact rp_minus hcell h0 hc hs e45
   ·refine rp_none hcell h0 hc hs (fun e => e43 ?_) (fun e => e45 ?_)
    ·exact UInt8.toNat_inj.1 (by show bs[0].toNat = 43; omega)
    ·exact UInt8.toNat_inj.1 (by show bs[0].toNat = 45; omega)
 ·have e : bs = [] := List.length_eq_zero_iff.1 (by omega)
  subst e
  exact rp_nil A c
end Go.Proofs.YthacnnmlephkhaaGreatDoor

/- The document's number, into a token. No condition. -/
namespace Go.Proofs.YthacnnmlephkhaaGreatDoor
open Go Go.RowKit Go.Wk Go.Rd Go.Fx
section
variable {L T : Nat} {A : Option Addr} {c : Nat} {bs : Bs} {D P AT : Value} {w0 w w' : World} {r r' : Bs}
theorem Own.out2 {B : Nat} {w : World} {v : Value} {bs : List UInt8} (h : Own B w v bs) (hm : bs.length ≤ maxLen) : ∃ A c, v = .slice A bs.length c ∧ Byt w A bs ∧ (A = none → c = 0) ∧ bs.length ≤ c := by
 obtain ⟨A, c, e, h1, h2⟩ := h.out hm
 refine ⟨A, c, e, h1, h2, ?_⟩
 rcases h.row.2 with ⟨e1, hn⟩ | ⟨g, cap, cur, e1, _, _, hnc, _⟩
 ·rw [e] at e1; injection e1 with e1 e2 e3; omega
 ·rw [e] at e1; injection e1 with e1 e2 e3; omega
theorem Own.not_ {B : Nat} {w : World} {v : Value} {b : List UInt8} (h : Own B w v b) {g : Nat} {t : TypeId} {cs : Array Value} (hb : Blk w g t cs) (ht : t ≠ 5) : v.ownBlock ≠ some g := by
 rcases h.row.2 with ⟨rfl, _⟩ | ⟨g', cap, cur, rfl, _, hh, _⟩
 ·simp [Value.ownBlock]
 ·intro e
  have e : g' = g := by simpa [Value.ownBlock] using e
  subst e
  unfold Blk at hb
  rw [hb] at hh
  injection hh with hh
  injection hh with _ h2
  exact ht h2
theorem Own.far_ {B : Nat} {w : World} {v : Value} {b : List UInt8} (h : Own B w v b) {g i : Nat} {u : Value} (hg : v.ownBlock ≠ some g) : Own B (w.setCell ⟨g, i, none⟩ u) v b :=
 own_grown h (set_grown w g i u) (fun q hq e => hg (by rw [hq]; injection e with e; rw [e]))
theorem Save.far_ {L T o : Nat} {a b : World} {u : Value} (h : Save L a b) (hT : a.heap.size ≤ T) : Save L a (b.setCell ⟨T, o, none⟩ u) :=
 ⟨h.os, h.tape, h.output, by simpa [World.setCell] using h.size, fun k hk hn => (Below.heap_setCell b ⟨T, o, none⟩ u k (by show k ≠ T; omega)).trans (h.block k hk hn)⟩
def Off (A : Option Addr) (bs : Bs) (w0 : World) : Prop := 0 < bs.length → ∀ x, A = some x → x.block < w0.heap.size
theorem LX.far_ {o : Nat} {u : Value} (h : LX L A c bs D P w r) (hT : L ≠ T) (hA : 0 < bs.length → ∀ x, A = some x → x.block ≠ T) : LX L A c bs D P (w.setCell ⟨T, o, none⟩ u) r := by
 refine ⟨h.blk.far hT u, ⟨h.byt.1, fun h0 => ?_⟩, h.ne, h.suf, h.cap, h.small⟩
 obtain ⟨g, o', e, hc⟩ := h.byt.2 h0
 refine ⟨g, o', e, fun i hi => ?_⟩
 rw [World.cell?_setCell_other _ _ _ _ (by intro e2; injection e2 with e2; exact hA h0 _ e (by first | exact e2 | exact e2.symm))]
 exact hc i hi
def TokR (L T : Nat) (A : Option Addr) (c : Nat) (bs : Bs) (D P AT : Value) (w0 : World) (res : Res Tok) (e : Ending) (w' : World) : Prop := match res with
 | .ok k u => e = .returned (.int .i64 0) ∧ (∃ v, Blk w' T 99 #[.int .i64 k.k, AT, .int .i64 k.n, v] ∧ Own w0.heap.size w' v k.b) ∧ LX L A c bs D P w' u ∧ Save L w0 w'
 | .err n _ => n ≠ 0 ∧ e = .returned (.int .i64 n) ∧ (∃ a b v, Blk w' T 99 #[a, AT, b, v]) ∧ (∃ q : Int, Blk w' L 73 #[.slice A bs.length c, .int .i64 q, D, P]) ∧ Save L w0 w'
structure TS (L T : Nat) (A : Option Addr) (c : Nat) (bs : Bs) (D P AT : Value) (w0 w : World) (r : Bs) : Prop where
 lx : LX L A c bs D P w r
 tk : Blk w T 99 #[.int .i64 0, AT, .int .i64 0, .slice none 0 0]
 sv : Save L w0 w
 ll : L < w0.heap.size
 lt : w0.heap.size ≤ T
 off : Off A bs w0
theorem TS.ne (h : TS L T A c bs D P AT w0 w r) : L ≠ T := by have := h.ll; have := h.lt; omega
theorem TS.na (h : TS L T A c bs D P AT w0 w r) : 0 < bs.length → ∀ x, A = some x → x.block ≠ T := fun h0 x hx => by have := h.off h0 x hx; have := h.lt; omega
theorem parse_err (l : Bs) : (parseS l).2.2 = 0 ∨ (parseS l).2.2 = 4 ∨ (parseS l).2.2 = 5 := by
 unfold parseS
 repeat' split
 all_goals simp
theorem parse_i64 (l : Bs) : -9223372036854775808 ≤ (parseS l).1 ∧ (parseS l).1 ≤ 9223372036854775807 := by
 have h1 : ∀ p, (numD (digs l p)).1 ≤ 2147483647 := fun p => numD_le _ (0, true) (by decide)
 have h2 : ∀ p, fracD (digs l p) ≤ 99999 := fun p => fracD_le l p
 have h3 : ∀ b, signI b = 1 ∨ signI b = -1 := fun b => by cases b <;> simp [signI]
 unfold parseS
 have a1 := h1 (sgn l).1
 have a2 := h2 ((sgn l).1 + (digs l (sgn l).1).length + 1)
 have a3 := h3 (sgn l).2
 generalize (numD (digs l (sgn l).1)).1 = n at *
 generalize fracD (digs l ((sgn l).1 + (digs l (sgn l).1).length + 1)) = f at *
 generalize signI (sgn l).2 = s at *
 repeat' split
 all_goals first
  | (simp; done)
  | (simp only []; rcases a3 with rfl | rfl <;> omega)
set_option maxHeartbeats 8000000 in
set_option maxRecDepth 100000 in
theorem rx_number (h : TS L T A c bs D P AT w0 w r) (h0 : 0 < r.length) : Calls Tryz.prog 143 #[.pointer (some ⟨L, 0, none⟩), .pointer (some ⟨T, 0, none⟩)] w (TokR L T A c bs D P AT w0 (numS r)) := by
 have crun := rx_run h.lx h0
 obtain ⟨R, hR⟩ : ∃ R, R = runS r := ⟨_, rfl⟩
 have hRl : R.length ≤ 1000000000 := by
  rw [hR]
  have h1 := (List.takeWhile_prefix (p := regB) (l := r)).length_le
  have h2 := suf_len h.lx.suf
  have h3 := h.lx.small
  have : (runS r).length ≤ r.length := h1
  omega
 unfold numS
 rw [← hR] at crun ⊢
 have cpa := fun W A' c' (hb : Byt W A' R) (hc : R.length ≤ c') => ref_parse (w := W) (A := A') (c := c') (bs := R) hb hc hRl
 obtain ⟨N, hN⟩ : ∃ N, N = (parseS R).1 := ⟨_, rfl⟩
 obtain ⟨wh, hwh⟩ : ∃ N, N = (parseS R).2.1 := ⟨_, rfl⟩
 obtain ⟨er, her⟩ : ∃ N, N = (parseS R).2.2 := ⟨_, rfl⟩
 have he3 := parse_err R
 rw [← her] at he3
 rw [← hN, ← hwh, ← her] at cpa ⊢
 replace hN := hi_ hN
 replace hwh := hi_ hwh
 replace her := hi_ her
 replace cpa := hi_ cpa
 replace crun := hi_ crun
 replace hR := hi_ hR
 have hml : R.length ≤ maxLen := by unfold maxLen; omega
 replace hml := hi_ hml
 replace hRl := hi_ hRl
 replace he3 := hi_ he3
 obtain ⟨Z, hZ⟩ : ∃ Z : Res Tok, Z = (if er = 0 then .ok ⟨if wh then 1 else 2, N, []⟩ (r.drop R.length) else .err er r) := ⟨_, rfl⟩
 rw [← hZ]
 have fin : ∀ wz (k : Int), (er = 0 → k = if wh then 1 else 2) → Blk wz T 99 #[.int .i64 k, AT, .int .i64 N, .slice none 0 0] → LX L A c bs D P wz (r.drop R.length) → Save L w0 wz → TokR L T A c bs D P AT w0 Z (.returned (.int .i64 er)) wz := fun wz k hk hb hl hs => by
  rw [hZ]
  by_cases e0 : er = 0
  ·rw [if_pos e0]
   refine ⟨by rw [e0], ⟨_, by rw [← hk e0]; exact hb, Own.nil _ _⟩, hl, hs⟩
  ·rw [if_neg e0]
   exact ⟨e0, rfl, ⟨_, _, _, hb⟩, hl.at_, hs⟩
 replace fin := hi_ fin
 replace hZ := hi_ hZ
 replace h := hi_ h
 cases wh with
 | true =>
  go_enter Tryz.func143, Tryz.ntmps143
  go_wp2_with (first
   | (go_at_call 144; (with_reducible refine (crun.out).mono ?_); rintro e w2 ⟨v2, rfl, hO2, hL2, hS2⟩; obtain ⟨A2, c2, rfl, hby2, hA2, hc2⟩ := hO2.out2 hml.out; have c3 := cpa.out w2 A2 c2 hby2 hc2; replace hL2 := hi_ hL2; replace hS2 := hi_ hS2; clear hO2 hby2 hA2 hc2)
   | (go_at_call 154; (with_reducible refine (c3).mono ?_); rintro e w3 ⟨rfl, hB3⟩; have hL3 := hL2.out.below hB3; have hS3 := hS2.out.then_ hB3; have hT3 := hS3.blk h.out.ne.symm h.out.tk; have t0 := hT3.cell 0; have t2 := hT3.cell 2; have f0 := hT3.frozen 0; have f2 := hT3.frozen 2; replace hL3 := hi_ hL3; replace hS3 := hi_ hS3; replace hT3 := hi_ hT3))
  go_ret
  have hne := h.out.ne
  have hna := h.out.na
  have hlt := h.out.lt
  have hsv := h.out.sv
  exact fin.out _ 1 (fun _ => rfl) (((hT3.out.set_ 0 _).set_ 0 _).set_ 2 _) (((hL3.out.far_ hne hna).far_ hne hna).far_ hne hna) ((((hsv.trans hS3.out).far_ hlt).far_ hlt).far_ hlt)
 | false =>
  go_enter Tryz.func143, Tryz.ntmps143
  go_wp2_with (first
   | (go_at_call 144; (with_reducible refine (crun.out).mono ?_); rintro e w2 ⟨v2, rfl, hO2, hL2, hS2⟩; obtain ⟨A2, c2, rfl, hby2, hA2, hc2⟩ := hO2.out2 hml.out; have c3 := cpa.out w2 A2 c2 hby2 hc2; replace hL2 := hi_ hL2; replace hS2 := hi_ hS2; clear hO2 hby2 hA2 hc2)
   | (go_at_call 154; (with_reducible refine (c3).mono ?_); rintro e w3 ⟨rfl, hB3⟩; have hL3 := hL2.out.below hB3; have hS3 := hS2.out.then_ hB3; have hT3 := hS3.blk h.out.ne.symm h.out.tk; have t0 := hT3.cell 0; have t2 := hT3.cell 2; have f0 := hT3.frozen 0; have f2 := hT3.frozen 2; replace hL3 := hi_ hL3; replace hS3 := hi_ hS3; replace hT3 := hi_ hT3))
  go_ret
  have hne := h.out.ne
  have hna := h.out.na
  have hlt := h.out.lt
  have hsv := h.out.sv
  exact fin.out _ 2 (fun _ => rfl) ((hT3.out.set_ 0 _).set_ 2 _) ((hL3.out.far_ hne hna).far_ hne hna) (((hsv.trans hS3.out).far_ hlt).far_ hlt)
end
end Go.Proofs.YthacnnmlephkhaaGreatDoor

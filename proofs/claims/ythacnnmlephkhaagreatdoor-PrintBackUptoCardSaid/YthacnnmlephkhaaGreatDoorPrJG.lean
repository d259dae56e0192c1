/- Walks and laws, joined: part G. No condition. -/
import Derived.Test.YthacnnmlephkhaaGreatDoorPrJF
import Derived.Test.YthacnnmlephkhaaGreatDoorPrJD
import Derived.Test.YthacnnmlephkhaaGreatDoorPrJA
import Derived.Deep.QuietTactic
import Derived.BigQuiet
set_option linter.unusedSimpArgs false
set_option linter.unusedVariables false
/- The document's token: what stands where blanks have been passed. No condition. -/
namespace Go.Proofs.YthacnnmlephkhaaGreatDoor
open Go Go.RowKit Go.Wk Go.Rd Go.Fx
section
variable {L T : Nat} {A : Option Addr} {c : Nat} {bs : Bs} {D P AT : Value} {w0 w w' : World} {r r' : Bs}
theorem run_len (r : Bs) : (runS r).length ≤ r.length := (List.takeWhile_prefix (p := regB) (l := r)).length_le
theorem tok_fin {k : Int} {b : Bs} {u : Bs} {v z : Value} (h : TS L T A c bs D P AT w0 w r) (hT : Blk w' T 99 #[.int .i64 k, AT, .int .i64 0, z]) (hO : Own w0.heap.size w' v b) (hL : LX L A c bs D P w' u) (hS : Save L w0 w') :
 TokR L T A c bs D P AT w0 (.ok ⟨k, 0, b⟩ u) (.returned (.int .i64 0)) (w'.setCell ⟨T, 3, none⟩ v) :=
 ⟨rfl, ⟨v, hT.set_ 3 v, hO.far_ (hO.not_ hT (by decide))⟩, hL.far_ h.ne h.na, hS.far_ h.lt⟩
theorem tok_bad {k n : Int} {a z : Value} {u : Bs} (h : TS L T A c bs D P AT w0 w r) (hn : n ≠ 0) (hT : Blk w' T 99 #[.int .i64 k, AT, a, z]) (hq : ∃ q : Int, Blk w' L 73 #[.slice A bs.length c, .int .i64 q, D, P]) (hS : Save L w0 w') :
 TokR L T A c bs D P AT w0 (.err n u) (.returned (.int .i64 n)) (w'.setCell ⟨T, 3, none⟩ (.slice none 0 0)) := by
 obtain ⟨q, hq⟩ := hq
 exact ⟨hn, rfl, ⟨_, _, _, hT.set_ 3 _⟩, ⟨q, hq.far h.ne _⟩, hS.far_ h.lt⟩
theorem tok_lit {k x : Int} {u : Bs} (h : TS L T A c bs D P AT w0 w r) (hT : Blk w' T 99 #[.int .i64 0, AT, .int .i64 0, .slice none 0 0]) (hS : Save L w0 w') (hL : LX L A c bs D P ((w'.setCell ⟨T, 0, none⟩ (.int .i64 k)).setCell ⟨L, 1, none⟩ (.int .i64 x)) u) :
 TokR L T A c bs D P AT w0 (.ok ⟨k, 0, []⟩ u) (.returned (.int .i64 0)) ((w'.setCell ⟨T, 0, none⟩ (.int .i64 k)).setCell ⟨L, 1, none⟩ (.int .i64 x)) :=
 ⟨rfl, ⟨_, (hT.set_ 0 _).far h.ne.symm _, Own.nil _ _⟩, hL, (hS.far_ h.lt).store 1 _⟩
theorem name_ne : ∀ (f : Nat) (out r : Bs) (k : Int) (u : Bs), nameS f out r = .err k u → k ≠ 0
 | 0, out, r, k, u, h => by rw [nameS] at h; cases h; decide
 | f + 1, out, [], k, u, h => by rw [nameS] at h; cases h
 | f + 1, out, x :: t, k, u, h => by
  rw [nameS] at h
  repeat' split at h
  all_goals first
   | (cases h; done)
   | (cases h; decide)
   | exact name_ne _ _ _ _ _ h
theorem text_ne : ∀ (f op : Nat) (out r : Bs) (k : Int) (u : Bs), textS f op out r = .err k u → k ≠ 0
 | 0, op, out, r, k, u, h => by rw [textS] at h; cases h; decide
 | f + 1, op, out, [], k, u, h => by rw [textS] at h; cases h; decide
 | f + 1, op, out, x :: t, k, u, h => by
  rw [textS.eq_def] at h
  simp only [] at h
  repeat' split at h
  all_goals first
   | (cases h; done)
   | (cases h; decide)
   | exact text_ne _ _ _ _ _ _ h
theorem hex_ne : ∀ (f : Nat) (g : Int) (out r : Bs) (k : Int) (u : Bs), hexR f g out r = .err k u → k ≠ 0
 | 0, g, out, r, k, u, h => by rw [hexR] at h; cases h; decide
 | f + 1, g, out, [], k, u, h => by rw [hexR] at h; cases h; decide
 | f + 1, g, out, x :: t, k, u, h => by
  rw [hexR] at h
  repeat' split at h
  all_goals first
   | (cases h; done)
   | (cases h; decide)
   | exact hex_ne _ _ _ _ _ _ h
theorem num_eq {x : UInt8} {X : Int} (h : X = (x.toNat : Int)) : numC x = ((X == 43) || (X == 45) || (X == 46) || (decide (48 ≤ X) && decide (X ≤ 57))) := by
 subst h
 unfold numC
 rw [u8_eqI x 43, u8_eqI x 45, u8_eqI x 46]
 rw [Bool.eq_iff_iff]
 simp
 omega
set_option maxHeartbeats 8000000 in
set_option maxRecDepth 100000 in
theorem tk_nil (h : TS L T A c bs D P AT w0 w ([])) : Calls Tryz.prog 129 #[.pointer (some ⟨L, 0, none⟩), .pointer (some ⟨T, 0, none⟩)] w (TokR L T A c bs D P AT w0 (tokA ([]))) := by
 have hRS : tokA ([]) = .ok ⟨0, 0, []⟩ [] := rfl
 obtain ⟨RS, hR⟩ : ∃ R, R = tokA ([]) := ⟨_, rfl⟩
 rw [← hR]
 rw [hRS] at hR
 clear hRS
 have cp := fun W h => rx_peekN (L := L) (A := A) (c := c) (bs := bs) (D := D) (P := P) W h
 replace cp := hi_ cp
 obtain ⟨q, hq, hq0, hq1⟩ := h.lx.pos_i
 have q1 := h.lx.blk.cell 1
 have v1 := h.lx.blk.frozen 1
 rw [← hq] at q1
 have t0 := h.tk.cell 0
 have g0 := h.tk.frozen 0
 have t3 := h.tk.cell 3
 have g3 := h.tk.frozen 3
 obtain ⟨hL, hS, hT⟩ : Hid (LX L A c bs D P w ([])) ∧ Hid (Save L w0 w) ∧ Hid (Blk w T 99 #[.int .i64 0, AT, .int .i64 0, .slice none 0 0]) := ⟨Lib.hid h.lx, Lib.hid h.sv, Lib.hid h.tk⟩
 replace hq := hi_ hq
 replace h := hi_ h
 replace hR := hi_ hR
 go_enter Tryz.func129, Tryz.ntmps129
 go_wp2_with (go_at_call 82; (with_reducible refine (cp.out _ hL.out).mono ?_); rintro e w1 ⟨rfl, hB⟩; replace hL := hi_ (hL.out.below hB); replace hS := hi_ (hS.out.then_ hB); replace q1 := hL.out.blk.cell 1; rw [← hq.out] at q1; replace v1 := hL.out.blk.frozen 1; replace hT := hi_ (hT.out.below hB hT.out.lt); replace t0 := hT.out.cell 0; replace g0 := hT.out.frozen 0; replace t3 := hT.out.cell 3; replace g3 := hT.out.frozen 3; clear hB)
 go_ret
 rw [hR.out]
 exact ⟨rfl, ⟨_, hT.out, Own.nil _ _⟩, hL.out, hS.out⟩
set_option maxHeartbeats 8000000 in
set_option maxRecDepth 100000 in
theorem tk_open {t : Bs} (h : TS L T A c bs D P AT w0 w (91 :: t)) : Calls Tryz.prog 129 #[.pointer (some ⟨L, 0, none⟩), .pointer (some ⟨T, 0, none⟩)] w (TokR L T A c bs D P AT w0 (tokA (91 :: t))) := by
 have hRS : tokA (91 :: t) = .ok ⟨5, 0, []⟩ t := by rw [tokA, if_pos rfl]
 obtain ⟨RS, hR⟩ : ∃ R, R = tokA (91 :: t) := ⟨_, rfl⟩
 rw [← hR]
 rw [hRS] at hR
 clear hRS
 have cp := fun W h => rx_peek0 (L := L) (A := A) (c := c) (bs := bs) (D := D) (P := P) (x := 91) (t := t) 91 rfl W h
 replace cp := hi_ cp
 obtain ⟨q, hq, hq0, hq1⟩ := h.lx.pos_i
 have q1 := h.lx.blk.cell 1
 have v1 := h.lx.blk.frozen 1
 rw [← hq] at q1
 have t0 := h.tk.cell 0
 have g0 := h.tk.frozen 0
 have t3 := h.tk.cell 3
 have g3 := h.tk.frozen 3
 obtain ⟨hL, hS, hT⟩ : Hid (LX L A c bs D P w (91 :: t)) ∧ Hid (Save L w0 w) ∧ Hid (Blk w T 99 #[.int .i64 0, AT, .int .i64 0, .slice none 0 0]) := ⟨Lib.hid h.lx, Lib.hid h.sv, Lib.hid h.tk⟩
 replace hq := hi_ hq
 replace h := hi_ h
 replace hR := hi_ hR
 go_enter Tryz.func129, Tryz.ntmps129
 go_wp2_with (go_at_call 82; (with_reducible refine (cp.out _ hL.out).mono ?_); rintro e w1 ⟨rfl, hB⟩; replace hL := hi_ (hL.out.below hB); replace hS := hi_ (hS.out.then_ hB); replace q1 := hL.out.blk.cell 1; rw [← hq.out] at q1; replace v1 := hL.out.blk.frozen 1; replace hT := hi_ (hT.out.below hB hT.out.lt); replace t0 := hT.out.cell 0; replace g0 := hT.out.frozen 0; replace t3 := hT.out.cell 3; replace g3 := hT.out.frozen 3; clear hB)
 go_ret
 rw [hR.out]
 have hne := h.out.ne
 have hna := h.out.na
 have hlt := h.out.lt
 exact tok_lit h.out hT.out hS.out ((hL.out.far_ hne hna).next hq.out)
set_option maxHeartbeats 8000000 in
set_option maxRecDepth 100000 in
theorem tk_close {t : Bs} (h : TS L T A c bs D P AT w0 w (93 :: t)) : Calls Tryz.prog 129 #[.pointer (some ⟨L, 0, none⟩), .pointer (some ⟨T, 0, none⟩)] w (TokR L T A c bs D P AT w0 (tokA (93 :: t))) := by
 have hRS : tokA (93 :: t) = .ok ⟨6, 0, []⟩ t := by rw [tokA, if_neg (by decide), if_pos rfl]
 obtain ⟨RS, hR⟩ : ∃ R, R = tokA (93 :: t) := ⟨_, rfl⟩
 rw [← hR]
 rw [hRS] at hR
 clear hRS
 have cp := fun W h => rx_peek0 (L := L) (A := A) (c := c) (bs := bs) (D := D) (P := P) (x := 93) (t := t) 93 rfl W h
 replace cp := hi_ cp
 obtain ⟨q, hq, hq0, hq1⟩ := h.lx.pos_i
 have q1 := h.lx.blk.cell 1
 have v1 := h.lx.blk.frozen 1
 rw [← hq] at q1
 have t0 := h.tk.cell 0
 have g0 := h.tk.frozen 0
 have t3 := h.tk.cell 3
 have g3 := h.tk.frozen 3
 obtain ⟨hL, hS, hT⟩ : Hid (LX L A c bs D P w (93 :: t)) ∧ Hid (Save L w0 w) ∧ Hid (Blk w T 99 #[.int .i64 0, AT, .int .i64 0, .slice none 0 0]) := ⟨Lib.hid h.lx, Lib.hid h.sv, Lib.hid h.tk⟩
 replace hq := hi_ hq
 replace h := hi_ h
 replace hR := hi_ hR
 go_enter Tryz.func129, Tryz.ntmps129
 go_wp2_with (go_at_call 82; (with_reducible refine (cp.out _ hL.out).mono ?_); rintro e w1 ⟨rfl, hB⟩; replace hL := hi_ (hL.out.below hB); replace hS := hi_ (hS.out.then_ hB); replace q1 := hL.out.blk.cell 1; rw [← hq.out] at q1; replace v1 := hL.out.blk.frozen 1; replace hT := hi_ (hT.out.below hB hT.out.lt); replace t0 := hT.out.cell 0; replace g0 := hT.out.frozen 0; replace t3 := hT.out.cell 3; replace g3 := hT.out.frozen 3; clear hB)
 go_ret
 rw [hR.out]
 have hne := h.out.ne
 have hna := h.out.na
 have hlt := h.out.lt
 exact tok_lit h.out hT.out hS.out ((hL.out.far_ hne hna).next hq.out)
set_option maxHeartbeats 8000000 in
set_option maxRecDepth 100000 in
theorem tk_left {t : Bs} (h : TS L T A c bs D P AT w0 w (60 :: 60 :: t)) : Calls Tryz.prog 129 #[.pointer (some ⟨L, 0, none⟩), .pointer (some ⟨T, 0, none⟩)] w (TokR L T A c bs D P AT w0 (tokA (60 :: 60 :: t))) := by
 have hRS : tokA (60 :: 60 :: t) = .ok ⟨7, 0, []⟩ t := by rw [tokA, if_neg (by decide), if_neg (by decide), if_pos ⟨rfl, rfl⟩]; rfl
 obtain ⟨RS, hR⟩ : ∃ R, R = tokA (60 :: 60 :: t) := ⟨_, rfl⟩
 rw [← hR]
 rw [hRS] at hR
 clear hRS
 have cp := fun W h => rx_peek0 (L := L) (A := A) (c := c) (bs := bs) (D := D) (P := P) (x := 60) (t := 60 :: t) 60 rfl W h
 replace cp := hi_ cp
 have cp1 := (fun W h => rx_pk1 W h : ∀ W, LX L A c bs D P W (60 :: 60 :: t) → Calls Tryz.prog 82 #[.pointer (some ⟨L, 0, none⟩), .int .i64 1] W fun e w' => e = .returned (.int .i64 60) ∧ Below W.heap.size W w')
 replace cp1 := hi_ cp1
 obtain ⟨q, hq, hq0, hq1⟩ := h.lx.pos_i
 have q1 := h.lx.blk.cell 1
 have v1 := h.lx.blk.frozen 1
 rw [← hq] at q1
 have t0 := h.tk.cell 0
 have g0 := h.tk.frozen 0
 have t3 := h.tk.cell 3
 have g3 := h.tk.frozen 3
 obtain ⟨hL, hS, hT⟩ : Hid (LX L A c bs D P w (60 :: 60 :: t)) ∧ Hid (Save L w0 w) ∧ Hid (Blk w T 99 #[.int .i64 0, AT, .int .i64 0, .slice none 0 0]) := ⟨Lib.hid h.lx, Lib.hid h.sv, Lib.hid h.tk⟩
 replace hq := hi_ hq
 replace h := hi_ h
 replace hR := hi_ hR
 go_enter Tryz.func129, Tryz.ntmps129
 go_wp2_with (first
  | (go_at_call 82; (with_reducible refine (cp.out _ hL.out).mono ?_); rintro e w1 ⟨rfl, hB⟩; replace hL := hi_ (hL.out.below hB); replace hS := hi_ (hS.out.then_ hB); replace q1 := hL.out.blk.cell 1; rw [← hq.out] at q1; replace v1 := hL.out.blk.frozen 1; replace hT := hi_ (hT.out.below hB hT.out.lt); replace t0 := hT.out.cell 0; replace g0 := hT.out.frozen 0; replace t3 := hT.out.cell 3; replace g3 := hT.out.frozen 3; clear hB)
  | (go_at_call 82; (with_reducible refine (cp1.out _ hL.out).mono ?_); rintro e w1 ⟨rfl, hB⟩; replace hL := hi_ (hL.out.below hB); replace hS := hi_ (hS.out.then_ hB); replace q1 := hL.out.blk.cell 1; rw [← hq.out] at q1; replace v1 := hL.out.blk.frozen 1; replace hT := hi_ (hT.out.below hB hT.out.lt); replace t0 := hT.out.cell 0; replace g0 := hT.out.frozen 0; replace t3 := hT.out.cell 3; replace g3 := hT.out.frozen 3; clear hB))
 go_ret
 rw [hR.out]
 have hne := h.out.ne
 have hna := h.out.na
 have hlt := h.out.lt
 have hL2 := (hL.out.far_ (o := 0) (u := .int .i64 7) hne hna).next2 (by simp) hq.out
 exact tok_lit h.out hT.out hS.out hL2
set_option maxHeartbeats 8000000 in
set_option maxRecDepth 100000 in
theorem tk_right {t : Bs} (h : TS L T A c bs D P AT w0 w (62 :: 62 :: t)) : Calls Tryz.prog 129 #[.pointer (some ⟨L, 0, none⟩), .pointer (some ⟨T, 0, none⟩)] w (TokR L T A c bs D P AT w0 (tokA (62 :: 62 :: t))) := by
 have hRS : tokA (62 :: 62 :: t) = .ok ⟨8, 0, []⟩ t := by rw [tokA, if_neg (by decide), if_neg (by decide), if_neg (by rintro ⟨h, _⟩; exact absurd h (by decide)), if_pos ⟨rfl, rfl⟩]; rfl
 obtain ⟨RS, hR⟩ : ∃ R, R = tokA (62 :: 62 :: t) := ⟨_, rfl⟩
 rw [← hR]
 rw [hRS] at hR
 clear hRS
 have cp := fun W h => rx_peek0 (L := L) (A := A) (c := c) (bs := bs) (D := D) (P := P) (x := 62) (t := 62 :: t) 62 rfl W h
 replace cp := hi_ cp
 have cp1 := (fun W h => rx_pk1 W h : ∀ W, LX L A c bs D P W (62 :: 62 :: t) → Calls Tryz.prog 82 #[.pointer (some ⟨L, 0, none⟩), .int .i64 1] W fun e w' => e = .returned (.int .i64 62) ∧ Below W.heap.size W w')
 replace cp1 := hi_ cp1
 obtain ⟨q, hq, hq0, hq1⟩ := h.lx.pos_i
 have q1 := h.lx.blk.cell 1
 have v1 := h.lx.blk.frozen 1
 rw [← hq] at q1
 have t0 := h.tk.cell 0
 have g0 := h.tk.frozen 0
 have t3 := h.tk.cell 3
 have g3 := h.tk.frozen 3
 obtain ⟨hL, hS, hT⟩ : Hid (LX L A c bs D P w (62 :: 62 :: t)) ∧ Hid (Save L w0 w) ∧ Hid (Blk w T 99 #[.int .i64 0, AT, .int .i64 0, .slice none 0 0]) := ⟨Lib.hid h.lx, Lib.hid h.sv, Lib.hid h.tk⟩
 replace hq := hi_ hq
 replace h := hi_ h
 replace hR := hi_ hR
 go_enter Tryz.func129, Tryz.ntmps129
 go_wp2_with (first
  | (go_at_call 82; (with_reducible refine (cp.out _ hL.out).mono ?_); rintro e w1 ⟨rfl, hB⟩; replace hL := hi_ (hL.out.below hB); replace hS := hi_ (hS.out.then_ hB); replace q1 := hL.out.blk.cell 1; rw [← hq.out] at q1; replace v1 := hL.out.blk.frozen 1; replace hT := hi_ (hT.out.below hB hT.out.lt); replace t0 := hT.out.cell 0; replace g0 := hT.out.frozen 0; replace t3 := hT.out.cell 3; replace g3 := hT.out.frozen 3; clear hB)
  | (go_at_call 82; (with_reducible refine (cp1.out _ hL.out).mono ?_); rintro e w1 ⟨rfl, hB⟩; replace hL := hi_ (hL.out.below hB); replace hS := hi_ (hS.out.then_ hB); replace q1 := hL.out.blk.cell 1; rw [← hq.out] at q1; replace v1 := hL.out.blk.frozen 1; replace hT := hi_ (hT.out.below hB hT.out.lt); replace t0 := hT.out.cell 0; replace g0 := hT.out.frozen 0; replace t3 := hT.out.cell 3; replace g3 := hT.out.frozen 3; clear hB))
 go_ret
 rw [hR.out]
 have hne := h.out.ne
 have hna := h.out.na
 have hlt := h.out.lt
 have hL2 := (hL.out.far_ (o := 0) (u := .int .i64 8) hne hna).next2 (by simp) hq.out
 exact tok_lit h.out hT.out hS.out hL2
theorem name_bl : ∀ (f : Nat) (out r b u : Bs), nameS f out r = .ok b u → out.length ≤ 127 → b.length ≤ 1000000
 | 0, out, r, b, u, h, _ => by rw [nameS] at h; cases h
 | f + 1, out, [], b, u, h, ho => by rw [nameS] at h; cases h; omega
 | f + 1, out, x :: t, b, u, h, ho => by
  rw [nameS] at h
  repeat' split at h
  all_goals first
   | (cases h; done)
   | (cases h; omega)
   | exact name_bl _ _ _ _ _ h (by simp only [List.length_append, List.length_cons, List.length_nil]; omega)
theorem text_bl : ∀ (f op : Nat) (out r b u : Bs), textS f op out r = .ok b u → out.length ≤ 32767 → b.length ≤ 1000000
 | 0, op, out, r, b, u, h, _ => by rw [textS] at h; cases h
 | f + 1, op, out, [], b, u, h, ho => by rw [textS] at h; cases h
 | f + 1, op, out, x :: t, b, u, h, ho => by
  rw [textS.eq_def] at h
  simp only [] at h
  repeat' split at h
  all_goals first
   | (cases h; done)
   | (cases h; omega)
   | exact text_bl _ _ _ _ _ _ h (by first | assumption | (simp only [List.length_append, List.length_cons, List.length_nil]; omega))
theorem hex_bl : ∀ (f : Nat) (g : Int) (out r b u : Bs), hexR f g out r = .ok b u → out.length ≤ 32767 → b.length ≤ 1000000
 | 0, g, out, r, b, u, h, _ => by rw [hexR] at h; cases h
 | f + 1, g, out, [], b, u, h, ho => by rw [hexR] at h; cases h
 | f + 1, g, out, x :: t, b, u, h, ho => by
  rw [hexR] at h
  repeat' split at h
  all_goals first
   | (cases h; done)
   | (cases h; omega)
   | (cases h; simp only [List.length_append, List.length_cons, List.length_nil]; omega)
   | exact hex_bl _ _ _ _ _ _ h (by first | assumption | (simp only [List.length_append, List.length_cons, List.length_nil]; omega))
set_option maxHeartbeats 8000000 in
set_option maxRecDepth 100000 in
theorem tk_name {t : Bs} (h : TS L T A c bs D P AT w0 w (47 :: t)) : Calls Tryz.prog 129 #[.pointer (some ⟨L, 0, none⟩), .pointer (some ⟨T, 0, none⟩)] w (TokR L T A c bs D P AT w0 (tokA (47 :: t))) := by
 have hRS : tokA (47 :: t) = tokOf 4 (47 :: t) (nameS (t.length + 1) [] t) := by rw [tokA, if_neg (by decide), if_neg (by decide), if_neg (by rintro ⟨h, _⟩; exact absurd h (by decide)), if_neg (by rintro ⟨h, _⟩; exact absurd h (by decide)), if_pos rfl]
 obtain ⟨RS, hR⟩ : ∃ R, R = tokA (47 :: t) := ⟨_, rfl⟩
 rw [← hR]
 rw [hRS] at hR
 clear hRS
 have cn := fun W (h : LX L A c bs D P W t) => rx_name h
 obtain ⟨N, hN⟩ : ∃ N, N = nameS (t.length + 1) [] t := ⟨_, rfl⟩
 have hne9 := fun k u (h : N = .err k u) => name_ne _ _ _ k u (hN.symm.trans h)
 rw [← hN] at cn hR
 replace cn := hi_ cn
 replace hN := hi_ hN
 replace hne9 := hi_ hne9
 have cp := fun W h => rx_peek0 (L := L) (A := A) (c := c) (bs := bs) (D := D) (P := P) (x := 47) (t := t) 47 rfl W h
 replace cp := hi_ cp
 obtain ⟨q, hq, hq0, hq1⟩ := h.lx.pos_i
 have q1 := h.lx.blk.cell 1
 have v1 := h.lx.blk.frozen 1
 rw [← hq] at q1
 have t0 := h.tk.cell 0
 have g0 := h.tk.frozen 0
 have t3 := h.tk.cell 3
 have g3 := h.tk.frozen 3
 obtain ⟨hL, hS, hT⟩ : Hid (LX L A c bs D P w (47 :: t)) ∧ Hid (Save L w0 w) ∧ Hid (Blk w T 99 #[.int .i64 0, AT, .int .i64 0, .slice none 0 0]) := ⟨Lib.hid h.lx, Lib.hid h.sv, Lib.hid h.tk⟩
 replace hq := hi_ hq
 replace h := hi_ h
 replace hR := hi_ hR
 cases N with
 | ok b4 u4 =>
  have hbl : b4.length ≤ 1000000 := name_bl _ _ _ _ _ hN.out.symm (by simp)
  replace hbl := hi_ hbl
  simp only [tokOf] at hR
  go_enter Tryz.func129, Tryz.ntmps129
  go_wp2_with (first
   | (go_at_call 82; (with_reducible refine (cp.out _ hL.out).mono ?_); rintro e w1 ⟨rfl, hB⟩; replace hL := hi_ (hL.out.below hB); replace hS := hi_ (hS.out.then_ hB); replace q1 := hL.out.blk.cell 1; rw [← hq.out] at q1; replace v1 := hL.out.blk.frozen 1; replace hT := hi_ (hT.out.below hB hT.out.lt); replace t0 := hT.out.cell 0; replace g0 := hT.out.frozen 0; replace t3 := hT.out.cell 3; replace g3 := hT.out.frozen 3; clear hB)
   | (go_at_call 140; (with_reducible refine (cn.out _ ((hL.out.next hq.out).far_ h.out.ne h.out.na)).mono ?_); rintro e w4 ⟨v4, rfl, hO4, hL4, hS4⟩; have hT4 := hS4.blk h.out.ne.symm ((hT.out.far (p := ⟨L, 1, none⟩) h.out.ne.symm _).set_ 0 (.int .i64 4)); replace t3 := hT4.cell 3; replace g3 := hT4.frozen 3; obtain ⟨A4, c4, rfl, _, _, _⟩ := hO4.out2 (by unfold maxLen; have := hbl.out; omega); replace hO4 := hi_ hO4; replace hL4 := hi_ hL4; replace hT4 := hi_ hT4; replace hS4 := hi_ hS4))
  go_ret
  rw [hR.out]
  have hsz := hS.out.size
  have hS5 : Save L w0 w4 := ((hS.out.store 1 _).far_ h.out.lt).trans hS4.out
  exact tok_fin h.out hT4.out (hO4.out.base (by simpa [World.setCell] using hsz)) hL4.out hS5
 | err k4 u4 =>
  simp only [tokOf] at hR
  go_enter Tryz.func129, Tryz.ntmps129
  go_wp2_with (first
   | (go_at_call 82; (with_reducible refine (cp.out _ hL.out).mono ?_); rintro e w1 ⟨rfl, hB⟩; replace hL := hi_ (hL.out.below hB); replace hS := hi_ (hS.out.then_ hB); replace q1 := hL.out.blk.cell 1; rw [← hq.out] at q1; replace v1 := hL.out.blk.frozen 1; replace hT := hi_ (hT.out.below hB hT.out.lt); replace t0 := hT.out.cell 0; replace g0 := hT.out.frozen 0; replace t3 := hT.out.cell 3; replace g3 := hT.out.frozen 3; clear hB)
   | (go_at_call 140; (with_reducible refine (cn.out _ ((hL.out.next hq.out).far_ h.out.ne h.out.na)).mono ?_); rintro e w4 ⟨rfl, hq4, hS4⟩; have hT4 := hS4.blk h.out.ne.symm ((hT.out.far (p := ⟨L, 1, none⟩) h.out.ne.symm _).set_ 0 (.int .i64 4)); replace t3 := hT4.cell 3; replace g3 := hT4.frozen 3; replace hq4 := hi_ hq4; replace hT4 := hi_ hT4; replace hS4 := hi_ hS4))
  go_ret
  rw [hR.out]
  have hS5 : Save L w0 w4 := ((hS.out.store 1 _).far_ h.out.lt).trans hS4.out
  exact tok_bad h.out (hne9.out _ _ rfl) hT4.out hq4.out hS5
set_option maxHeartbeats 8000000 in
set_option maxRecDepth 100000 in
theorem tk_text {t : Bs} (h : TS L T A c bs D P AT w0 w (40 :: t)) : Calls Tryz.prog 129 #[.pointer (some ⟨L, 0, none⟩), .pointer (some ⟨T, 0, none⟩)] w (TokR L T A c bs D P AT w0 (tokA (40 :: t))) := by
 have hRS : tokA (40 :: t) = tokOf 3 (40 :: t) (textS (t.length + 1) 1 [] t) := by rw [tokA, if_neg (by decide), if_neg (by decide), if_neg (by rintro ⟨h, _⟩; exact absurd h (by decide)), if_neg (by rintro ⟨h, _⟩; exact absurd h (by decide)), if_neg (by decide), if_pos rfl]
 obtain ⟨RS, hR⟩ : ∃ R, R = tokA (40 :: t) := ⟨_, rfl⟩
 rw [← hR]
 rw [hRS] at hR
 clear hRS
 have cn := fun W (h : LX L A c bs D P W t) => rx_text h
 obtain ⟨N, hN⟩ : ∃ N, N = textS (t.length + 1) 1 [] t := ⟨_, rfl⟩
 have hne9 := fun k u (h : N = .err k u) => text_ne _ _ _ _ k u (hN.symm.trans h)
 rw [← hN] at cn hR
 replace cn := hi_ cn
 replace hN := hi_ hN
 replace hne9 := hi_ hne9
 have cp := fun W h => rx_peek0 (L := L) (A := A) (c := c) (bs := bs) (D := D) (P := P) (x := 40) (t := t) 40 rfl W h
 replace cp := hi_ cp
 obtain ⟨q, hq, hq0, hq1⟩ := h.lx.pos_i
 have q1 := h.lx.blk.cell 1
 have v1 := h.lx.blk.frozen 1
 rw [← hq] at q1
 have t0 := h.tk.cell 0
 have g0 := h.tk.frozen 0
 have t3 := h.tk.cell 3
 have g3 := h.tk.frozen 3
 obtain ⟨hL, hS, hT⟩ : Hid (LX L A c bs D P w (40 :: t)) ∧ Hid (Save L w0 w) ∧ Hid (Blk w T 99 #[.int .i64 0, AT, .int .i64 0, .slice none 0 0]) := ⟨Lib.hid h.lx, Lib.hid h.sv, Lib.hid h.tk⟩
 replace hq := hi_ hq
 replace h := hi_ h
 replace hR := hi_ hR
 cases N with
 | ok b4 u4 =>
  have hbl : b4.length ≤ 1000000 := text_bl _ _ _ _ _ _ hN.out.symm (by simp)
  replace hbl := hi_ hbl
  simp only [tokOf] at hR
  go_enter Tryz.func129, Tryz.ntmps129
  go_wp2_with (first
   | (go_at_call 82; (with_reducible refine (cp.out _ hL.out).mono ?_); rintro e w1 ⟨rfl, hB⟩; replace hL := hi_ (hL.out.below hB); replace hS := hi_ (hS.out.then_ hB); replace q1 := hL.out.blk.cell 1; rw [← hq.out] at q1; replace v1 := hL.out.blk.frozen 1; replace hT := hi_ (hT.out.below hB hT.out.lt); replace t0 := hT.out.cell 0; replace g0 := hT.out.frozen 0; replace t3 := hT.out.cell 3; replace g3 := hT.out.frozen 3; clear hB)
   | (go_at_call 141; (with_reducible refine (cn.out _ ((hL.out.next hq.out).far_ h.out.ne h.out.na)).mono ?_); rintro e w4 ⟨v4, rfl, hO4, hL4, hS4⟩; have hT4 := hS4.blk h.out.ne.symm ((hT.out.far (p := ⟨L, 1, none⟩) h.out.ne.symm _).set_ 0 (.int .i64 3)); replace t3 := hT4.cell 3; replace g3 := hT4.frozen 3; obtain ⟨A4, c4, rfl, _, _, _⟩ := hO4.out2 (by unfold maxLen; have := hbl.out; omega); replace hO4 := hi_ hO4; replace hL4 := hi_ hL4; replace hT4 := hi_ hT4; replace hS4 := hi_ hS4))
  go_ret
  rw [hR.out]
  have hsz := hS.out.size
  have hS5 : Save L w0 w4 := ((hS.out.store 1 _).far_ h.out.lt).trans hS4.out
  exact tok_fin h.out hT4.out (hO4.out.base (by simpa [World.setCell] using hsz)) hL4.out hS5
 | err k4 u4 =>
  simp only [tokOf] at hR
  go_enter Tryz.func129, Tryz.ntmps129
  go_wp2_with (first
   | (go_at_call 82; (with_reducible refine (cp.out _ hL.out).mono ?_); rintro e w1 ⟨rfl, hB⟩; replace hL := hi_ (hL.out.below hB); replace hS := hi_ (hS.out.then_ hB); replace q1 := hL.out.blk.cell 1; rw [← hq.out] at q1; replace v1 := hL.out.blk.frozen 1; replace hT := hi_ (hT.out.below hB hT.out.lt); replace t0 := hT.out.cell 0; replace g0 := hT.out.frozen 0; replace t3 := hT.out.cell 3; replace g3 := hT.out.frozen 3; clear hB)
   | (go_at_call 141; (with_reducible refine (cn.out _ ((hL.out.next hq.out).far_ h.out.ne h.out.na)).mono ?_); rintro e w4 ⟨rfl, hq4, hS4⟩; have hT4 := hS4.blk h.out.ne.symm ((hT.out.far (p := ⟨L, 1, none⟩) h.out.ne.symm _).set_ 0 (.int .i64 3)); replace t3 := hT4.cell 3; replace g3 := hT4.frozen 3; replace hq4 := hi_ hq4; replace hT4 := hi_ hT4; replace hS4 := hi_ hS4))
  go_ret
  rw [hR.out]
  have hS5 : Save L w0 w4 := ((hS.out.store 1 _).far_ h.out.lt).trans hS4.out
  exact tok_bad h.out (hne9.out _ _ rfl) hT4.out hq4.out hS5
theorem pk1_ne {x n : UInt8} {t : Bs} (h : ¬ t[0]? = some n) : (pk (x :: t) 1 == (n.toNat : Int)) = false := by
 rw [beq_eq_false_iff_ne]
 intro e
 unfold pk at e
 rw [List.getElem?_cons_succ] at e
 cases h9 : t[0]? with
 | none => rw [h9] at e; simp only [] at e; omega
 | some b =>
  rw [h9] at e h
  have : b = n := UInt8.toNat_inj.1 (by simp only [] at e; omega)
  exact h (by rw [this])
set_option maxHeartbeats 8000000 in
set_option maxRecDepth 100000 in
theorem tk_hex {t : Bs} (hp : ¬ t[0]? = some 60) (h : TS L T A c bs D P AT w0 w (60 :: t)) : Calls Tryz.prog 129 #[.pointer (some ⟨L, 0, none⟩), .pointer (some ⟨T, 0, none⟩)] w (TokR L T A c bs D P AT w0 (tokA (60 :: t))) := by
 have hRS : tokA (60 :: t) = tokOf 3 (60 :: t) (hexR (t.length + 1) (-1) [] t) := by rw [tokA, if_neg (by decide), if_neg (by decide), if_neg (fun h => hp h.2), if_neg (by rintro ⟨h, _⟩; exact absurd h (by decide)), if_neg (by decide), if_neg (by decide), if_pos rfl]
 obtain ⟨RS, hR⟩ : ∃ R, R = tokA (60 :: t) := ⟨_, rfl⟩
 rw [← hR]
 rw [hRS] at hR
 clear hRS
 have cn := fun W (h : LX L A c bs D P W t) => rx_hex h
 obtain ⟨N, hN⟩ : ∃ N, N = hexR (t.length + 1) (-1) [] t := ⟨_, rfl⟩
 have hne9 := fun k u (h : N = .err k u) => hex_ne _ _ _ _ k u (hN.symm.trans h)
 rw [← hN] at cn hR
 replace cn := hi_ cn
 replace hN := hi_ hN
 replace hne9 := hi_ hne9
 obtain ⟨pb, hpb⟩ : ∃ p, p = pk (60 :: t) 1 := ⟨_, rfl⟩
 have hpn : (pb == 60) = false := by rw [hpb]; exact pk1_ne hp
 have cp1 := fun W (h : LX L A c bs D P W (60 :: t)) => rx_pk1 W h
 rw [← hpb] at cp1
 replace cp1 := hi_ cp1
 replace hpb := hi_ hpb
 clear hp
 have cp := fun W h => rx_peek0 (L := L) (A := A) (c := c) (bs := bs) (D := D) (P := P) (x := 60) (t := t) 60 rfl W h
 replace cp := hi_ cp
 obtain ⟨q, hq, hq0, hq1⟩ := h.lx.pos_i
 have q1 := h.lx.blk.cell 1
 have v1 := h.lx.blk.frozen 1
 rw [← hq] at q1
 have t0 := h.tk.cell 0
 have g0 := h.tk.frozen 0
 have t3 := h.tk.cell 3
 have g3 := h.tk.frozen 3
 obtain ⟨hL, hS, hT⟩ : Hid (LX L A c bs D P w (60 :: t)) ∧ Hid (Save L w0 w) ∧ Hid (Blk w T 99 #[.int .i64 0, AT, .int .i64 0, .slice none 0 0]) := ⟨Lib.hid h.lx, Lib.hid h.sv, Lib.hid h.tk⟩
 replace hq := hi_ hq
 replace h := hi_ h
 replace hR := hi_ hR
 cases N with
 | ok b4 u4 =>
  have hbl : b4.length ≤ 1000000 := hex_bl _ _ _ _ _ _ hN.out.symm (by simp)
  replace hbl := hi_ hbl
  simp only [tokOf] at hR
  go_enter Tryz.func129, Tryz.ntmps129
  go_wp2_with (first
   | (go_at_call 82; (with_reducible refine (cp.out _ hL.out).mono ?_); rintro e w1 ⟨rfl, hB⟩; replace hL := hi_ (hL.out.below hB); replace hS := hi_ (hS.out.then_ hB); replace q1 := hL.out.blk.cell 1; rw [← hq.out] at q1; replace v1 := hL.out.blk.frozen 1; replace hT := hi_ (hT.out.below hB hT.out.lt); replace t0 := hT.out.cell 0; replace g0 := hT.out.frozen 0; replace t3 := hT.out.cell 3; replace g3 := hT.out.frozen 3; clear hB)
   | (go_at_call 82; (with_reducible refine (cp1.out _ hL.out).mono ?_); rintro e w1 ⟨rfl, hB⟩; replace hL := hi_ (hL.out.below hB); replace hS := hi_ (hS.out.then_ hB); replace q1 := hL.out.blk.cell 1; rw [← hq.out] at q1; replace v1 := hL.out.blk.frozen 1; replace hT := hi_ (hT.out.below hB hT.out.lt); replace t0 := hT.out.cell 0; replace g0 := hT.out.frozen 0; replace t3 := hT.out.cell 3; replace g3 := hT.out.frozen 3; clear hB)
   | (go_at_call 142; (with_reducible refine (cn.out _ ((hL.out.next hq.out).far_ h.out.ne h.out.na)).mono ?_); rintro e w4 ⟨v4, rfl, hO4, hL4, hS4⟩; have hT4 := hS4.blk h.out.ne.symm ((hT.out.far (p := ⟨L, 1, none⟩) h.out.ne.symm _).set_ 0 (.int .i64 3)); replace t3 := hT4.cell 3; replace g3 := hT4.frozen 3; obtain ⟨A4, c4, rfl, _, _, _⟩ := hO4.out2 (by unfold maxLen; have := hbl.out; omega); replace hO4 := hi_ hO4; replace hL4 := hi_ hL4; replace hT4 := hi_ hT4; replace hS4 := hi_ hS4))
  go_ret
  rw [hR.out]
  have hsz := hS.out.size
  have hS5 : Save L w0 w4 := ((hS.out.store 1 _).far_ h.out.lt).trans hS4.out
  exact tok_fin h.out hT4.out (hO4.out.base (by simpa [World.setCell] using hsz)) hL4.out hS5
 | err k4 u4 =>
  simp only [tokOf] at hR
  go_enter Tryz.func129, Tryz.ntmps129
  go_wp2_with (first
   | (go_at_call 82; (with_reducible refine (cp.out _ hL.out).mono ?_); rintro e w1 ⟨rfl, hB⟩; replace hL := hi_ (hL.out.below hB); replace hS := hi_ (hS.out.then_ hB); replace q1 := hL.out.blk.cell 1; rw [← hq.out] at q1; replace v1 := hL.out.blk.frozen 1; replace hT := hi_ (hT.out.below hB hT.out.lt); replace t0 := hT.out.cell 0; replace g0 := hT.out.frozen 0; replace t3 := hT.out.cell 3; replace g3 := hT.out.frozen 3; clear hB)
   | (go_at_call 82; (with_reducible refine (cp1.out _ hL.out).mono ?_); rintro e w1 ⟨rfl, hB⟩; replace hL := hi_ (hL.out.below hB); replace hS := hi_ (hS.out.then_ hB); replace q1 := hL.out.blk.cell 1; rw [← hq.out] at q1; replace v1 := hL.out.blk.frozen 1; replace hT := hi_ (hT.out.below hB hT.out.lt); replace t0 := hT.out.cell 0; replace g0 := hT.out.frozen 0; replace t3 := hT.out.cell 3; replace g3 := hT.out.frozen 3; clear hB)
   | (go_at_call 142; (with_reducible refine (cn.out _ ((hL.out.next hq.out).far_ h.out.ne h.out.na)).mono ?_); rintro e w4 ⟨rfl, hq4, hS4⟩; have hT4 := hS4.blk h.out.ne.symm ((hT.out.far (p := ⟨L, 1, none⟩) h.out.ne.symm _).set_ 0 (.int .i64 3)); replace t3 := hT4.cell 3; replace g3 := hT4.frozen 3; replace hq4 := hi_ hq4; replace hT4 := hi_ hT4; replace hS4 := hi_ hS4))
  go_ret
  rw [hR.out]
  have hS5 : Save L w0 w4 := ((hS.out.store 1 _).far_ h.out.lt).trans hS4.out
  exact tok_bad h.out (hne9.out _ _ rfl) hT4.out hq4.out hS5
set_option maxHeartbeats 8000000 in
set_option maxRecDepth 100000 in
theorem tk_gt {t : Bs} (hp : ¬ t[0]? = some 62) (h : TS L T A c bs D P AT w0 w (62 :: t)) : Calls Tryz.prog 129 #[.pointer (some ⟨L, 0, none⟩), .pointer (some ⟨T, 0, none⟩)] w (TokR L T A c bs D P AT w0 (tokA (62 :: t))) := by
 have hRS : tokA (62 :: t) = .err 4 (62 :: t) := by rw [tokA, if_neg (by decide), if_neg (by decide), if_neg (by rintro ⟨h, _⟩; exact absurd h (by decide)), if_neg (fun h => hp h.2), if_neg (by decide), if_neg (by decide), if_neg (by decide), if_neg (by decide), if_neg (by decide)]
 obtain ⟨RS, hR⟩ : ∃ R, R = tokA (62 :: t) := ⟨_, rfl⟩
 rw [← hR]
 rw [hRS] at hR
 clear hRS
 obtain ⟨pb, hpb⟩ : ∃ p, p = pk (62 :: t) 1 := ⟨_, rfl⟩
 have hpn : (pb == 62) = false := by rw [hpb]; exact pk1_ne hp
 have cp1 := fun W (h : LX L A c bs D P W (62 :: t)) => rx_pk1 W h
 rw [← hpb] at cp1
 replace cp1 := hi_ cp1
 replace hpb := hi_ hpb
 clear hp
 have cr : ∀ W, Calls Tryz.prog 36 #[.int .i64 62] W fun e w' => e = .returned (.bool false) ∧ W = w' := fun W => by have := r10_Regular (w := W) 62 (by omega); rw [show rgI 62 = false from rfl] at this; exact this
 replace cr := hi_ cr
 have cp := fun W h => rx_peek0 (L := L) (A := A) (c := c) (bs := bs) (D := D) (P := P) (x := 62) (t := t) 62 rfl W h
 replace cp := hi_ cp
 obtain ⟨q, hq, hq0, hq1⟩ := h.lx.pos_i
 have q1 := h.lx.blk.cell 1
 have v1 := h.lx.blk.frozen 1
 rw [← hq] at q1
 have t0 := h.tk.cell 0
 have g0 := h.tk.frozen 0
 have t3 := h.tk.cell 3
 have g3 := h.tk.frozen 3
 obtain ⟨hL, hS, hT⟩ : Hid (LX L A c bs D P w (62 :: t)) ∧ Hid (Save L w0 w) ∧ Hid (Blk w T 99 #[.int .i64 0, AT, .int .i64 0, .slice none 0 0]) := ⟨Lib.hid h.lx, Lib.hid h.sv, Lib.hid h.tk⟩
 replace hq := hi_ hq
 replace h := hi_ h
 replace hR := hi_ hR
 go_enter Tryz.func129, Tryz.ntmps129
 go_wp2_with (first
  | (go_at_call 82; (with_reducible refine (cp.out _ hL.out).mono ?_); rintro e w1 ⟨rfl, hB⟩; replace hL := hi_ (hL.out.below hB); replace hS := hi_ (hS.out.then_ hB); replace q1 := hL.out.blk.cell 1; rw [← hq.out] at q1; replace v1 := hL.out.blk.frozen 1; replace hT := hi_ (hT.out.below hB hT.out.lt); replace t0 := hT.out.cell 0; replace g0 := hT.out.frozen 0; replace t3 := hT.out.cell 3; replace g3 := hT.out.frozen 3; clear hB)
  | (go_at_call 82; (with_reducible refine (cp1.out _ hL.out).mono ?_); rintro e w1 ⟨rfl, hB⟩; replace hL := hi_ (hL.out.below hB); replace hS := hi_ (hS.out.then_ hB); replace q1 := hL.out.blk.cell 1; rw [← hq.out] at q1; replace v1 := hL.out.blk.frozen 1; replace hT := hi_ (hT.out.below hB hT.out.lt); replace t0 := hT.out.cell 0; replace g0 := hT.out.frozen 0; replace t3 := hT.out.cell 3; replace g3 := hT.out.frozen 3; clear hB)
  | (go_at_call 36; (with_reducible refine (cr.out _).mono ?_); rintro e w2 ⟨rfl, rfl⟩))
 go_ret
 rw [hR.out]
 exact ⟨by decide, rfl, ⟨_, _, _, hT.out⟩, hL.out.at_, hS.out⟩
set_option maxHeartbeats 8000000 in
set_option maxRecDepth 100000 in
theorem tk_n43 {t : Bs} (h : TS L T A c bs D P AT w0 w (43 :: t)) : Calls Tryz.prog 129 #[.pointer (some ⟨L, 0, none⟩), .pointer (some ⟨T, 0, none⟩)] w (TokR L T A c bs D P AT w0 (tokA (43 :: t))) := by
 have hRS : tokA (43 :: t) = numS (43 :: t) := by rw [tokA, if_neg (by decide), if_neg (by decide), if_neg (by rintro ⟨h, _⟩; exact absurd h (by decide)), if_neg (by rintro ⟨h, _⟩; exact absurd h (by decide)), if_neg (by decide), if_neg (by decide), if_neg (by decide), if_pos (by decide)]
 obtain ⟨RS, hR⟩ : ∃ R, R = tokA (43 :: t) := ⟨_, rfl⟩
 rw [← hR]
 rw [hRS] at hR
 clear hRS
 have cn := fun W (h : TS L T A c bs D P AT w0 W (43 :: t)) => rx_number h (by simp)
 obtain ⟨N, hN⟩ : ∃ N, N = numS (43 :: t) := ⟨_, rfl⟩
 rw [← hN] at cn hR
 replace cn := hi_ cn
 clear hN
 have cp := fun W h => rx_peek0 (L := L) (A := A) (c := c) (bs := bs) (D := D) (P := P) (x := 43) (t := t) 43 rfl W h
 replace cp := hi_ cp
 obtain ⟨q, hq, hq0, hq1⟩ := h.lx.pos_i
 have q1 := h.lx.blk.cell 1
 have v1 := h.lx.blk.frozen 1
 rw [← hq] at q1
 have t0 := h.tk.cell 0
 have g0 := h.tk.frozen 0
 have t3 := h.tk.cell 3
 have g3 := h.tk.frozen 3
 obtain ⟨hL, hS, hT⟩ : Hid (LX L A c bs D P w (43 :: t)) ∧ Hid (Save L w0 w) ∧ Hid (Blk w T 99 #[.int .i64 0, AT, .int .i64 0, .slice none 0 0]) := ⟨Lib.hid h.lx, Lib.hid h.sv, Lib.hid h.tk⟩
 replace hq := hi_ hq
 replace h := hi_ h
 replace hR := hi_ hR
 cases N with
 | ok k4 u4 =>
  go_enter Tryz.func129, Tryz.ntmps129
  go_wp2_with (first
   | (go_at_call 82; (with_reducible refine (cp.out _ hL.out).mono ?_); rintro e w1 ⟨rfl, hB⟩; replace hL := hi_ (hL.out.below hB); replace hS := hi_ (hS.out.then_ hB); replace q1 := hL.out.blk.cell 1; rw [← hq.out] at q1; replace v1 := hL.out.blk.frozen 1; replace hT := hi_ (hT.out.below hB hT.out.lt); replace t0 := hT.out.cell 0; replace g0 := hT.out.frozen 0; replace t3 := hT.out.cell 3; replace g3 := hT.out.frozen 3; clear hB)
   | (go_at_call 143; (with_reducible refine (cn.out _ ⟨hL.out, hT.out, hS.out, h.out.ll, h.out.lt, h.out.off⟩).mono ?_); rintro e w4 ⟨rfl, k1, k2, k3⟩; replace k1 := hi_ k1; replace k2 := hi_ k2; replace k3 := hi_ k3))
  go_ret
  rw [hR.out]
  exact ⟨rfl, k1.out, k2.out, k3.out⟩
 | err k4 u4 =>
  go_enter Tryz.func129, Tryz.ntmps129
  go_wp2_with (first
   | (go_at_call 82; (with_reducible refine (cp.out _ hL.out).mono ?_); rintro e w1 ⟨rfl, hB⟩; replace hL := hi_ (hL.out.below hB); replace hS := hi_ (hS.out.then_ hB); replace q1 := hL.out.blk.cell 1; rw [← hq.out] at q1; replace v1 := hL.out.blk.frozen 1; replace hT := hi_ (hT.out.below hB hT.out.lt); replace t0 := hT.out.cell 0; replace g0 := hT.out.frozen 0; replace t3 := hT.out.cell 3; replace g3 := hT.out.frozen 3; clear hB)
   | (go_at_call 143; (with_reducible refine (cn.out _ ⟨hL.out, hT.out, hS.out, h.out.ll, h.out.lt, h.out.off⟩).mono ?_); rintro e w4 ⟨k0, rfl, k1, k2, k3⟩; replace k1 := hi_ k1; replace k2 := hi_ k2; replace k3 := hi_ k3))
  go_ret
  rw [hR.out]
  exact ⟨k0, rfl, k1.out, k2.out, k3.out⟩
set_option maxHeartbeats 8000000 in
set_option maxRecDepth 100000 in
theorem tk_n45 {t : Bs} (h : TS L T A c bs D P AT w0 w (45 :: t)) : Calls Tryz.prog 129 #[.pointer (some ⟨L, 0, none⟩), .pointer (some ⟨T, 0, none⟩)] w (TokR L T A c bs D P AT w0 (tokA (45 :: t))) := by
 have hRS : tokA (45 :: t) = numS (45 :: t) := by rw [tokA, if_neg (by decide), if_neg (by decide), if_neg (by rintro ⟨h, _⟩; exact absurd h (by decide)), if_neg (by rintro ⟨h, _⟩; exact absurd h (by decide)), if_neg (by decide), if_neg (by decide), if_neg (by decide), if_pos (by decide)]
 obtain ⟨RS, hR⟩ : ∃ R, R = tokA (45 :: t) := ⟨_, rfl⟩
 rw [← hR]
 rw [hRS] at hR
 clear hRS
 have cn := fun W (h : TS L T A c bs D P AT w0 W (45 :: t)) => rx_number h (by simp)
 obtain ⟨N, hN⟩ : ∃ N, N = numS (45 :: t) := ⟨_, rfl⟩
 rw [← hN] at cn hR
 replace cn := hi_ cn
 clear hN
 have cp := fun W h => rx_peek0 (L := L) (A := A) (c := c) (bs := bs) (D := D) (P := P) (x := 45) (t := t) 45 rfl W h
 replace cp := hi_ cp
 obtain ⟨q, hq, hq0, hq1⟩ := h.lx.pos_i
 have q1 := h.lx.blk.cell 1
 have v1 := h.lx.blk.frozen 1
 rw [← hq] at q1
 have t0 := h.tk.cell 0
 have g0 := h.tk.frozen 0
 have t3 := h.tk.cell 3
 have g3 := h.tk.frozen 3
 obtain ⟨hL, hS, hT⟩ : Hid (LX L A c bs D P w (45 :: t)) ∧ Hid (Save L w0 w) ∧ Hid (Blk w T 99 #[.int .i64 0, AT, .int .i64 0, .slice none 0 0]) := ⟨Lib.hid h.lx, Lib.hid h.sv, Lib.hid h.tk⟩
 replace hq := hi_ hq
 replace h := hi_ h
 replace hR := hi_ hR
 cases N with
 | ok k4 u4 =>
  go_enter Tryz.func129, Tryz.ntmps129
  go_wp2_with (first
   | (go_at_call 82; (with_reducible refine (cp.out _ hL.out).mono ?_); rintro e w1 ⟨rfl, hB⟩; replace hL := hi_ (hL.out.below hB); replace hS := hi_ (hS.out.then_ hB); replace q1 := hL.out.blk.cell 1; rw [← hq.out] at q1; replace v1 := hL.out.blk.frozen 1; replace hT := hi_ (hT.out.below hB hT.out.lt); replace t0 := hT.out.cell 0; replace g0 := hT.out.frozen 0; replace t3 := hT.out.cell 3; replace g3 := hT.out.frozen 3; clear hB)
   | (go_at_call 143; (with_reducible refine (cn.out _ ⟨hL.out, hT.out, hS.out, h.out.ll, h.out.lt, h.out.off⟩).mono ?_); rintro e w4 ⟨rfl, k1, k2, k3⟩; replace k1 := hi_ k1; replace k2 := hi_ k2; replace k3 := hi_ k3))
  go_ret
  rw [hR.out]
  exact ⟨rfl, k1.out, k2.out, k3.out⟩
 | err k4 u4 =>
  go_enter Tryz.func129, Tryz.ntmps129
  go_wp2_with (first
   | (go_at_call 82; (with_reducible refine (cp.out _ hL.out).mono ?_); rintro e w1 ⟨rfl, hB⟩; replace hL := hi_ (hL.out.below hB); replace hS := hi_ (hS.out.then_ hB); replace q1 := hL.out.blk.cell 1; rw [← hq.out] at q1; replace v1 := hL.out.blk.frozen 1; replace hT := hi_ (hT.out.below hB hT.out.lt); replace t0 := hT.out.cell 0; replace g0 := hT.out.frozen 0; replace t3 := hT.out.cell 3; replace g3 := hT.out.frozen 3; clear hB)
   | (go_at_call 143; (with_reducible refine (cn.out _ ⟨hL.out, hT.out, hS.out, h.out.ll, h.out.lt, h.out.off⟩).mono ?_); rintro e w4 ⟨k0, rfl, k1, k2, k3⟩; replace k1 := hi_ k1; replace k2 := hi_ k2; replace k3 := hi_ k3))
  go_ret
  rw [hR.out]
  exact ⟨k0, rfl, k1.out, k2.out, k3.out⟩
set_option maxHeartbeats 8000000 in
set_option maxRecDepth 100000 in
theorem tk_n46 {t : Bs} (h : TS L T A c bs D P AT w0 w (46 :: t)) : Calls Tryz.prog 129 #[.pointer (some ⟨L, 0, none⟩), .pointer (some ⟨T, 0, none⟩)] w (TokR L T A c bs D P AT w0 (tokA (46 :: t))) := by
 have hRS : tokA (46 :: t) = numS (46 :: t) := by rw [tokA, if_neg (by decide), if_neg (by decide), if_neg (by rintro ⟨h, _⟩; exact absurd h (by decide)), if_neg (by rintro ⟨h, _⟩; exact absurd h (by decide)), if_neg (by decide), if_neg (by decide), if_neg (by decide), if_pos (by decide)]
 obtain ⟨RS, hR⟩ : ∃ R, R = tokA (46 :: t) := ⟨_, rfl⟩
 rw [← hR]
 rw [hRS] at hR
 clear hRS
 have cn := fun W (h : TS L T A c bs D P AT w0 W (46 :: t)) => rx_number h (by simp)
 obtain ⟨N, hN⟩ : ∃ N, N = numS (46 :: t) := ⟨_, rfl⟩
 rw [← hN] at cn hR
 replace cn := hi_ cn
 clear hN
 have cp := fun W h => rx_peek0 (L := L) (A := A) (c := c) (bs := bs) (D := D) (P := P) (x := 46) (t := t) 46 rfl W h
 replace cp := hi_ cp
 obtain ⟨q, hq, hq0, hq1⟩ := h.lx.pos_i
 have q1 := h.lx.blk.cell 1
 have v1 := h.lx.blk.frozen 1
 rw [← hq] at q1
 have t0 := h.tk.cell 0
 have g0 := h.tk.frozen 0
 have t3 := h.tk.cell 3
 have g3 := h.tk.frozen 3
 obtain ⟨hL, hS, hT⟩ : Hid (LX L A c bs D P w (46 :: t)) ∧ Hid (Save L w0 w) ∧ Hid (Blk w T 99 #[.int .i64 0, AT, .int .i64 0, .slice none 0 0]) := ⟨Lib.hid h.lx, Lib.hid h.sv, Lib.hid h.tk⟩
 replace hq := hi_ hq
 replace h := hi_ h
 replace hR := hi_ hR
 cases N with
 | ok k4 u4 =>
  go_enter Tryz.func129, Tryz.ntmps129
  go_wp2_with (first
   | (go_at_call 82; (with_reducible refine (cp.out _ hL.out).mono ?_); rintro e w1 ⟨rfl, hB⟩; replace hL := hi_ (hL.out.below hB); replace hS := hi_ (hS.out.then_ hB); replace q1 := hL.out.blk.cell 1; rw [← hq.out] at q1; replace v1 := hL.out.blk.frozen 1; replace hT := hi_ (hT.out.below hB hT.out.lt); replace t0 := hT.out.cell 0; replace g0 := hT.out.frozen 0; replace t3 := hT.out.cell 3; replace g3 := hT.out.frozen 3; clear hB)
   | (go_at_call 143; (with_reducible refine (cn.out _ ⟨hL.out, hT.out, hS.out, h.out.ll, h.out.lt, h.out.off⟩).mono ?_); rintro e w4 ⟨rfl, k1, k2, k3⟩; replace k1 := hi_ k1; replace k2 := hi_ k2; replace k3 := hi_ k3))
  go_ret
  rw [hR.out]
  exact ⟨rfl, k1.out, k2.out, k3.out⟩
 | err k4 u4 =>
  go_enter Tryz.func129, Tryz.ntmps129
  go_wp2_with (first
   | (go_at_call 82; (with_reducible refine (cp.out _ hL.out).mono ?_); rintro e w1 ⟨rfl, hB⟩; replace hL := hi_ (hL.out.below hB); replace hS := hi_ (hS.out.then_ hB); replace q1 := hL.out.blk.cell 1; rw [← hq.out] at q1; replace v1 := hL.out.blk.frozen 1; replace hT := hi_ (hT.out.below hB hT.out.lt); replace t0 := hT.out.cell 0; replace g0 := hT.out.frozen 0; replace t3 := hT.out.cell 3; replace g3 := hT.out.frozen 3; clear hB)
   | (go_at_call 143; (with_reducible refine (cn.out _ ⟨hL.out, hT.out, hS.out, h.out.ll, h.out.lt, h.out.off⟩).mono ?_); rintro e w4 ⟨k0, rfl, k1, k2, k3⟩; replace k1 := hi_ k1; replace k2 := hi_ k2; replace k3 := hi_ k3))
  go_ret
  rw [hR.out]
  exact ⟨k0, rfl, k1.out, k2.out, k3.out⟩
theorem tokA_dig {x : UInt8} {t : Bs} (hd : isD x = true) : tokA (x :: t) = numS (x :: t) := by
 obtain ⟨e1, e2, e3, e4, e5, e6, e7, e8, e9, e10⟩ := dig_ok hd
 rw [tokA, if_neg e5, if_neg e6, if_neg (fun h => e7 h.1), if_neg (fun h => e8 h.1), if_neg e9, if_neg e10, if_neg e7, if_pos e4]
set_option maxHeartbeats 8000000 in
set_option maxRecDepth 100000 in
theorem tk_dig {x : UInt8} {t : Bs} (hd : isD x = true) (h : TS L T A c bs D P AT w0 w (x :: t)) : Calls Tryz.prog 129 #[.pointer (some ⟨L, 0, none⟩), .pointer (some ⟨T, 0, none⟩)] w (TokR L T A c bs D P AT w0 (tokA (x :: t))) := by
 have hRS : tokA (x :: t) = numS (x :: t) := tokA_dig hd
 obtain ⟨RS, hR⟩ : ∃ R, R = tokA (x :: t) := ⟨_, rfl⟩
 rw [← hR]
 rw [hRS] at hR
 clear hRS
 obtain ⟨X, hX⟩ := hidE (x.toNat : Int)
 have hX0 : 0 ≤ X ∧ X ≤ 255 := by rw [hX.out]; have := x.toNat_lt; omega
 have cp := fun W h => rx_peek0 (L := L) (A := A) (c := c) (bs := bs) (D := D) (P := P) (x := x) (t := t) X hX.out W h
 replace cp := hi_ cp
 obtain ⟨e1, e2, e3, e4, e5, e6, e7, e8, e9, e10⟩ := dig_ok hd
 have x91 : (X == 91) = false := by rw [hX.out, show (((x.toNat : Int) == 91) = (x == 91)) from (u8_eqI x 91).symm]; exact beq_eq_false_iff_ne.2 e5
 have x93 : (X == 93) = false := by rw [hX.out, show (((x.toNat : Int) == 93) = (x == 93)) from (u8_eqI x 93).symm]; exact beq_eq_false_iff_ne.2 e6
 have x60 : (X == 60) = false := by rw [hX.out, show (((x.toNat : Int) == 60) = (x == 60)) from (u8_eqI x 60).symm]; exact beq_eq_false_iff_ne.2 e7
 have x62 : (X == 62) = false := by rw [hX.out, show (((x.toNat : Int) == 62) = (x == 62)) from (u8_eqI x 62).symm]; exact beq_eq_false_iff_ne.2 e8
 have x47 : (X == 47) = false := by rw [hX.out, show (((x.toNat : Int) == 47) = (x == 47)) from (u8_eqI x 47).symm]; exact beq_eq_false_iff_ne.2 e9
 have x40 : (X == 40) = false := by rw [hX.out, show (((x.toNat : Int) == 40) = (x == 40)) from (u8_eqI x 40).symm]; exact beq_eq_false_iff_ne.2 e10
 have hd1 : 48 ≤ X ∧ X ≤ 57 := by
  simp only [isD, Bool.and_eq_true, decide_eq_true_eq] at hd
  rw [hX.out]; omega
 have hd2 : 48 ≤ X := hd1.1
 have hd3 : X ≤ 57 := hd1.2
 clear e1 e2 e3 e4 e5 e6 e7 e8 e9 e10 hd hd1
 have cn := fun W (h : TS L T A c bs D P AT w0 W (x :: t)) => rx_number h (by simp)
 obtain ⟨N, hN⟩ : ∃ N, N = numS (x :: t) := ⟨_, rfl⟩
 rw [← hN] at cn hR
 replace cn := hi_ cn
 clear hN
 obtain ⟨q, hq, hq0, hq1⟩ := h.lx.pos_i
 have q1 := h.lx.blk.cell 1
 have v1 := h.lx.blk.frozen 1
 rw [← hq] at q1
 have t0 := h.tk.cell 0
 have g0 := h.tk.frozen 0
 have t3 := h.tk.cell 3
 have g3 := h.tk.frozen 3
 obtain ⟨hL, hS, hT⟩ : Hid (LX L A c bs D P w (x :: t)) ∧ Hid (Save L w0 w) ∧ Hid (Blk w T 99 #[.int .i64 0, AT, .int .i64 0, .slice none 0 0]) := ⟨Lib.hid h.lx, Lib.hid h.sv, Lib.hid h.tk⟩
 replace hq := hi_ hq
 replace h := hi_ h
 replace hR := hi_ hR
 cases N with
 | ok k4 u4 =>
  go_enter Tryz.func129, Tryz.ntmps129
  go_wp2_with (first
   | (go_at_call 82; (with_reducible refine (cp.out _ hL.out).mono ?_); rintro e w1 ⟨rfl, hB⟩; replace hL := hi_ (hL.out.below hB); replace hS := hi_ (hS.out.then_ hB); replace q1 := hL.out.blk.cell 1; rw [← hq.out] at q1; replace v1 := hL.out.blk.frozen 1; replace hT := hi_ (hT.out.below hB hT.out.lt); replace t0 := hT.out.cell 0; replace g0 := hT.out.frozen 0; replace t3 := hT.out.cell 3; replace g3 := hT.out.frozen 3; clear hB)
   | (go_at_call 143; (with_reducible refine (cn.out _ ⟨hL.out, hT.out, hS.out, h.out.ll, h.out.lt, h.out.off⟩).mono ?_); rintro e w4 ⟨rfl, k1, k2, k3⟩; replace k1 := hi_ k1; replace k2 := hi_ k2; replace k3 := hi_ k3))
  go_ret
  rw [hR.out]
  exact ⟨rfl, k1.out, k2.out, k3.out⟩
 | err k4 u4 =>
  go_enter Tryz.func129, Tryz.ntmps129
  go_wp2_with (first
   | (go_at_call 82; (with_reducible refine (cp.out _ hL.out).mono ?_); rintro e w1 ⟨rfl, hB⟩; replace hL := hi_ (hL.out.below hB); replace hS := hi_ (hS.out.then_ hB); replace q1 := hL.out.blk.cell 1; rw [← hq.out] at q1; replace v1 := hL.out.blk.frozen 1; replace hT := hi_ (hT.out.below hB hT.out.lt); replace t0 := hT.out.cell 0; replace g0 := hT.out.frozen 0; replace t3 := hT.out.cell 3; replace g3 := hT.out.frozen 3; clear hB)
   | (go_at_call 143; (with_reducible refine (cn.out _ ⟨hL.out, hT.out, hS.out, h.out.ll, h.out.lt, h.out.off⟩).mono ?_); rintro e w4 ⟨k0, rfl, k1, k2, k3⟩; replace k1 := hi_ k1; replace k2 := hi_ k2; replace k3 := hi_ k3))
  go_ret
  rw [hR.out]
  exact ⟨k0, rfl, k1.out, k2.out, k3.out⟩
set_option maxHeartbeats 8000000 in
set_option maxRecDepth 100000 in
theorem tk_none {x : UInt8} {t : Bs} (hne : x ≠ 91 ∧ x ≠ 93 ∧ x ≠ 60 ∧ x ≠ 62 ∧ x ≠ 47 ∧ x ≠ 40) (hn : numC x = false) (hr : regB x = false) (h : TS L T A c bs D P AT w0 w (x :: t)) : Calls Tryz.prog 129 #[.pointer (some ⟨L, 0, none⟩), .pointer (some ⟨T, 0, none⟩)] w (TokR L T A c bs D P AT w0 (tokA (x :: t))) := by
 have hRS : tokA (x :: t) = .err 4 (x :: t) := by rw [tokA, if_neg hne.1, if_neg hne.2.1, if_neg (fun h => hne.2.2.1 h.1), if_neg (fun h => hne.2.2.2.1 h.1), if_neg hne.2.2.2.2.1, if_neg hne.2.2.2.2.2, if_neg hne.2.2.1, hn, if_neg (by decide), hr, if_neg (by decide)]
 obtain ⟨RS, hR⟩ : ∃ R, R = tokA (x :: t) := ⟨_, rfl⟩
 rw [← hR]
 rw [hRS] at hR
 clear hRS
 obtain ⟨X, hX⟩ := hidE (x.toNat : Int)
 have hX0 : 0 ≤ X ∧ X ≤ 255 := by rw [hX.out]; have := x.toNat_lt; omega
 have cp := fun W h => rx_peek0 (L := L) (A := A) (c := c) (bs := bs) (D := D) (P := P) (x := x) (t := t) X hX.out W h
 replace cp := hi_ cp
 have x91 : (X == 91) = false := by rw [hX.out, show (((x.toNat : Int) == 91) = (x == 91)) from (u8_eqI x 91).symm]; exact beq_eq_false_iff_ne.2 hne.1
 have x93 : (X == 93) = false := by rw [hX.out, show (((x.toNat : Int) == 93) = (x == 93)) from (u8_eqI x 93).symm]; exact beq_eq_false_iff_ne.2 hne.2.1
 have x60 : (X == 60) = false := by rw [hX.out, show (((x.toNat : Int) == 60) = (x == 60)) from (u8_eqI x 60).symm]; exact beq_eq_false_iff_ne.2 hne.2.2.1
 have x62 : (X == 62) = false := by rw [hX.out, show (((x.toNat : Int) == 62) = (x == 62)) from (u8_eqI x 62).symm]; exact beq_eq_false_iff_ne.2 hne.2.2.2.1
 have x47 : (X == 47) = false := by rw [hX.out, show (((x.toNat : Int) == 47) = (x == 47)) from (u8_eqI x 47).symm]; exact beq_eq_false_iff_ne.2 hne.2.2.2.2.1
 have x40 : (X == 40) = false := by rw [hX.out, show (((x.toNat : Int) == 40) = (x == 40)) from (u8_eqI x 40).symm]; exact beq_eq_false_iff_ne.2 hne.2.2.2.2.2
 have hnc := num_eq hX.out
 rw [hn] at hnc
 replace hnc := hnc.symm
 simp only [Bool.or_eq_false_iff] at hnc
 obtain ⟨⟨⟨x43, x45⟩, x46⟩, hdg⟩ := hnc
 have hdg2 : X < 48 ∨ 57 < X := by
  rcases Int.lt_or_le X 48 with h | h
  ·exact .inl h
  ·rcases Int.lt_or_le 57 X with h' | h'
   ·exact .inr h'
   ·rw [decide_eq_true h, decide_eq_true h'] at hdg; cases hdg
 clear hdg
 have cr : ∀ W, Calls Tryz.prog 36 #[.int .i64 X] W fun e w' => e = .returned (.bool false) ∧ W = w' := fun W => by have := r10_Regular (w := W) X (by omega); rw [show rgI X = false from by rw [hX.out, reg_u8, hr]] at this; exact this
 replace cr := hi_ cr
 clear hne hn hr
 obtain ⟨q, hq, hq0, hq1⟩ := h.lx.pos_i
 have q1 := h.lx.blk.cell 1
 have v1 := h.lx.blk.frozen 1
 rw [← hq] at q1
 have t0 := h.tk.cell 0
 have g0 := h.tk.frozen 0
 have t3 := h.tk.cell 3
 have g3 := h.tk.frozen 3
 obtain ⟨hL, hS, hT⟩ : Hid (LX L A c bs D P w (x :: t)) ∧ Hid (Save L w0 w) ∧ Hid (Blk w T 99 #[.int .i64 0, AT, .int .i64 0, .slice none 0 0]) := ⟨Lib.hid h.lx, Lib.hid h.sv, Lib.hid h.tk⟩
 replace hq := hi_ hq
 replace h := hi_ h
 replace hR := hi_ hR
 rcases hdg2 with hdg2 | hdg2
 ·go_enter Tryz.func129, Tryz.ntmps129
  go_wp2_with (first
   | (go_at_call 82; (with_reducible refine (cp.out _ hL.out).mono ?_); rintro e w1 ⟨rfl, hB⟩; replace hL := hi_ (hL.out.below hB); replace hS := hi_ (hS.out.then_ hB); replace q1 := hL.out.blk.cell 1; rw [← hq.out] at q1; replace v1 := hL.out.blk.frozen 1; replace hT := hi_ (hT.out.below hB hT.out.lt); replace t0 := hT.out.cell 0; replace g0 := hT.out.frozen 0; replace t3 := hT.out.cell 3; replace g3 := hT.out.frozen 3; clear hB)
   | (go_at_call 36; (with_reducible refine (cr.out _).mono ?_); rintro e w2 ⟨rfl, rfl⟩))
  go_ret
  rw [hR.out]
  exact ⟨by decide, rfl, ⟨_, _, _, hT.out⟩, hL.out.at_, hS.out⟩
 ·go_enter Tryz.func129, Tryz.ntmps129
  go_wp2_with (first
   | (go_at_call 82; (with_reducible refine (cp.out _ hL.out).mono ?_); rintro e w1 ⟨rfl, hB⟩; replace hL := hi_ (hL.out.below hB); replace hS := hi_ (hS.out.then_ hB); replace q1 := hL.out.blk.cell 1; rw [← hq.out] at q1; replace v1 := hL.out.blk.frozen 1; replace hT := hi_ (hT.out.below hB hT.out.lt); replace t0 := hT.out.cell 0; replace g0 := hT.out.frozen 0; replace t3 := hT.out.cell 3; replace g3 := hT.out.frozen 3; clear hB)
   | (go_at_call 36; (with_reducible refine (cr.out _).mono ?_); rintro e w2 ⟨rfl, rfl⟩))
  go_ret
  rw [hR.out]
  exact ⟨by decide, rfl, ⟨_, _, _, hT.out⟩, hL.out.at_, hS.out⟩
set_option maxHeartbeats 8000000 in
set_option maxRecDepth 100000 in
theorem tk_word {x : UInt8} {t : Bs} (hne : x ≠ 91 ∧ x ≠ 93 ∧ x ≠ 60 ∧ x ≠ 62 ∧ x ≠ 47 ∧ x ≠ 40) (hn : numC x = false) (hr : regB x = true) (h : TS L T A c bs D P AT w0 w (x :: t)) : Calls Tryz.prog 129 #[.pointer (some ⟨L, 0, none⟩), .pointer (some ⟨T, 0, none⟩)] w (TokR L T A c bs D P AT w0 (tokA (x :: t))) := by
 have hRS : tokA (x :: t) = if 127 < (runS (x :: t)).length then .err 3 (x :: t) else .ok ⟨9, 0, runS (x :: t)⟩ ((x :: t).drop (runS (x :: t)).length) := by rw [tokA, if_neg hne.1, if_neg hne.2.1, if_neg (fun h => hne.2.2.1 h.1), if_neg (fun h => hne.2.2.2.1 h.1), if_neg hne.2.2.2.2.1, if_neg hne.2.2.2.2.2, if_neg hne.2.2.1, hn, if_neg (by decide), hr, if_pos rfl]
 obtain ⟨RS, hR⟩ : ∃ R, R = tokA (x :: t) := ⟨_, rfl⟩
 rw [← hR]
 rw [hRS] at hR
 clear hRS
 obtain ⟨X, hX⟩ := hidE (x.toNat : Int)
 have hX0 : 0 ≤ X ∧ X ≤ 255 := by rw [hX.out]; have := x.toNat_lt; omega
 have cp := fun W h => rx_peek0 (L := L) (A := A) (c := c) (bs := bs) (D := D) (P := P) (x := x) (t := t) X hX.out W h
 replace cp := hi_ cp
 have x91 : (X == 91) = false := by rw [hX.out, show (((x.toNat : Int) == 91) = (x == 91)) from (u8_eqI x 91).symm]; exact beq_eq_false_iff_ne.2 hne.1
 have x93 : (X == 93) = false := by rw [hX.out, show (((x.toNat : Int) == 93) = (x == 93)) from (u8_eqI x 93).symm]; exact beq_eq_false_iff_ne.2 hne.2.1
 have x60 : (X == 60) = false := by rw [hX.out, show (((x.toNat : Int) == 60) = (x == 60)) from (u8_eqI x 60).symm]; exact beq_eq_false_iff_ne.2 hne.2.2.1
 have x62 : (X == 62) = false := by rw [hX.out, show (((x.toNat : Int) == 62) = (x == 62)) from (u8_eqI x 62).symm]; exact beq_eq_false_iff_ne.2 hne.2.2.2.1
 have x47 : (X == 47) = false := by rw [hX.out, show (((x.toNat : Int) == 47) = (x == 47)) from (u8_eqI x 47).symm]; exact beq_eq_false_iff_ne.2 hne.2.2.2.2.1
 have x40 : (X == 40) = false := by rw [hX.out, show (((x.toNat : Int) == 40) = (x == 40)) from (u8_eqI x 40).symm]; exact beq_eq_false_iff_ne.2 hne.2.2.2.2.2
 have hnc := num_eq hX.out
 rw [hn] at hnc
 replace hnc := hnc.symm
 simp only [Bool.or_eq_false_iff] at hnc
 obtain ⟨⟨⟨x43, x45⟩, x46⟩, hdg⟩ := hnc
 have hdg2 : X < 48 ∨ 57 < X := by
  rcases Int.lt_or_le X 48 with h | h
  ·exact .inl h
  ·rcases Int.lt_or_le 57 X with h' | h'
   ·exact .inr h'
   ·rw [decide_eq_true h, decide_eq_true h'] at hdg; cases hdg
 clear hdg
 have cr : ∀ W, Calls Tryz.prog 36 #[.int .i64 X] W fun e w' => e = .returned (.bool true) ∧ W = w' := fun W => by have := r10_Regular (w := W) X (by omega); rw [show rgI X = true from by rw [hX.out, reg_u8, hr]] at this; exact this
 replace cr := hi_ cr
 clear hne hn hr
 have cn := fun W (h : LX L A c bs D P W (x :: t)) => rx_run h (by simp)
 have hrl := run_len (x :: t)
 have hbl := suf_len h.lx.suf
 have hsm := h.lx.small
 obtain ⟨N, hN⟩ : ∃ N, N = runS (x :: t) := ⟨_, rfl⟩
 rw [← hN] at cn hR hrl
 have hNl : N.length ≤ 1000000000 := by omega
 replace hNl := hi_ hNl
 replace cn := hi_ cn
 clear hrl hbl hsm
 replace hN := hi_ hN
 obtain ⟨q, hq, hq0, hq1⟩ := h.lx.pos_i
 have q1 := h.lx.blk.cell 1
 have v1 := h.lx.blk.frozen 1
 rw [← hq] at q1
 have t0 := h.tk.cell 0
 have g0 := h.tk.frozen 0
 have t3 := h.tk.cell 3
 have g3 := h.tk.frozen 3
 obtain ⟨hL, hS, hT⟩ : Hid (LX L A c bs D P w (x :: t)) ∧ Hid (Save L w0 w) ∧ Hid (Blk w T 99 #[.int .i64 0, AT, .int .i64 0, .slice none 0 0]) := ⟨Lib.hid h.lx, Lib.hid h.sv, Lib.hid h.tk⟩
 replace hq := hi_ hq
 replace h := hi_ h
 replace hR := hi_ hR
 by_cases h127 : 127 < N.length
 ·have hll : decide ((127 : Int) < (N.length : Int)) = true := by simp; omega
  rw [if_pos h127] at hR
  replace h127 := hi_ h127
  rcases hdg2 with hdg2 | hdg2
  ·go_enter Tryz.func129, Tryz.ntmps129
   go_wp2_with (first
    | (go_at_call 82; (with_reducible refine (cp.out _ hL.out).mono ?_); rintro e w1 ⟨rfl, hB⟩; replace hL := hi_ (hL.out.below hB); replace hS := hi_ (hS.out.then_ hB); replace q1 := hL.out.blk.cell 1; rw [← hq.out] at q1; replace v1 := hL.out.blk.frozen 1; replace hT := hi_ (hT.out.below hB hT.out.lt); replace t0 := hT.out.cell 0; replace g0 := hT.out.frozen 0; replace t3 := hT.out.cell 3; replace g3 := hT.out.frozen 3; clear hB)
    | (go_at_call 36; (with_reducible refine (cr.out _).mono ?_); rintro e w2 ⟨rfl, rfl⟩)
    | (go_at_call 144; (with_reducible refine (cn.out _ (hL.out.far_ h.out.ne h.out.na)).mono ?_); rintro e w4 ⟨v4, rfl, hO4, hL4, hS4⟩; have hT4 := hS4.blk h.out.ne.symm (hT.out.set_ 0 (.int .i64 9)); replace t3 := hT4.cell 3; replace g3 := hT4.frozen 3; obtain ⟨A4, c4, rfl, _, _, _⟩ := hO4.out2 (by have := hNl.out; unfold maxLen; omega); replace hO4 := hi_ hO4; replace hL4 := hi_ hL4; replace hT4 := hi_ hT4; replace hS4 := hi_ hS4))
   go_ret
   rw [hR.out]
   have hsz := hS.out.size
   have hS5 : Save L w0 w4 := (hS.out.far_ h.out.lt).trans hS4.out
   exact ⟨by decide, rfl, ⟨_, _, _, hT4.out.set_ 3 _⟩, ((hL4.out.far_ h.out.ne h.out.na).at_), hS5.far_ h.out.lt⟩
  ·go_enter Tryz.func129, Tryz.ntmps129
   go_wp2_with (first
    | (go_at_call 82; (with_reducible refine (cp.out _ hL.out).mono ?_); rintro e w1 ⟨rfl, hB⟩; replace hL := hi_ (hL.out.below hB); replace hS := hi_ (hS.out.then_ hB); replace q1 := hL.out.blk.cell 1; rw [← hq.out] at q1; replace v1 := hL.out.blk.frozen 1; replace hT := hi_ (hT.out.below hB hT.out.lt); replace t0 := hT.out.cell 0; replace g0 := hT.out.frozen 0; replace t3 := hT.out.cell 3; replace g3 := hT.out.frozen 3; clear hB)
    | (go_at_call 36; (with_reducible refine (cr.out _).mono ?_); rintro e w2 ⟨rfl, rfl⟩)
    | (go_at_call 144; (with_reducible refine (cn.out _ (hL.out.far_ h.out.ne h.out.na)).mono ?_); rintro e w4 ⟨v4, rfl, hO4, hL4, hS4⟩; have hT4 := hS4.blk h.out.ne.symm (hT.out.set_ 0 (.int .i64 9)); replace t3 := hT4.cell 3; replace g3 := hT4.frozen 3; obtain ⟨A4, c4, rfl, _, _, _⟩ := hO4.out2 (by have := hNl.out; unfold maxLen; omega); replace hO4 := hi_ hO4; replace hL4 := hi_ hL4; replace hT4 := hi_ hT4; replace hS4 := hi_ hS4))
   go_ret
   rw [hR.out]
   have hsz := hS.out.size
   have hS5 : Save L w0 w4 := (hS.out.far_ h.out.lt).trans hS4.out
   exact ⟨by decide, rfl, ⟨_, _, _, hT4.out.set_ 3 _⟩, ((hL4.out.far_ h.out.ne h.out.na).at_), hS5.far_ h.out.lt⟩
 ·have hll : decide ((127 : Int) < (N.length : Int)) = false := by simp; omega
  rw [if_neg h127] at hR
  replace h127 := hi_ h127
  rcases hdg2 with hdg2 | hdg2
  ·go_enter Tryz.func129, Tryz.ntmps129
   go_wp2_with (first
    | (go_at_call 82; (with_reducible refine (cp.out _ hL.out).mono ?_); rintro e w1 ⟨rfl, hB⟩; replace hL := hi_ (hL.out.below hB); replace hS := hi_ (hS.out.then_ hB); replace q1 := hL.out.blk.cell 1; rw [← hq.out] at q1; replace v1 := hL.out.blk.frozen 1; replace hT := hi_ (hT.out.below hB hT.out.lt); replace t0 := hT.out.cell 0; replace g0 := hT.out.frozen 0; replace t3 := hT.out.cell 3; replace g3 := hT.out.frozen 3; clear hB)
    | (go_at_call 36; (with_reducible refine (cr.out _).mono ?_); rintro e w2 ⟨rfl, rfl⟩)
    | (go_at_call 144; (with_reducible refine (cn.out _ (hL.out.far_ h.out.ne h.out.na)).mono ?_); rintro e w4 ⟨v4, rfl, hO4, hL4, hS4⟩; have hT4 := hS4.blk h.out.ne.symm (hT.out.set_ 0 (.int .i64 9)); replace t3 := hT4.cell 3; replace g3 := hT4.frozen 3; obtain ⟨A4, c4, rfl, _, _, _⟩ := hO4.out2 (by have := hNl.out; unfold maxLen; omega); replace hO4 := hi_ hO4; replace hL4 := hi_ hL4; replace hT4 := hi_ hT4; replace hS4 := hi_ hS4))
   go_ret
   rw [hR.out]
   have hsz := hS.out.size
   have hS5 : Save L w0 w4 := (hS.out.far_ h.out.lt).trans hS4.out
   exact tok_fin h.out hT4.out (hO4.out.base (by simpa [World.setCell] using hsz)) hL4.out hS5
  ·go_enter Tryz.func129, Tryz.ntmps129
   go_wp2_with (first
    | (go_at_call 82; (with_reducible refine (cp.out _ hL.out).mono ?_); rintro e w1 ⟨rfl, hB⟩; replace hL := hi_ (hL.out.below hB); replace hS := hi_ (hS.out.then_ hB); replace q1 := hL.out.blk.cell 1; rw [← hq.out] at q1; replace v1 := hL.out.blk.frozen 1; replace hT := hi_ (hT.out.below hB hT.out.lt); replace t0 := hT.out.cell 0; replace g0 := hT.out.frozen 0; replace t3 := hT.out.cell 3; replace g3 := hT.out.frozen 3; clear hB)
    | (go_at_call 36; (with_reducible refine (cr.out _).mono ?_); rintro e w2 ⟨rfl, rfl⟩)
    | (go_at_call 144; (with_reducible refine (cn.out _ (hL.out.far_ h.out.ne h.out.na)).mono ?_); rintro e w4 ⟨v4, rfl, hO4, hL4, hS4⟩; have hT4 := hS4.blk h.out.ne.symm (hT.out.set_ 0 (.int .i64 9)); replace t3 := hT4.cell 3; replace g3 := hT4.frozen 3; obtain ⟨A4, c4, rfl, _, _, _⟩ := hO4.out2 (by have := hNl.out; unfold maxLen; omega); replace hO4 := hi_ hO4; replace hL4 := hi_ hL4; replace hT4 := hi_ hT4; replace hS4 := hi_ hS4))
   go_ret
   rw [hR.out]
   have hsz := hS.out.size
   have hS5 : Save L w0 w4 := (hS.out.far_ h.out.lt).trans hS4.out
   exact tok_fin h.out hT4.out (hO4.out.base (by simpa [World.setCell] using hsz)) hL4.out hS5
theorem rx_token (h : TS L T A c bs D P AT w0 w r) : Calls Tryz.prog 129 #[.pointer (some ⟨L, 0, none⟩), .pointer (some ⟨T, 0, none⟩)] w (TokR L T A c bs D P AT w0 (tokA r)) := by
 cases r with
 | nil => exact tk_nil h
 | cons x t =>
  by_cases h1 : x = 91
  ·subst h1; exact tk_open h
  by_cases h2 : x = 93
  ·subst h2; exact tk_close h
  by_cases h3 : x = 60
  ·subst h3
   by_cases hp : t[0]? = some 60
   ·obtain ⟨u, rfl⟩ : ∃ u, t = 60 :: u := by
     cases t with
     | nil => simp at hp
     | cons y u => simp at hp; exact ⟨u, by rw [hp]⟩
    exact tk_left h
   ·exact tk_hex hp h
  by_cases h4 : x = 62
  ·subst h4
   by_cases hp : t[0]? = some 62
   ·obtain ⟨u, rfl⟩ : ∃ u, t = 62 :: u := by
     cases t with
     | nil => simp at hp
     | cons y u => simp at hp; exact ⟨u, by rw [hp]⟩
    exact tk_right h
   ·exact tk_gt hp h
  by_cases h5 : x = 47
  ·subst h5; exact tk_name h
  by_cases h6 : x = 40
  ·subst h6; exact tk_text h
  cases hn : numC x with
  | true =>
   by_cases k1 : x = 43
   ·subst k1; exact tk_n43 h
   by_cases k2 : x = 45
   ·subst k2; exact tk_n45 h
   by_cases k3 : x = 46
   ·subst k3; exact tk_n46 h
   refine tk_dig ?_ h
   unfold numC at hn
   rw [beq_eq_false_iff_ne.2 k1, beq_eq_false_iff_ne.2 k2, beq_eq_false_iff_ne.2 k3] at hn
   simpa [isD] using hn
  | false =>
   cases hr : regB x with
   | true => exact tk_word ⟨h1, h2, h3, h4, h5, h6⟩ hn hr h
   | false => exact tk_none ⟨h1, h2, h3, h4, h5, h6⟩ hn hr h
end

/- The document's Token. No condition. -/
section
variable {L : Nat} {A : Option Addr} {c : Nat} {bs : Bs} {D P : Value} {w w' : World} {r r' : Bs}
def TokE (L : Nat) (A : Option Addr) (c : Nat) (bs : Bs) (D P : Value) (w : World) (r : Bs) (e : Ending) (w' : World) : Prop := match tokS r with
 | .ok k u => ∃ v, e = .returned (.tuple #[.agg #[.int .i64 k.k, .int .i64 (pos bs (blankM false r) : Nat), .int .i64 k.n, v], .int .i64 0]) ∧ Own w.heap.size w' v k.b ∧ LX L A c bs D P w' u ∧ Save L w w'
 | .err n _ => n ≠ 0 ∧ e = .returned (.tuple #[.agg #[.int .i64 0, .int .i64 (pos bs (blankM false r) : Nat), .int .i64 0, .slice none 0 0], .int .i64 n]) ∧ LX L A c bs D P w' (blankM false r) ∧ Save L w w'
theorem blank_suf : ∀ (b : Bool) (r : Bs), blankM b r <:+ r
 | true, [] => List.suffix_refl _
 | false, [] => List.suffix_refl _
 | true, c :: r => by
  rw [blankM]
  split
  ·exact (blank_suf false r).trans (List.suffix_cons c r)
  ·exact (blank_suf true r).trans (List.suffix_cons c r)
 | false, c :: r => by
  rw [blankM]
  split
  ·exact (blank_suf false r).trans (List.suffix_cons c r)
  ·split
   ·exact (blank_suf true r).trans (List.suffix_cons c r)
   ·exact List.suffix_refl _
theorem Own.len {B : Nat} {w : World} {v : Value} {b : List UInt8} (h : Own B w v b) : b.length ≤ maxLen := by
 rcases h.row.2 with ⟨_, h0⟩ | ⟨g, cap, cur, _, _, _, hnc, hcm, _⟩
 ·rw [h0]; unfold maxLen; omega
 ·exact Nat.le_trans hnc hcm
theorem set4 {w : World} {R : Nat} {t : TypeId} {z0 z1 z2 z3 u0 u1 u2 u3 : Value} (hR : Blk w R t #[z0, z1, z2, z3]) {Wf : World}
 (hWf : Wf = (((w.setCell ⟨R, 0, none⟩ u0).setCell ⟨R, 1, none⟩ u1).setCell ⟨R, 2, none⟩ u2).setCell ⟨R, 3, none⟩ u3) :
 Blk Wf R t #[u0, u1, u2, u3] ∧ w.grownBy Wf (some R) ∧ Wf.heap.size = w.heap.size := by
 have hg : w.grownBy Wf (some R) := by
  rw [hWf]
  exact (((set_grown _ _ _ _).trans (set_grown _ _ _ _)).trans (set_grown _ _ _ _)).trans (set_grown _ _ _ _)
 refine ⟨?_, hg, by rw [hWf]; simp [World.setCell]⟩
 rw [hWf]; exact (((hR.set_ 0 u0).set_ 1 u1).set_ 2 u2).set_ 3 u3
theorem LX.grown_ {R : Nat} {W' : World} (h : LX L A c bs D P w r) (hg : w.grownBy W' (some R)) (hR : L ≠ R) (hA : 0 < bs.length → ∀ x, A = some x → x.block ≠ R) : LX L A c bs D P W' r := by
 refine ⟨h.blk.grown hg (by intro e; injection e with e; exact hR e), ⟨h.byt.1, fun h0 => ?_⟩, h.ne, h.suf, h.cap, h.small⟩
 obtain ⟨g, o', e, hc⟩ := h.byt.2 h0
 refine ⟨g, o', e, fun i hi => ?_⟩
 have hlt := cell_lt (hc i hi)
 rw [World.cell?_of_block (w := w) (hg.block g hlt (by intro e2; injection e2 with e2; exact hA h0 _ e e2))]
 exact hc i hi
theorem Save.grown_ {R : Nat} {a b b' : World} (h : Save L a b) (hg : b.grownBy b' (some R)) (hR : a.heap.size ≤ R) : Save L a b' :=
 ⟨hg.os.trans h.os, hg.tape.trans h.tape, hg.output.trans h.output, Nat.le_trans h.size hg.size, fun k hk hn => (hg.block k (Nat.lt_of_lt_of_le hk h.size) (by intro e; injection e with e; omega)).trans (h.block k hk hn)⟩
set_option maxHeartbeats 8000000 in
set_option maxRecDepth 100000 in
theorem rx_Token (h : LX L A c bs D P w r) : Calls Tryz.prog 110 #[.pointer (some ⟨L, 0, none⟩)] w (TokE L A c bs D P w r) := by
 have hLw := h.lt
 have hAw := h.a_lt
 obtain ⟨W1, hW1⟩ : ∃ W, W = w.alloc (.cells #[.int .i64 0, .int .i64 0, .int .i64 0, .slice none 0 0] 99) := ⟨_, rfl⟩
 have b1 : Below w.heap.size w W1 := by rw [hW1]; exact (Below.refl _ _).alloc (Nat.le_refl _) _
 have hR1 : Blk W1 w.heap.size 99 #[.int .i64 0, .int .i64 0, .int .i64 0, .slice none 0 0] := by rw [hW1]; exact Blk.new w _ _
 have z1 : W1.heap.size = w.heap.size + 1 := by rw [hW1]; exact World.size_alloc _ _
 have cb := rx_Blank (h.below b1)
 obtain ⟨B, hB⟩ : ∃ B, B = blankM false r := ⟨_, rfl⟩
 unfold TokE tokS
 rw [← hB] at cb ⊢
 obtain ⟨q, hq⟩ : ∃ q, q = pos bs B := ⟨_, rfl⟩
 obtain ⟨N, hN⟩ : ∃ N, N = tokA B := ⟨_, rfl⟩
 rw [← hq, ← hN]
 replace cb := hi_ cb
 replace hR1 := hi_ hR1
 replace b1 := hi_ b1
 replace hAw := hi_ hAw
 replace hB := hi_ hB
 replace z1 := hi_ z1
 go_enter Tryz.func110, Tryz.ntmps110
 go_upto_region 2 with (go_at_call 80; rw [← hW1]; (with_reducible refine (cb.out).mono ?_); rintro e w2 ⟨rfl, hL2, hS2⟩; replace hL2 := hi_ hL2; replace hS2 := hi_ hS2)
 have hL2' := hL2.out
 have hS2' := hS2.out
 have hR2 := hS2'.blk (by omega) hR1.out
 have q1 := hL2'.blk.cell 1
 rw [← hq] at q1
 have hR2lt := hR2.lt
 obtain ⟨W3, hW3⟩ : ∃ W, W = w2.alloc (.cells #[.int .i64 0, .int .i64 (q : Nat), .int .i64 0, .slice none 0 0] 99) := ⟨_, rfl⟩
 have b3 : Below w2.heap.size w2 W3 := by rw [hW3]; exact (Below.refl _ _).alloc (Nat.le_refl _) _
 have hT3 : Blk W3 w2.heap.size 99 #[.int .i64 0, .int .i64 (q : Nat), .int .i64 0, .slice none 0 0] := by rw [hW3]; exact Blk.new w2 _ _
 have hts : TS L w2.heap.size A c bs D P (.int .i64 (q : Nat)) w2 W3 B := ⟨hL2'.below b3, hT3, Save.of_below b3, by have := hS2'.size; have := z1.out; omega, Nat.le_refl _, fun h0 x hx => by have := hAw.out h0 x hx; have := hS2'.size; have := z1.out; omega⟩
 have hne := hts.ne
 have hna := hts.na
 have hww : w.heap.size ≤ w2.heap.size := by have := hS2'.size; have := z1.out; omega
 have hSw : Save L w w2 := (Save.of_below b1.out).trans hS2'
 have ct := rx_token hts
 rw [← hN] at ct
 have hLR : L ≠ w.heap.size := by omega
 have hAR : 0 < bs.length → ∀ x, A = some x → x.block ≠ w.heap.size := fun h0 x hx => by have := hAw.out h0 x hx; omega
 replace hLR := hi_ hLR
 replace hAR := hi_ hAR
 replace ct := hi_ ct
 replace hN := hi_ hN
 replace hts := hi_ hts
 replace hne := hi_ hne
 replace hna := hi_ hna
 replace hSw := hi_ hSw
 replace hR2 := hi_ hR2
 replace hT3 := hi_ hT3
 replace b3 := hi_ b3
 replace hq := hi_ hq
 replace hL2' := hi_ hL2'
 clear hS2' h
 go_upto_region 3 with (fail)
 rw [← hW3]
 replace hW3 := hi_ hW3
 cases N with
 | ok k u =>
  go_upto_region 7 with (go_at_call 129; (with_reducible refine (ct.out).mono ?_); rintro e w4 ⟨rfl, ⟨v4, hT4, hO4⟩, hL4, hS4⟩; have hR4 := hS4.blk hLR.out.symm hR2.out; obtain ⟨A4, c4, rfl, _, _, _⟩ := hO4.out2 hO4.len; replace hO4 := hi_ hO4; replace hL4 := hi_ hL4; have t0 := hT4.cell 0; have t1 := hT4.cell 1; have t2 := hT4.cell 2; have t3 := hT4.cell 3; have p0 := hR4.cell 0; have p1 := hR4.cell 1; have p2 := hR4.cell 2; have p3 := hR4.cell 3; have f0 := hR4.frozen 0; have f1 := hR4.frozen 1; have f2 := hR4.frozen 2; have f3 := hR4.frozen 3; have hOR := hO4.out.not_ hR4 (by decide); replace hT4 := hi_ hT4; replace hR4 := hi_ hR4; replace hS4 := hi_ hS4; replace hOR := hi_ hOR)
  go_wp2
  obtain ⟨Wf, hWf⟩ : ∃ W, W = (((w4.setCell ⟨w.heap.size, 0, none⟩ (.int .i64 k.k)).setCell ⟨w.heap.size, 1, none⟩ (.int .i64 (q : Nat))).setCell ⟨w.heap.size, 2, none⟩ (.int .i64 k.n)).setCell ⟨w.heap.size, 3, none⟩ (.slice A4 k.b.length c4) := ⟨_, rfl⟩
  rw [← hWf]
  obtain ⟨hbf, hgf, hzf⟩ := set4 hR4.out hWf
  have u0 := hbf.cell 0
  have u1 := hbf.cell 1
  have u2 := hbf.cell 2
  have u3 := hbf.cell 3
  have hOf := own_grown (hO4.out.base hww) hgf (fun g hg e => hOR.out (by rw [hg]; exact e))
  have hLf := hL4.out.grown_ hgf hLR.out hAR.out
  have hSf := (hSw.out.trans hS4.out).grown_ hgf (Nat.le_refl _)
  replace hOf := hi_ hOf
  replace hLf := hi_ hLf
  replace hSf := hi_ hSf
  replace hWf := hi_ hWf
  clear hbf hgf
  exact bodyPost_ret (by simp [results, Tryz.results110, go_sem, u0, u1, u2, u3]; try rfl) rfl ⟨_, rfl, hOf.out, hLf.out, hSf.out⟩
 | err n u =>
  go_upto_region 4 with (go_at_call 129; (with_reducible refine (ct.out).mono ?_); rintro e w4 ⟨hn0, rfl, ⟨a4, b4, v4, hT4⟩, ⟨q4, hL4⟩, hS4⟩; have hR4 := hS4.blk hLR.out.symm hR2.out; have t1 := hT4.cell 1; have v1 := hL4.frozen 1; have l1 := hL4.cell 1; have p0 := hR4.cell 0; have p1 := hR4.cell 1; have p2 := hR4.cell 2; have p3 := hR4.cell 3; have f0 := hR4.frozen 0; have f1 := hR4.frozen 1; have f2 := hR4.frozen 2; have f3 := hR4.frozen 3; replace hT4 := hi_ hT4; replace hR4 := hi_ hR4; replace hS4 := hi_ hS4; replace hL4 := hi_ hL4)
  have hnb : (n != 0) = true := by simpa using hn0
  replace hn0 := hi_ hn0
  have hRL : w.heap.size ≠ L := hLR.out.symm
  have hTL : w2.heap.size ≠ L := hne.out.symm
  go_wp2
  obtain ⟨W5, hW5⟩ : ∃ W, W = w4.setCell ⟨L, 1, none⟩ (.int .i64 (q : Nat)) := ⟨_, rfl⟩
  rw [← hW5]
  have hR5 : Blk W5 w.heap.size 99 #[.int .i64 0, .int .i64 0, .int .i64 0, .slice none 0 0] := by rw [hW5]; exact hR4.out.far (p := ⟨L, 1, none⟩) hRL _
  have hS5 : Save L w2 W5 := by rw [hW5]; exact hS4.out.store 1 _
  have hB5 : Blk W5 L 73 #[.slice A bs.length c, .int .i64 (pos bs B : Nat), D, P] := by rw [hW5, ← hq.out]; exact hL4.out.set_ 1 _
  have hL5 := hL2'.out.to hS5 hB5 hL2'.out.suf
  obtain ⟨Wf, hWf⟩ : ∃ W, W = (((W5.setCell ⟨w.heap.size, 0, none⟩ (.int .i64 0)).setCell ⟨w.heap.size, 1, none⟩ (.int .i64 (q : Nat))).setCell ⟨w.heap.size, 2, none⟩ (.int .i64 0)).setCell ⟨w.heap.size, 3, none⟩ (.slice none 0 0) := ⟨_, rfl⟩
  rw [← hWf]
  obtain ⟨hbf, hgf, hzf⟩ := set4 hR5 hWf
  have u0 := hbf.cell 0
  have u1 := hbf.cell 1
  have u2 := hbf.cell 2
  have u3 := hbf.cell 3
  have hLf := hL5.grown_ hgf hLR.out hAR.out
  have hSf := (hSw.out.trans hS5).grown_ hgf (Nat.le_refl _)
  replace hLf := hi_ hLf
  replace hSf := hi_ hSf
  replace hWf := hi_ hWf
  clear hbf hgf
  exact bodyPost_ret (by simp [results, Tryz.results110, go_sem, u0, u1, u2, u3]; try rfl) rfl ⟨hn0.out, rfl, hLf.out, hSf.out⟩
end
end Go.Proofs.YthacnnmlephkhaaGreatDoor

/- An entry put in at its place, plain, and in memory. No condition. -/
namespace Go.Proofs.YthacnnmlephkhaaGreatDoor
open Go Go.RowKit Go.Wk
def placeE (K : List UInt8) (d : List (List UInt8 × Ob)) : Nat := (d.takeWhile fun e => ltB e.1 K).length
def insE (K : List UInt8) (X : Ob) (d : List (List UInt8 × Ob)) : List (List UInt8 × Ob) := d.take (placeE K d) ++ [(K, X)] ++ d.drop (placeE K d)
theorem place_le (K : List UInt8) (d : List (List UInt8 × Ob)) : placeE K d ≤ d.length := by
 unfold placeE
 induction d with
 | nil => simp
 | cons e r ih => simp only [List.takeWhile_cons]; split <;> simp <;> omega
theorem place_lt (K : List UInt8) : ∀ (d : List (List UInt8 × Ob)) (i : Nat) (h : i < d.length), i < placeE K d → ltB d[i].1 K = true
 | [], i, h, _ => by simp at h
 | e :: r, i, h, hi => by
  unfold placeE at hi
  simp only [List.takeWhile_cons] at hi
  split at hi
  ·rename_i hb
   cases i with
   | zero => exact hb
   | succ i => exact place_lt K r i (by simpa using h) (by unfold placeE; simpa using hi)
  ·simp at hi
theorem place_ge (K : List UInt8) : ∀ (d : List (List UInt8 × Ob)) (h : placeE K d < d.length), ltB d[placeE K d].1 K = false
 | [], h => by simp at h
 | e :: r, h => by
  by_cases hb : ltB e.1 K = true
  ·have hp : placeE K (e :: r) = placeE K r + 1 := by unfold placeE; simp [List.takeWhile_cons, hb]
   have h2 : placeE K r < r.length := by rw [hp] at h; simpa using h
   have := place_ge K r h2
   simp only [hp, List.getElem_cons_succ]
   exact this
  ·have hp : placeE K (e :: r) = 0 := by unfold placeE; simp [List.takeWhile_cons, hb]
   simp only [hp, List.getElem_cons_zero]
   simpa using hb
theorem insE_len (K : List UInt8) (X : Ob) (d : List (List UInt8 × Ob)) : (insE K X d).length = d.length + 1 := by
 have := place_le K d
 unfold insE; simp; omega
theorem insE_at (K : List UInt8) (X : Ob) (d : List (List UInt8 × Ob)) (i : Nat) (hi : i < (insE K X d).length) :
 (∃ h : i < d.length, i < placeE K d ∧ (insE K X d)[i] = d[i]) ∨ (i = placeE K d ∧ (insE K X d)[i] = (K, X)) ∨ (∃ h : i - 1 < d.length, placeE K d < i ∧ (insE K X d)[i] = d[i - 1]) := by
 have hp := place_le K d
 have hl := insE_len K X d
 rcases Nat.lt_trichotomy i (placeE K d) with h | h | h
 ·refine .inl ⟨by omega, h, ?_⟩
  have : (insE K X d)[i]? = d[i]? := by
   unfold insE
   rw [List.append_assoc, List.getElem?_append_left (by simp; omega), List.getElem?_take, if_pos h]
  rw [List.getElem?_eq_getElem hi, List.getElem?_eq_getElem (by omega)] at this
  injection this
 ·refine .inr (.inl ⟨h, ?_⟩)
  have : (insE K X d)[i]? = some (K, X) := by
   unfold insE
   rw [List.append_assoc, List.getElem?_append_right (by simp; omega)]
   simp [h, Nat.min_eq_left hp]
  rw [List.getElem?_eq_getElem hi] at this
  injection this
 ·refine .inr (.inr ⟨by omega, h, ?_⟩)
  have : (insE K X d)[i]? = d[i - 1]? := by
   unfold insE
   rw [List.append_assoc, List.getElem?_append_right (by simp; omega)]
   simp only [List.length_take, Nat.min_eq_left hp]
   rw [List.getElem?_append_right (by simp; omega)]
   simp only [List.length_cons, List.length_nil, List.getElem?_drop]
   congr 1
   omega
  rw [List.getElem?_eq_getElem hi, List.getElem?_eq_getElem (by omega)] at this
  injection this
def vlE (p : Nat) (vl : Nat → List Value) (x : List Value) (i : Nat) : List Value := if i < p then vl i else if i = p then x else vl (i - 1)
theorem vlE_flat (p n : Nat) (hp : p ≤ n) (vl : Nat → List Value) (x : List Value) : ((List.range p).map vl).flatten ++ x ++ ((List.range (n - p)).map fun i => vl (p + i)).flatten = ((List.range (n + 1)).map (vlE p vl x)).flatten := by
 have e : n + 1 = p + (1 + (n - p)) := by omega
 rw [e, List.range_add, List.range_add, List.map_append, List.flatten_append, List.map_map, List.map_append, List.flatten_append, List.append_assoc]
 congr 1
 ·congr 1
  refine List.map_congr_left fun i hi => ?_
  unfold vlE
  rw [if_pos (List.mem_range.1 hi)]
 ·congr 1
  ·simp [vlE]
  ·rw [List.map_map]
   congr 1
   refine List.map_congr_left fun i hi => ?_
   simp only [Function.comp, vlE]
   rw [if_neg (by omega), if_neg (by omega)]
   congr 1
   omega
def keyAt (d : List (List UInt8 × Ob)) (i : Nat) : List UInt8 := match d[i]? with
 | some e => e.1
 | none => []
theorem keyAt_eq {d : List (List UInt8 × Ob)} {i : Nat} (h : i < d.length) : keyAt d i = d[i].1 := by unfold keyAt; rw [List.getElem?_eq_getElem h]
theorem ob_put {w : World} {k n : Int} {b : List UInt8} {l : List Ob} {d : List (List UInt8 × Ob)} {vB vL vD v : Value} {B : Nat} {K : List UInt8} {X : Ob} {xs : List Value} {vd : Nat → List Value} (h : ObAt w (.mk k n b l d) [.int .i64 k, .int .i64 n, vB, vL, vD])
 (hvd : ∀ i (hi : i < d.length), ObAt w d[i].2 (vd i)) (hkl : ∀ i (hi : i < d.length), d[i].1.length ≤ maxLen) (hKl : K.length ≤ maxLen) (hX : ObAt w X xs)
 (hv : w.ownsRow B 53 6 v (d.length + 1) (((List.range (placeE K d)).map fun i => strV (keyAt d i) :: vd i).flatten ++ (strV K :: xs) ++ ((List.range (d.length - placeE K d)).map fun i => strV (keyAt d (placeE K d + i)) :: vd (placeE K d + i)).flatten)) :
 ObAt w (.mk k n b l (insE K X d)) [.int .i64 k, .int .i64 n, vB, vL, v] := by
 have hp := place_le K d
 rw [vlE_flat _ _ hp (fun i => strV (keyAt d i) :: vd i)] at hv
 have h6 : ∀ i, i < d.length + 1 → (vlE (placeE K d) (fun i => strV (keyAt d i) :: vd i) (strV K :: xs) i).length = 6 := fun i hi => by
  unfold vlE
  split
  ·simp [(hvd i (by omega)).five]
  ·split
   ·simp [hX.five]
   ·simp [(hvd (i - 1) (by omega)).five]
 have hcap : ∀ A c, v = .slice A (d.length + 1) c → d.length + 1 ≤ c ∧ d.length + 1 ≤ maxLen := fun A c e => by
  rcases hv.2 with ⟨e2, hn⟩ | ⟨g, cap, cur, e2, hB, hh, hnc, hcm, _⟩
  ·omega
  ·rw [e] at e2; injection e2 with _ _ e3; subst e3; omega
 obtain ⟨A, g, c, rfl, q1, q2⟩ := own_six hv h6
 obtain ⟨hc1, hc2⟩ := hcap A c rfl
 have hen : ∀ i (hi : i < (insE K X d).length), ∃ us, vlE (placeE K d) (fun i => strV (keyAt d i) :: vd i) (strV K :: xs) i = strV (insE K X d)[i].1 :: us ∧ (insE K X d)[i].1.length ≤ maxLen ∧ ObAt w (insE K X d)[i].2 us := fun i hi => by
  rcases insE_at K X d i hi with ⟨h1, h2, h3⟩ | ⟨h1, h2⟩ | ⟨h1, h2, h3⟩
  ·rw [h3]
   refine ⟨vd i, ?_, hkl i h1, hvd i h1⟩
   unfold vlE
   rw [if_pos h2]
   show strV (keyAt d i) :: vd i = _
   rw [keyAt_eq h1]
  ·rw [h2]
   refine ⟨xs, ?_, hKl, hX⟩
   unfold vlE
   rw [if_neg (by omega), if_pos h1]
  ·rw [h3]
   refine ⟨vd (i - 1), ?_, hkl _ h1, hvd _ h1⟩
   unfold vlE
   rw [if_neg (by omega), if_neg (by omega)]
   show strV (keyAt d (i - 1)) :: vd (i - 1) = _
   rw [keyAt_eq h1]
 cases h with
 | mk _ _ _ _ _ A0 AL AD c0 cL cD gL oL gD oD vl vd0 h1 h2 h3 h4 h5 h6 h7 h8 h9 h10 h11 hAL hl hlv hAD hdo hdk hdv =>
 have hlen := insE_len K X d
 rw [← hlen] at q1 q2 hc1 hc2 ⊢
 refine ObAt.mk k n b l (insE K X d) A0 AL A c0 cL c gL oL g 0 vl (fun i => (vlE (placeE K d) (fun i => strV (keyAt d i) :: vd i) (strV K :: xs) i).drop 1) h1 h2 h3 h4 h5 h6 h7 h8 h9 hc1 hc2 hAL hl hlv q1 (fun i hi => ?_) (fun i hi => ?_) (fun i hi j hj => ?_)
 ·obtain ⟨us, e1, e2, e3⟩ := hen i hi
  show ObAt w _ ((vlE _ _ _ i).drop 1)
  rw [e1]; exact e3
 ·obtain ⟨us, e1, e2, e3⟩ := hen i hi
  have := q2 i hi 0 (by omega)
  rw [e1] at this
  exact ⟨e2, by simpa using this⟩
 ·have := q2 i hi (1 + j) (by omega)
  show _ = ((vlE _ _ _ i).drop 1)[j]?
  rw [List.getElem?_drop, ← this]
  congr 2
  omega
theorem ObI.ents {lo hi : Nat} {w : World} {k n : Int} {b : List UInt8} {l : List Ob} {d : List (List UInt8 × Ob)} {vs : List Value} (h : ObI lo hi w (.mk k n b l d) vs) : ∃ (A AL AD : Option Addr) (c cL cD gD oD : Nat) (vd : Nat → List Value),
 vs = [.int .i64 k, .int .i64 n, .slice A b.length c, .slice AL l.length cL, .slice AD d.length cD] ∧ d.length ≤ cD ∧ (0 < d.length → AD = some ⟨gD, oD, none⟩) ∧ (∀ i (h : i < d.length), ObI lo hi w d[i].2 (vd i)) ∧
 (∀ i, (h : i < d.length) → d[i].1.length ≤ maxLen ∧ w.cell? ⟨gD, oD + 6 * i, none⟩ = some (strV d[i].1)) ∧ (∀ i, i < d.length → ∀ j, j < 5 → w.cell? ⟨gD, oD + (6 * i + 1 + j), none⟩ = (vd i)[j]?) := by
 have h0 := h.ob
 have hs := h.1
 obtain ⟨vs', hvs⟩ : ∃ x, x = vs := ⟨_, rfl⟩
 rw [← hvs] at h0 ⊢
 cases h0 with
 | mk _ _ _ _ _ A AL AD c cL cD gL oL gD oD vl vd h1 h2 h3 h4 h5 h6 h7 h8 h9 h10 h11 hAL hl hlv hAD hdo hdk hdv =>
 refine ⟨A, AL, AD, c, cL, cD, gD, oD, vd, rfl, h10, hAD, fun i hi' => ⟨hs, fun w' hb hz => ?_⟩, hdk, hdv⟩
 have hA := hAD (by omega)
 -- the row lies in between
 have hin : lo ≤ gD ∧ gD < hi := by
  by_cases hq : lo ≤ gD ∧ gD < hi
  ·exact hq
  ·exfalso
   obtain ⟨w2, hw2⟩ : ∃ w2 : World, w2 = { w with heap := w.heap.setIfInBounds gD (.cells #[] 0) } := ⟨_, rfl⟩
   have hz2 : w2.heap.size = w.heap.size := by rw [hw2]; simp
   have h9 := h.2 w2 (fun b hb1 hb2 => by
    rw [hw2]
    show (w.heap.setIfInBounds gD _)[b]? = _
    rw [Array.getElem?_setIfInBounds_ne (by omega)]) (by omega)
   obtain ⟨vs2, hvs2⟩ : ∃ x, x = vs := ⟨_, rfl⟩
   rw [← hvs2] at h9
   rw [← hvs2] at hvs
   cases h9 with
   | mk _ _ _ _ _ A' AL' AD' c' cL' cD' gL' oL' gD' oD' vl' vd' j1 j2 j3 j4 j5 j6 j7 j8 j9 j10 j11 jAL jl jlv jAD jdo jdk jdv =>
   simp only [List.cons.injEq, Value.slice.injEq, and_true, true_and] at hvs
   have e := hvs.2.2.1
   rw [jAD (by omega), hA] at e
   injection e with e
   injection e with e1 e2
   have hk := (jdk 0 (by omega)).2
   have hlt : gD < w.heap.size := cell_lt (hdk 0 (by omega)).2
   have : w2.cell? ⟨gD', oD' + 6 * 0, none⟩ = none := by
    rw [← e1, hw2]
    simp [World.cell?, hlt]
   rw [this] at hk
   cases hk
 have h9 := h.2 w' hb hz
 obtain ⟨vs2, hvs2⟩ : ∃ x, x = vs := ⟨_, rfl⟩
 rw [← hvs2] at h9
 rw [← hvs2] at hvs
 cases h9 with
 | mk _ _ _ _ _ A' AL' AD' c' cL' cD' gL' oL' gD' oD' vl' vd' j1 j2 j3 j4 j5 j6 j7 j8 j9 j10 j11 jAL jl jlv jAD jdo jdk jdv =>
 simp only [List.cons.injEq, Value.slice.injEq, and_true, true_and] at hvs
 have e := hvs.2.2.1
 rw [jAD (by omega), hA] at e
 injection e with e
 injection e with e1 e2
 subst e1
 subst e2
 have hv : vd' i = vd i := by
  refine List.ext_getElem? fun j => ?_
  rcases Nat.lt_or_ge j 5 with hj | hj
  ·have a1 := jdv i hi' j hj
   have a2 := hdv i hi' j hj
   rw [← a1, ← a2]
   exact World.cell?_of_block (hb gD hin.1 hin.2)
  ·rw [List.getElem?_eq_none (by rw [(jdo i hi').five]; exact hj), List.getElem?_eq_none (by rw [(hdo i hi').five]; exact hj)]
 rw [← hv]
 exact jdo i hi'
theorem srt_en (w : World) (AD : Option Addr) (gD oD cD : Nat) (d : List (List UInt8 × Ob)) (vd : Nat → List Value) (KB : ByteArray) (X : Ob) (x0 x1 x2 x3 x4 : Value) (hn : d.length ≤ 1100000) (hc : d.length ≤ cD) (hAD : 0 < d.length → AD = some ⟨gD, oD, none⟩)
 (hdo : ∀ i (h : i < d.length), ObAt w d[i].2 (vd i)) (hdk : ∀ i, (h : i < d.length) → d[i].1.length ≤ maxLen ∧ w.cell? ⟨gD, oD + 6 * i, none⟩ = some (strV d[i].1)) (hdv : ∀ i, i < d.length → ∀ j, j < 5 → w.cell? ⟨gD, oD + (6 * i + 1 + j), none⟩ = (vd i)[j]?)
 (hX : ObAt w X [x0, x1, x2, x3, x4]) (hno : ∀ e ∈ d, (e.1 == KB.data.toList) = false) :
 Calls Tryz.prog 72 #[.slice AD d.length cD, .agg #[.string KB, x0, x1, x2, x3, x4], .func (.func 73) #[] #[], .bool true] w fun e w' => ∃ v, e = .returned v ∧
  w'.ownsRow w.heap.size 53 6 v (d.length + 1) (((List.range (placeE KB.data.toList d)).map fun i => strV (keyAt d i) :: vd i).flatten ++ [.string KB, x0, x1, x2, x3, x4] ++ ((List.range (d.length - placeE KB.data.toList d)).map fun i => strV (keyAt d (placeE KB.data.toList d + i)) :: vd (placeE KB.data.toList d + i)).flatten) ∧ Below w.heap.size w w' := by
 refine srt_put w AD gD oD d.length cD (fun i => strV (keyAt d i) :: vd i) (fun i => bytes (keyAt d i)) KB x0 x1 x2 x3 x4 (placeE KB.data.toList d) (place_le _ _) hn hc hAD (fun i hi => ?_) (fun i hi j hj => ?_) (fun i hi u hu => ?_) (fun u hu => ?_) (fun i hi => ?_) (fun hi => ?_) (fun i hi => ?_)
 ·have h5 := (hdo i hi).five
  match h : vd i, h5 with
  | [c1, c2, c3, c4, c5], _ => exact ⟨c1, c2, c3, c4, c5, rfl⟩
 ·show _ = (strV (keyAt d i) :: vd i)[j]?
  cases j with
  | zero => rw [keyAt_eq hi]; exact (hdk i hi).2
  | succ j =>
   rw [List.getElem?_cons_succ, ← hdv i hi j (by omega)]
   congr 2
   omega
 ·simp only [List.mem_cons] at hu
  rcases hu with rfl | hu
  ·rfl
  ·exact one_five (hdo i hi) u hu
 ·simp only [List.mem_cons] at hu
  rcases hu with rfl | hu
  ·rfl
  ·exact one_five hX u (by simpa using hu)
 ·have hp := place_le KB.data.toList d
  show ltB (keyAt d i) _ = true
  rw [keyAt_eq (by omega)]
  exact place_lt _ d i (by omega) hi
 ·show ltB (keyAt d _) _ = false
  rw [keyAt_eq hi]
  exact place_ge _ d hi
 ·show (keyAt d i == _) = false
  rw [keyAt_eq hi]
  exact hno _ (List.getElem_mem hi)

/- An entry put into an object: cos.Set. No condition. -/
def GS (P Q : Nat) (AD : Option Addr) (m cD : Nat) (KB : ByteArray) (ag : Array Value) (B : Nat) (X : Ob) : Nat → Value → World → Prop := fun j v w => match j with
 | 0 => v = .pointer (some ⟨P, 4, none⟩)
 | 1 => v = .slice AD m cD
 | 2 => v = .pointer (some ⟨Q, 0, none⟩)
 | 3 => v = .string KB
 | 4 | 7 | 8 => v = .pointer (some ⟨Q, 1, none⟩)
 | 5 => v = .agg ag
 | 6 => ∃ us lo hi, v = .agg (List.toArray (.string KB :: us)) ∧ B ≤ lo ∧ ObI lo hi w X us
 | 9 => v = .int .i64 2
 | _ => v = .bool true
theorem GS_mono {P Q : Nat} {AD : Option Addr} {m cD : Nat} {KB : ByteArray} {ag : Array Value} {B : Nat} {X : Ob} (j : Nat) (v : Value) (w w' : World) (hG : GS P Q AD m cD KB ag B X j v w) (hk : Below w.heap.size w w') : GS P Q AD m cD KB ag B X j v w' := by
 unfold GS at hG ⊢
 split at hG <;> first
  | exact hG
  | (obtain ⟨us, lo, hi, e, h1, h2⟩ := hG; exact ⟨us, lo, hi, e, h1, h2.keep (fun b _ hb => hk.block b (by have := h2.1; omega)) (by have := h2.1; have := hk.size; omega)⟩)
theorem own_slice {B : Nat} {e : TypeId} {sz : Nat} {w : World} {v : Value} {n : Nat} {xs : List Value} (h : w.ownsRow B e sz v n xs) : ∃ A c, v = .slice A n c := by
 rcases h.2 with ⟨rfl, hn⟩ | ⟨g, cap, cur, rfl, _⟩
 ·exact ⟨_, _, by rw [hn]⟩
 ·exact ⟨_, _, rfl⟩
theorem set_five {w : World} {R : Nat} {z0 z1 z2 z3 z4 u0 u1 u2 u3 u4 : Value} (hR : Blk w R 26 #[z0, z1, z2, z3, z4]) {Wf : World}
 (hWf : Wf = ((((w.setCell ⟨R, 0, none⟩ u0).setCell ⟨R, 1, none⟩ u1).setCell ⟨R, 2, none⟩ u2).setCell ⟨R, 3, none⟩ u3).setCell ⟨R, 4, none⟩ u4) :
 Blk Wf R 26 #[u0, u1, u2, u3, u4] ∧ w.grownBy Wf (some R) ∧ Wf.heap.size = w.heap.size := by
 have hg : w.grownBy Wf (some R) := by
  rw [hWf]
  exact ((((set_grown _ _ _ _).trans (set_grown _ _ _ _)).trans (set_grown _ _ _ _)).trans (set_grown _ _ _ _)).trans (set_grown _ _ _ _)
 refine ⟨?_, hg, by rw [hWf]; simp [World.setCell]⟩
 rw [hWf]; exact ((((hR.set_ 0 u0).set_ 1 u1).set_ 2 u2).set_ 3 u3).set_ 4 u4
set_option maxHeartbeats 8000000 in
set_option maxRecDepth 100000 in
theorem cos_Set (k n : Int) (b : List UInt8) (l : List Ob) (d : List (List UInt8 × Ob)) (vs : List Value) (w : World) (h : ObAt w (.mk k n b l d) vs) (hbk : (Ob.mk k n b l d).bulk ≤ 1048576) (hh : hasI k = true)
 (X : Ob) (xs : List Value) (gl : Nat) (KB : ByteArray) (hX : ObAt w X xs) (hXb : X.bulk ≤ 1048576) (hX2 : X.kind = 2) (hcl : ∀ j u, (Value.string KB :: xs)[j]? = some u → w.cell? ⟨gl, j, none⟩ = some u) (hno : ∀ e ∈ d, (e.1 == KB.data.toList) = false) (hKl : KB.data.toList.length ≤ maxLen) :
 Calls Tryz.prog 43 #[.agg vs.toArray, .slice (some ⟨gl, 0, none⟩) 1 1] w fun e w' => ∃ us, e = .returned (.agg (List.toArray us)) ∧ ObI w.heap.size w'.heap.size w' (.mk k n b l (insE KB.data.toList X d)) us ∧ Below w.heap.size w w' := by
 obtain ⟨en, E1, E2, E3, en1, ec1, en2, ec2, en3, ec3, hys⟩ := ob_five2 h
 have hkd : (Ob.mk k n b l d).kind = k := rfl
 rw [hkd] at hys
 subst hys
 obtain ⟨xn, F1, F2, F3, fn1, fc1, fn2, fc2, fn3, fc3, hxs⟩ := ob_five2 hX
 rw [hX2] at hxs
 subst hxs
 have zk : b.length + bulkL l + bulkD d + 1 ≤ 1048576 := hbk
 have zd := bulkD_len d
 obtain ⟨o, ho⟩ : ∃ o, o = Ob.mk k n b l d := ⟨_, rfl⟩
 obtain ⟨W1, hW1⟩ : ∃ W, W = w.alloc (.cells #[.int .i64 k, .int .i64 en, .slice E1 en1 ec1, .slice E2 en2 ec2, .slice E3 en3 ec3] 26) := ⟨_, rfl⟩
 obtain ⟨W2, hW2⟩ : ∃ W, W = W1.alloc (.cells #[.int .i64 0, .int .i64 0, .slice none 0 0, .slice none 0 0, .slice none 0 0] 26) := ⟨_, rfl⟩
 have hb1 : Below w.heap.size w W1 := by rw [hW1]; exact (Below.refl _ _).alloc (Nat.le_refl _) _
 have z1 : W1.heap.size = w.heap.size + 1 := by rw [hW1, World.size_alloc]
 have hb12 : Below W1.heap.size W1 W2 := by rw [hW2]; exact (Below.refl _ _).alloc (Nat.le_refl _) _
 have hb2 : Below w.heap.size w W2 := bthen hb1 hb12
 have z2 : W2.heap.size = w.heap.size + 2 := by rw [hW2, World.size_alloc, z1]
 have f := five_kept (five_cells hW1) hb12
 have hR2 : Blk W2 (w.heap.size + 1) 26 #[.int .i64 0, .int .i64 0, .slice none 0 0, .slice none 0 0, .slice none 0 0] := by rw [hW2, ← z1]; exact Blk.new W1 26 _
 have c66 := copy_all 1048576 (Nat.le_refl _) (Ob.mk k n b l d) _ W2 (h.kept hb2) hbk
 have c65 := fun W => cos_entries k (.int .i64 en) (.slice E1 en1 ec1) (.slice E2 en2 ec2) (.slice E3 en3 ec3) W
 rw [hh] at c65
 rw [← ho] at c66
 have hx6 : w.cell? ⟨gl, 0, none⟩ = some (.string KB) ∧ w.cell? ⟨gl, 1, none⟩ = some (.int .i64 2) ∧ w.cell? ⟨gl, 2, none⟩ = some (.int .i64 xn) ∧ w.cell? ⟨gl, 3, none⟩ = some (.slice F1 fn1 fc1) ∧ w.cell? ⟨gl, 4, none⟩ = some (.slice F2 fn2 fc2) ∧ w.cell? ⟨gl, 5, none⟩ = some (.slice F3 fn3 fc3) := ⟨hcl 0 _ rfl, hcl 1 _ rfl, hcl 2 _ rfl, hcl 3 _ rfl, hcl 4 _ rfl, hcl 5 _ rfl⟩
 have ck := fun W (hW : Below W2.heap.size W2 W) => cos_Pair X _ W (hX.kept (bthen hb2 hW)) hXb KB
 obtain ⟨f0, f1, f2, f3, f4⟩ := id f
 obtain ⟨k0, k1, k2, k3, k4, k5⟩ := six_kept hx6 hb2
 replace f := hi_ f
 replace hx6 := hi_ hx6
 replace ho := hi_ ho
 replace hb1 := hi_ hb1
 replace hb12 := hi_ hb12
 replace hb2 := hi_ hb2
 replace hR2 := hi_ hR2
 replace ck := hi_ ck
 replace hno := hi_ hno
 replace hKl := hi_ hKl
 replace c65 := hi_ c65
 replace hX2 := hi_ hX2
 clear h hX hcl hbk hh hXb hkd
 go_enter Tryz.func43, Tryz.ntmps43
 go_upto_region 1 with (fail)
 rw [← hW1, ← hW2]
 replace hW1 := hi_ hW1
 replace hW2 := hi_ hW2
 go_upto_region 2 with (first
  | (go_at_call 66; (with_reducible refine c66.mono ?_); rintro e' w3 ⟨us, rfl, hI, hB3⟩; rw [ho.out] at hI; obtain ⟨A', AL', AD, c', cL', cD, gD, oD, vd, hus, q1, q2, q3, q4, q5⟩ := ObI.ents hI; subst hus; obtain ⟨lb, hlb⟩ : ∃ x, x = b.length := ⟨_, rfl⟩; obtain ⟨ll, hll⟩ : ∃ x, x = l.length := ⟨_, rfl⟩; obtain ⟨m, hm⟩ : ∃ m, m = d.length := ⟨_, rfl⟩; rw [← hlb, ← hll, ← hm] at hI; rw [← hlb, ← hll, ← hm]; replace hlb := hi_ hlb; replace hll := hi_ hll; replace hm := hi_ hm; replace hB3 := hi_ hB3; replace hI := hi_ hI; replace q1 := hi_ q1; replace q2 := hi_ q2; replace q3 := hi_ q3; replace q4 := hi_ q4; replace q5 := hi_ q5; clear c66))
 obtain ⟨W4, hW4⟩ : ∃ W, W = w3.alloc (.cells #[.int .i64 k, .int .i64 n, .slice A' lb c', .slice AL' ll cL', .slice AD m cD] 26) := ⟨_, rfl⟩
 rw [← hW4]
 have hb4 : Below w3.heap.size w3 W4 := by rw [hW4]; exact (Below.refl _ _).alloc (Nat.le_refl _) _
 have hD4 : Below W2.heap.size W2 W4 := bthen hB3.out hb4
 have zp := five_cells hW4
 have hP4 : Blk W4 w3.heap.size 26 #[.int .i64 k, .int .i64 n, .slice A' lb c', .slice AL' ll cL', .slice AD m cD] := by rw [hW4]; exact Blk.new w3 26 _
 replace hP4 := hi_ hP4
 have z3 := hB3.out.size
 have z4 : W4.heap.size = w3.heap.size + 1 := by rw [hW4, World.size_alloc]
 obtain ⟨g0, g1, g2, g3, g4⟩ := five_kept f.out hD4
 have d65 := c65.out W4
 replace hb4 := hi_ hb4
 replace hD4 := hi_ hD4
 replace zp := hi_ zp
 replace hW4 := hi_ hW4
 clear f0 f1 f2 f3 f4 k0 k1 k2 k3 k4 k5
 go_upto_region 4 with (first
  | (go_at_call 65; (with_reducible refine d65.mono ?_); rintro e' w5 ⟨rfl, hB5⟩; have hD5 := bthen hD4.out hB5; have zp5 := five_kept zp.out hB5; obtain ⟨k0, k1, k2, k3, k4, k5⟩ := six_kept hx6.out (bthen hb2.out hD5); have z5 := hB5.size; replace hB5 := hi_ hB5; replace hD5 := hi_ hD5; replace zp5 := hi_ zp5; clear d65))
 clear g0 g1 g2 g3 g4
 go_wp2
 refine wp_loop_rounds 2 ?_; rw [rounds_succ]
 go_upto_region 7 with (fail)
 obtain ⟨W6, hW6⟩ : ∃ W, W = w5.alloc (.cells #[.string KB, .int .i64 2, .int .i64 xn, .slice F1 fn1 fc1, .slice F2 fn2 fc2, .slice F3 fn3 fc3] 53) := ⟨_, rfl⟩
 rw [← hW6]
 have hb6 : Below w5.heap.size w5 W6 := by rw [hW6]; exact (Below.refl _ _).alloc (Nat.le_refl _) _
 have z6 : W6.heap.size = w5.heap.size + 1 := by rw [hW6, World.size_alloc]
 have hD6 : Below W2.heap.size W2 W6 := bthen hD5.out hb6
 obtain ⟨p0, p1, p2, p3, p4⟩ := five_kept zp5.out hb6
 obtain ⟨y0, y1, y2, y3, y4, y5⟩ := six_cells hW6
 replace hb6 := hi_ hb6
 replace hD6 := hi_ hD6
 replace hW6 := hi_ hW6
 clear k0 k1 k2 k3 k4 k5
 refine wp_lin_tail (by kernel_rfl) [none, none, none, none, none, none, none, none, none, none, none, none, none, none, none, none, none, none, none, none, some 0, some 1, some 2, some 3, some 4, some 5, some 6, some 7, some 8, some 9, some 10, none, none, none, none] (fun w' => Below W6.heap.size W6 w') (fun w' w'' => Below w'.heap.size w' w'') (GS w3.heap.size w5.heap.size AD m cD KB #[.int .i64 2, .int .i64 xn, .slice F1 fn1 fc1, .slice F2 fn2 fc2, .slice F3 fn3 fc3] W6.heap.size X) (by rfl) (by kernel_rfl) 11 _ rfl (by decide) (by kernel_rfl) [1, 11, 3, 6, 5, 6, 11, 8, 9, 10, 11, 0] (by kernel_rfl) ?hR ?mono (.cons 10 (step_of [9] rfl (by kernel_rfl) ?s10) (.cons 9 (step_of [8] rfl (by kernel_rfl) ?s9) (.cons 8 (step_of [7] rfl (by kernel_rfl) ?s8) (.cons 7 (step_of [] rfl (by kernel_rfl) ?s7) (.cons 6 (step_of [3, 5] rfl (by kernel_rfl) ?s6) (.cons 5 (step_of [4] rfl (by kernel_rfl) ?s5) (.cons 4 (step_of [] rfl (by kernel_rfl) ?s4) (.cons 3 (step_of [2] rfl (by kernel_rfl) ?s3) (.cons 2 (step_of [] rfl (by kernel_rfl) ?s2) (.cons 1 (step_of [0] rfl (by kernel_rfl) ?s1) (.cons 0 (step_of [] rfl (by kernel_rfl) ?s0) (.nil)))))))))))) ?done
 case hR => exact (Below.refl _ _).drew
 case mono => exact GS_mono
 case s0 =>
  intro x w' hRw hd K' hK
  simp only [All, GS] at hd
  simp +decide only [upd, GS, fillL, if_true, if_false] at hK ⊢
  go_simp
  have hK2 := hK _ _ ⟨hRw, Below.refl _ _, rfl⟩
  exact hK2
 case s1 =>
  intro x w' hRw hd K' hK
  simp only [All, GS] at hd
  have tp4 := (hRw.cell (cell_lt p4)).trans p4
  simp +decide only [upd, GS, fillL, if_true, if_false] at hK ⊢
  try simp only [hd.1] at hK ⊢
  go_simp
  have hK2 := hK _ _ ⟨hRw, Below.refl _ _, rfl⟩
  exact hK2
 case s2 =>
  intro x w' hRw hd K' hK
  simp only [All, GS] at hd
  simp +decide only [upd, GS, fillL, if_true, if_false] at hK ⊢
  go_simp
  have hK2 := hK _ _ ⟨hRw, Below.refl _ _, rfl⟩
  exact hK2
 case s3 =>
  intro x w' hRw hd K' hK
  simp only [All, GS] at hd
  have ty0 := (hRw.cell (cell_lt y0)).trans y0
  simp +decide only [upd, GS, fillL, if_true, if_false] at hK ⊢
  try simp only [hd.1] at hK ⊢
  go_simp
  have hK2 := hK _ _ ⟨hRw, Below.refl _ _, rfl⟩
  exact hK2
 case s4 =>
  intro x w' hRw hd K' hK
  simp only [All, GS] at hd
  simp +decide only [upd, GS, fillL, if_true, if_false] at hK ⊢
  go_simp
  have hK2 := hK _ _ ⟨hRw, Below.refl _ _, rfl⟩
  exact hK2
 case s5 =>
  intro x w' hRw hd K' hK
  simp only [All, GS] at hd
  have ty1 := (hRw.cell (cell_lt y1)).trans y1
  have ty2 := (hRw.cell (cell_lt y2)).trans y2
  have ty3 := (hRw.cell (cell_lt y3)).trans y3
  have ty4 := (hRw.cell (cell_lt y4)).trans y4
  have ty5 := (hRw.cell (cell_lt y5)).trans y5
  simp +decide only [upd, GS, fillL, if_true, if_false] at hK ⊢
  try simp only [hd.1] at hK ⊢
  go_simp
  have hK2 := hK _ _ ⟨hRw, Below.refl _ _, rfl⟩
  exact hK2
 case s6 =>
  intro x w' hRw hd K' hK
  simp only [All, GS] at hd
  simp +decide only [upd, GS, fillL, if_true, if_false] at hK ⊢
  try simp only [hd.1, hd.2.1] at hK ⊢
  go_simp
  refine (ck.out w' (bthen hD6.out hRw)).mono ?_
  rintro e' w2 ⟨us, rfl, hI6, hB6⟩
  have hK2 := hK _ _ ⟨bthen hRw hB6, hB6, us, w'.heap.size, w2.heap.size, rfl, hRw.size, hI6⟩
  exact hK2
 case s7 =>
  intro x w' hRw hd K' hK
  simp only [All, GS] at hd
  simp +decide only [upd, GS, fillL, if_true, if_false] at hK ⊢
  go_simp
  have hK2 := hK _ _ ⟨hRw, Below.refl _ _, rfl⟩
  exact hK2
 case s8 =>
  intro x w' hRw hd K' hK
  simp only [All, GS] at hd
  simp +decide only [upd, GS, fillL, if_true, if_false] at hK ⊢
  try simp only [hd.1] at hK ⊢
  go_simp
  have hK2 := hK _ _ ⟨hRw, Below.refl _ _, rfl⟩
  exact hK2
 case s9 =>
  intro x w' hRw hd K' hK
  simp only [All, GS] at hd
  have ty1 := (hRw.cell (cell_lt y1)).trans y1
  simp +decide only [upd, GS, fillL, if_true, if_false] at hK ⊢
  try simp only [hd.1] at hK ⊢
  go_simp
  have hK2 := hK _ _ ⟨hRw, Below.refl _ _, rfl⟩
  exact hK2
 case s10 =>
  intro x w' hRw hd K' hK
  simp only [All, GS] at hd
  simp +decide only [upd, GS, fillL, if_true, if_false] at hK ⊢
  try simp only [hd.1] at hK ⊢
  go_simp
  have hK2 := hK _ _ ⟨hRw, Below.refl _ _, rfl⟩
  exact hK2
 case done =>
  intro x w7 hR2' hG fr hfr
  have a1 := hG 1 (by omega)
  have a6 := hG 6 (by omega)
  have a10 := hG 10 (by omega)
  simp only [GS] at a1 a6 a10
  clear hG
  obtain ⟨us6, lo6, hi6, a6, hlo6, hI6⟩ := a6
  obtain ⟨xn', G1, G2, G3, gn1, gc1, gn2, gc2, gn3, gc3, hx6'⟩ := ob_five2 hI6.ob
  rw [hX2.out] at hx6'
  subst hx6'
  simp only [fillL] at hfr
  rw [a1, a6, a10] at hfr
  subst hfr
  clear a1 a6 a10
  have hD7 : Below W2.heap.size W2 w7 := bthen hD6.out hR2'
  have hD37 : Below w3.heap.size w3 w7 := bthen hb4.out (bthen hB5.out (bthen hb6.out hR2'))
  have c72 := srt_en w7 AD gD oD cD d vd KB X _ _ _ _ _ (by omega) q1.out q2.out (fun i hi => (obI_below (q3.out i hi) hD37).ob) (fun i hi => ⟨(q4.out i hi).1, (hD37.cell (cell_lt (q4.out i hi).2)).trans (q4.out i hi).2⟩)
   (fun i hi j hj => by
    have h9 := q5.out i hi j hj
    obtain ⟨u, hu⟩ : ∃ u, (vd i)[j]? = some u := ⟨_, List.getElem?_eq_getElem (by rw [((q3.out i hi).ob).five]; exact hj)⟩
    rw [hu] at h9 ⊢
    exact (hD37.cell (cell_lt h9)).trans h9) hI6.ob hno.out
  rw [← hm.out] at c72
  have hPb : Blk w7 w3.heap.size 26 #[.int .i64 k, .int .i64 n, .slice A' lb c', .slice AL' ll cL', .slice AD m cD] := hP4.out.below (bthen hB5.out (bthen hb6.out hR2')) (by omega)
  have z37 := hD37.size
  have z67 := hR2'.size
  replace hPb := hi_ hPb
  replace hD7 := hi_ hD7
  replace hD37 := hi_ hD37
  replace hR2' := hi_ hR2'
  replace hI6 := hi_ hI6
  clear p0 p1 p2 p3 p4 y0 y1 y2 y3 y4 y5
  go_wp2_with (first
   | (go_at_call 72; (with_reducible refine c72.mono ?_); rintro e' w8 ⟨v8, rfl, hO8, hB8⟩; obtain ⟨A8, cc8, hv8⟩ := own_slice hO8; subst hv8; have hPb8 := hPb.out.below hB8 (by omega); have p0 := hPb8.cell 0; have p1 := hPb8.cell 1; have p2 := hPb8.cell 2; have p3 := hPb8.cell 3; have p4 := hPb8.cell 4; have v4 := hPb8.frozen 4; have z8 := hB8.size; replace hPb8 := hi_ hPb8; replace hB8 := hi_ hB8; replace hO8 := hi_ hO8; clear c72))
  obtain ⟨W9, hW9⟩ : ∃ W, W = w8.setCell ⟨w3.heap.size, 4, none⟩ (.slice A8 (m + 1) cc8) := ⟨_, rfl⟩
  rw [← hW9]
  have hPb9 : Blk W9 w3.heap.size 26 #[.int .i64 k, .int .i64 n, .slice A' lb c', .slice AL' ll cL', .slice A8 (m + 1) cc8] := by rw [hW9]; exact hPb8.out.set_ 4 _
  have hRb9 : Blk W9 (w.heap.size + 1) 26 #[.int .i64 0, .int .i64 0, .slice none 0 0, .slice none 0 0, .slice none 0 0] := by rw [hW9]; exact (hR2.out.below (bthen hD7.out hB8.out) (by omega)).far (by show _ ≠ w3.heap.size; omega) _
  clear p0 p1 p2 p3 p4 v4
  have p0 := hPb9.cell 0
  have p1 := hPb9.cell 1
  have p2 := hPb9.cell 2
  have p3 := hPb9.cell 3
  have p4 := hPb9.cell 4
  have r0 := hRb9.cell 0
  have r1 := hRb9.cell 1
  have r2 := hRb9.cell 2
  have r3 := hRb9.cell 3
  have r4 := hRb9.cell 4
  have v0 := hRb9.frozen 0
  have v1 := hRb9.frozen 1
  have v2 := hRb9.frozen 2
  have v3 := hRb9.frozen 3
  have v4 := hRb9.frozen 4
  replace hRb9 := hi_ hRb9
  replace hPb9 := hi_ hPb9
  replace hW9 := hi_ hW9
  rw [rounds_succ]
  go_wp2
  obtain ⟨Wf, hWf⟩ : ∃ W, W = ((((W9.setCell ⟨w.heap.size + 1, 0, none⟩ (.int .i64 k)).setCell ⟨w.heap.size + 1, 1, none⟩ (.int .i64 n)).setCell ⟨w.heap.size + 1, 2, none⟩ (.slice A' lb c')).setCell ⟨w.heap.size + 1, 3, none⟩ (.slice AL' ll cL')).setCell ⟨w.heap.size + 1, 4, none⟩ (.slice A8 (m + 1) cc8) := ⟨_, rfl⟩
  rw [← hWf]
  obtain ⟨hbf, hgf, hzf⟩ := set_five hRb9.out hWf
  have u0 := hbf.cell 0
  have u1 := hbf.cell 1
  have u2 := hbf.cell 2
  have u3 := hbf.cell 3
  have u4 := hbf.cell 4
  have hz9 : W9.heap.size = w8.heap.size := by rw [hW9.out]; simp [World.setCell]
  have keepf : ∀ q, W2.heap.size ≤ q → q < w8.heap.size → q ≠ w3.heap.size → Wf.heap[q]? = w8.heap[q]? := fun q h1 h2 h3 => by
   rw [hgf.block q (by omega) (fun e => by injection e with e; omega), hW9.out]
   exact Below.heap_setCell _ _ _ _ h3
  have hBf : Below w.heap.size w Wf := by
   have hB9 : Below w.heap.size w W9 := by rw [hW9.out]; exact (bthen hb2.out (bthen hD7.out hB8.out)).grown (set_grown _ _ _ _) (by omega) (fun q hq => by injection hq with hq; omega)
   exact hB9.grown hgf (by omega) (fun q hq => by injection hq with hq; omega)
  have hobf : ObI w.heap.size Wf.heap.size Wf (.mk k n b l (insE KB.data.toList X d)) [.int .i64 k, .int .i64 n, .slice A' lb c', .slice AL' ll cL', .slice A8 (m + 1) cc8] := by
   have hD38 := bthen hD37.out hB8.out
   refine ⟨Nat.le_refl _, fun Wg hk hs => ?_⟩
   have kg : ∀ q, W2.heap.size ≤ q → q < w8.heap.size → q ≠ w3.heap.size → Wg.heap[q]? = w8.heap[q]? := fun q h1 h2 h3 => (hk q (by omega) (by omega)).trans (keepf q h1 h2 h3)
   refine ob_put (B := w7.heap.size) (hI.out.keep (fun q h1 h2 => (kg q h1 (by omega) (by omega)).trans (hD38.block q (by omega))) (by omega)).ob (fun i hi => ((q3.out i hi).keep (fun q h1 h2 => (kg q h1 (by omega) (by omega)).trans (hD38.block q (by omega))) (by omega)).ob) (fun i hi => (q4.out i hi).1) hKl.out (hI6.out.keep (fun q h1 h2 => ?_) ?_).ob ?_
   ·have h6 := hI6.out.1
    exact (kg q (by omega) (by omega) (by omega)).trans (hB8.out.block q (by omega))
   ·have h6 := hI6.out.1
    omega
   ·have h9 := own_far hO8.out (w' := Wg) (fun q h1 h2 => kg q (by omega) h2 (by omega))
    rw [hm.out] at h9 ⊢
    exact h9
  clear hbf hgf keepf
  replace hWf := hi_ hWf
  exact bodyPost_ret (by simp [results, Tryz.results43, go_sem, u0, u1, u2, u3, u4]; try rfl) rfl ⟨[.int .i64 k, .int .i64 n, .slice A' lb c', .slice AL' ll cL', .slice A8 (m + 1) cc8], rfl, hobf, hBf⟩

/- An entry put into entries, by the document: with. No condition. -/
theorem drewN_below (w : World) (n : Nat) : Below w.heap.size w (w.drewN n) := ⟨rfl, rfl, rfl, Nat.le_refl _, fun _ _ => rfl⟩
def GW (Q : Nat) (v0 : Value) (KB : ByteArray) (ag : Array Value) (B : Nat) (X : Ob) : Nat → Value → World → Prop := fun j v w => match j with
 | 0 => v = v0
 | 1 => v = .pointer (some ⟨Q, 0, none⟩)
 | 2 => v = .string KB
 | 3 => v = .pointer (some ⟨Q, 1, none⟩)
 | 4 => v = .agg ag
 | 5 => ∃ a b c e f lo hi, v = .agg #[a, b, c, e, f] ∧ B ≤ lo ∧ ObI lo hi w X [a, b, c, e, f]
 | 6 => ∃ a b c e f lo hi, v = .agg #[.string KB, a, b, c, e, f] ∧ B ≤ lo ∧ ObI lo hi w X [a, b, c, e, f]
 | _ => ∃ a b c e f lo hi g, v = .slice (some ⟨g, 0, none⟩) 1 1 ∧ B ≤ lo ∧ ObI lo hi w X [a, b, c, e, f] ∧ w.ownsRow g 53 6 v 1 [.string KB, a, b, c, e, f]
theorem GW_mono {Q : Nat} {v0 : Value} {KB : ByteArray} {ag : Array Value} {B : Nat} {X : Ob} (j : Nat) (v : Value) (w w' : World) (hG : GW Q v0 KB ag B X j v w) (hk : Below w.heap.size w w') : GW Q v0 KB ag B X j v w' := by
 unfold GW at hG ⊢
 split at hG <;> first
  | exact hG
  | (obtain ⟨a, b, c, e, f, lo, hi, h0, h1, h2⟩ := hG; exact ⟨a, b, c, e, f, lo, hi, h0, h1, obI_below h2 hk⟩)
  | (obtain ⟨a, b, c, e, f, lo, hi, g, h0, h1, h2, h3⟩ := hG; exact ⟨a, b, c, e, f, lo, hi, g, h0, h1, obI_below h2 hk, own_far h3 (fun q _ hq => hk.block q hq)⟩)

/- An entry put into an object, by the document: Set. No condition. -/
end Go.Proofs.YthacnnmlephkhaaGreatDoor

/- Walks and laws, joined: part E. No condition. -/
import Derived.Test.YthffpbkndnhlfaaGreatDoorTbJD
import Derived.Deep.DeepCutAuto
import Derived.Lib.ConvBytes
import Derived.Lib.ReflectliteSlice
import Derived.Test.YthffpbkndnhlfaaGreatDoorTbJA
set_option linter.unusedSimpArgs false
set_option linter.unusedVariables false
set_option maxRecDepth 100000
set_option maxHeartbeats 32000000
namespace Go.Proofs.YthffpbkndnhlfaaGreatDoor
open Go Go.RowKit Go.Wk Go.Rd Go.Fx
theorem conv_nilL (W : World) (c : Nat) : (convert 22 9 (.slice none 0 c)).run Tryz.prog W = .ok (.string ⟨#[]⟩) W := by
 rw [run_convert_bytes_string W 22 9 5 none 0 c Tryz.underlying22 Tryz.underlying5 Tryz.underlying9]
 rfl
theorem conv_ownL {B : Nat} {w : World} {A : Option Addr} {b : Bs} {n c : Nat} (h : Own B w (.slice A n c) b) : (convert 22 9 (.slice A n c)).run Tryz.prog w = .ok (.string ⟨b.toArray⟩) w := by
 obtain ⟨A9, c9, e9, hby, _⟩ := h.out2L h.lenL
 injection e9 with i1 i2 i3
 subst i1 i2 i3
 cases A with
 | none =>
  have hb : b = [] := by
   cases b with
   | nil => rfl
   | cons y l => obtain ⟨b, o, e, _⟩ := hby.2 (by simp); cases e
  subst hb
  exact conv_nilL w c
 | some ad =>
  by_cases h0 : 0 < b.length
  ·obtain ⟨g, o, e, _⟩ := hby.2 h0
   injection e with e
   subst e
   exact conv_back w g o c b hby
  ·have hb : b = [] := List.eq_nil_of_length_eq_zero (by omega)
   subst hb
   exact run_convert_bytes_back (P := Tryz.prog) w 22 9 5 ad c [] Tryz.underlying22 Tryz.underlying5 Tryz.underlying9 (fun j hj => absurd hj (by simp))
def wholeK (plain : Bool) (n : Int) (r : Bs) : Int × Bs :=
 if 1 ≤ n ∧ n ≤ 8388607 ∧ plain = false then
  match tokS r with
  | .ok t u => if t.k = 1 ∧ t.n = 0 then
   match tokS u with
   | .ok s v => if s.k = 9 ∧ s.b = [82] then (9, v) else (2, r)
   | .err _ _ => (2, r)
   else (2, r)
  | .err _ _ => (2, r)
 else (2, r)
theorem whole_K (pl : Bool) (n : Int) (r : Bs) : wholeS pl n r = (.mk (wholeK pl n r).1 n [] [] [], (wholeK pl n r).2) := by
 unfold wholeS wholeK
 split
 ·cases tokS r with
  | err e u => rfl
  | ok t u =>
   simp only []
   split
   ·cases tokS u with
    | err e v => rfl
    | ok s v =>
     simp only []
     split <;> rfl
   ·rfl
 ·rfl
section
variable {P L R : Nat} {A : Option Addr} {c : Nat} {bs : Bs} {d : Nat} {pl : Bool} {w w' : World} {r r' u v : Bs} {k s : Tok}
theorem wp_lo {n : Int} (hn : n < 1) (W : World) (h : PS P L R A c bs d pl W r) : Calls Tryz.prog 89 #[.pointer (some ⟨P, 0, none⟩), .int .i64 n] W fun e w' => e = .returned (.agg #[.int .i64 (wholeK pl n r).1, .int .i64 n, .slice none 0 0, .slice none 0 0, .slice none 0 0]) ∧ PS P L R A c bs d pl w' (wholeK pl n r).2 ∧ Fr L R W w' := by
 rw [show wholeK pl n r = (2, r) from by unfold wholeK; rw [if_neg (by omega)]]
 obtain ⟨W1, hW1, b1, hT⟩ := newB W 32 #[.int .i64 0, .int .i64 0, .slice none 0 0, .slice none 0 0, .slice none 0 0]
 have hP := h.belowW b1
 have hLT := h.L_lt
 have hRT := h.R_lt
 have hPT := h.P_lt
 have hAT := h.a_lt
 have hneL : W.heap.size ≠ L := by omega
 have hneR : W.heap.size ≠ R := by omega
 have hsuf := h.suf
 have cps := hi_ fun W h => ps_pos (P := P) (L := L) (R := R) (A := A) (c := c) (bs := bs) (d := d) (pl := pl) (r := r) W h
 have csk := hi_ fun (r2 : Bs) W h => ps_seek (P := P) (L := L) (R := R) (A := A) (c := c) (bs := bs) (d := d) (pl := pl) (r := r2) hsuf rfl W h
 obtain ⟨p, hp⟩ : ∃ p : Int, p = (pos bs r : Nat) := ⟨_, rfl⟩
 rw [← hp] at cps csk
 have ci := hi_ fun W => cos_Int n W
 have p0 := hP.p0
 have q0 := hP.q0
 have x1 := hP.par.cell 2
 have hF := hi_ (Fr.of_below (L := L) (R := R) b1)
 refine h8_ hp hsuf hP hT b1 hneL hneR hAT ?_; clear hp hsuf hP hT b1 hneL hneR hAT; intro hp hsuf hP hT b1 hneL hneR hAT
 clear h
 go_enter Tryz.func89, Tryz.ntmps89
 go_upto_region 1 with fail
 rw [← hW1]
 replace hW1 := hi_ hW1
 go_wp2_with (first | (go_at_call 14; (with_reducible refine (cps.out _ hP.out).mono ?_); rintro e w2 ⟨rfl, rfl⟩) | (go_at_call 30; (with_reducible refine ((csk.out _) _ hP.out).mono ?_); rintro e w5 ⟨rfl, hP2, hF2⟩; replace hT := hi_ (hF2.blk hneL.out hneR.out hT.out); replace hF := hi_ (hF.out.trans hF2); replace hP := hi_ hP2; clear hP2 hF2) | (go_at_call 122; (with_reducible refine (ci.out _).mono ?_); rintro e w6 ⟨rfl, hB6⟩; have hT2 := hT.out.below hB6 hT.out.lt; obtain ⟨z0, z1, z2, z3, z4, v0, v1, v2, v3, v4⟩ := hT2.b5; replace hT2 := hi_ hT2; replace hF := hi_ (hF.out.trans (Fr.of_below (L := L) (R := R) hB6)); replace hP := hi_ (hP.out.belowW hB6); clear hB6))
 generalize hWf : World.setCell _ _ _ = Wf
 replace hWf := hWf.symm
 obtain ⟨hb, hg⟩ := set5L hT2.out hWf
 obtain ⟨u0, u1, u2, u3, u4, -⟩ := hb.b5
 have hPf := hi_ (hP.out.grownL hg (by omega) (by omega) (by omega) (fun h0 x hx => by have := hAT.out h0 x hx; omega))
 have hFf := hi_ (hF.out.grownL hg (Nat.le_refl _))
 replace hg := hi_ hg
 replace hWf := hi_ hWf
 clear hb z0 z1 z2 z3 z4 v0 v1 v2 v3 v4
 refine bodyPost_ret (by simp [results, Tryz.results89, go_sem, u0, u1, u2, u3, u4]; try rfl) rfl ?_
 exact ⟨rfl, hPf.out, hFf.out⟩
theorem wp_hi {n : Int} (hn1 : 1 ≤ n) (hn : 8388607 < n) (W : World) (h : PS P L R A c bs d pl W r) : Calls Tryz.prog 89 #[.pointer (some ⟨P, 0, none⟩), .int .i64 n] W fun e w' => e = .returned (.agg #[.int .i64 (wholeK pl n r).1, .int .i64 n, .slice none 0 0, .slice none 0 0, .slice none 0 0]) ∧ PS P L R A c bs d pl w' (wholeK pl n r).2 ∧ Fr L R W w' := by
 rw [show wholeK pl n r = (2, r) from by unfold wholeK; rw [if_neg (by omega)]]
 obtain ⟨W1, hW1, b1, hT⟩ := newB W 32 #[.int .i64 0, .int .i64 0, .slice none 0 0, .slice none 0 0, .slice none 0 0]
 have hP := h.belowW b1
 have hLT := h.L_lt
 have hRT := h.R_lt
 have hPT := h.P_lt
 have hAT := h.a_lt
 have hneL : W.heap.size ≠ L := by omega
 have hneR : W.heap.size ≠ R := by omega
 have hsuf := h.suf
 have cps := hi_ fun W h => ps_pos (P := P) (L := L) (R := R) (A := A) (c := c) (bs := bs) (d := d) (pl := pl) (r := r) W h
 have csk := hi_ fun (r2 : Bs) W h => ps_seek (P := P) (L := L) (R := R) (A := A) (c := c) (bs := bs) (d := d) (pl := pl) (r := r2) hsuf rfl W h
 obtain ⟨p, hp⟩ : ∃ p : Int, p = (pos bs r : Nat) := ⟨_, rfl⟩
 rw [← hp] at cps csk
 have ci := hi_ fun W => cos_Int n W
 have p0 := hP.p0
 have q0 := hP.q0
 have x1 := hP.par.cell 2
 have hF := hi_ (Fr.of_below (L := L) (R := R) b1)
 refine h8_ hp hsuf hP hT b1 hneL hneR hAT ?_; clear hp hsuf hP hT b1 hneL hneR hAT; intro hp hsuf hP hT b1 hneL hneR hAT
 clear h
 go_enter Tryz.func89, Tryz.ntmps89
 go_upto_region 1 with fail
 rw [← hW1]
 replace hW1 := hi_ hW1
 go_wp2_with (first | (go_at_call 14; (with_reducible refine (cps.out _ hP.out).mono ?_); rintro e w2 ⟨rfl, rfl⟩) | (go_at_call 30; (with_reducible refine ((csk.out _) _ hP.out).mono ?_); rintro e w5 ⟨rfl, hP2, hF2⟩; replace hT := hi_ (hF2.blk hneL.out hneR.out hT.out); replace hF := hi_ (hF.out.trans hF2); replace hP := hi_ hP2; clear hP2 hF2) | (go_at_call 122; (with_reducible refine (ci.out _).mono ?_); rintro e w6 ⟨rfl, hB6⟩; have hT2 := hT.out.below hB6 hT.out.lt; obtain ⟨z0, z1, z2, z3, z4, v0, v1, v2, v3, v4⟩ := hT2.b5; replace hT2 := hi_ hT2; replace hF := hi_ (hF.out.trans (Fr.of_below (L := L) (R := R) hB6)); replace hP := hi_ (hP.out.belowW hB6); clear hB6))
 generalize hWf : World.setCell _ _ _ = Wf
 replace hWf := hWf.symm
 obtain ⟨hb, hg⟩ := set5L hT2.out hWf
 obtain ⟨u0, u1, u2, u3, u4, -⟩ := hb.b5
 have hPf := hi_ (hP.out.grownL hg (by omega) (by omega) (by omega) (fun h0 x hx => by have := hAT.out h0 x hx; omega))
 have hFf := hi_ (hF.out.grownL hg (Nat.le_refl _))
 replace hg := hi_ hg
 replace hWf := hi_ hWf
 clear hb z0 z1 z2 z3 z4 v0 v1 v2 v3 v4
 refine bodyPost_ret (by simp [results, Tryz.results89, go_sem, u0, u1, u2, u3, u4]; try rfl) rfl ?_
 exact ⟨rfl, hPf.out, hFf.out⟩
theorem wp_pl {n : Int} (hn1 : 1 ≤ n) (hn : n ≤ 8388607) (W : World) (h : PS P L R A c bs d true W r) : Calls Tryz.prog 89 #[.pointer (some ⟨P, 0, none⟩), .int .i64 n] W fun e w' => e = .returned (.agg #[.int .i64 (wholeK true n r).1, .int .i64 n, .slice none 0 0, .slice none 0 0, .slice none 0 0]) ∧ PS P L R A c bs d true w' (wholeK true n r).2 ∧ Fr L R W w' := by
 rw [show wholeK true n r = (2, r) from by unfold wholeK; rw [if_neg (by simp)]]
 obtain ⟨W1, hW1, b1, hT⟩ := newB W 32 #[.int .i64 0, .int .i64 0, .slice none 0 0, .slice none 0 0, .slice none 0 0]
 have hP := h.belowW b1
 have hLT := h.L_lt
 have hRT := h.R_lt
 have hPT := h.P_lt
 have hAT := h.a_lt
 have hneL : W.heap.size ≠ L := by omega
 have hneR : W.heap.size ≠ R := by omega
 have hsuf := h.suf
 have cps := hi_ fun W h => ps_pos (P := P) (L := L) (R := R) (A := A) (c := c) (bs := bs) (d := d) (pl := true) (r := r) W h
 have csk := hi_ fun (r2 : Bs) W h => ps_seek (P := P) (L := L) (R := R) (A := A) (c := c) (bs := bs) (d := d) (pl := true) (r := r2) hsuf rfl W h
 obtain ⟨p, hp⟩ : ∃ p : Int, p = (pos bs r : Nat) := ⟨_, rfl⟩
 rw [← hp] at cps csk
 have ci := hi_ fun W => cos_Int n W
 have p0 := hP.p0
 have q0 := hP.q0
 have x1 := hP.par.cell 2
 have hF := hi_ (Fr.of_below (L := L) (R := R) b1)
 refine h8_ hp hsuf hP hT b1 hneL hneR hAT ?_; clear hp hsuf hP hT b1 hneL hneR hAT; intro hp hsuf hP hT b1 hneL hneR hAT
 clear h
 go_enter Tryz.func89, Tryz.ntmps89
 go_upto_region 1 with fail
 rw [← hW1]
 replace hW1 := hi_ hW1
 go_wp2_with (first | (go_at_call 14; (with_reducible refine (cps.out _ hP.out).mono ?_); rintro e w2 ⟨rfl, rfl⟩) | (go_at_call 30; (with_reducible refine ((csk.out _) _ hP.out).mono ?_); rintro e w5 ⟨rfl, hP2, hF2⟩; replace hT := hi_ (hF2.blk hneL.out hneR.out hT.out); replace hF := hi_ (hF.out.trans hF2); replace hP := hi_ hP2; clear hP2 hF2) | (go_at_call 122; (with_reducible refine (ci.out _).mono ?_); rintro e w6 ⟨rfl, hB6⟩; have hT2 := hT.out.below hB6 hT.out.lt; obtain ⟨z0, z1, z2, z3, z4, v0, v1, v2, v3, v4⟩ := hT2.b5; replace hT2 := hi_ hT2; replace hF := hi_ (hF.out.trans (Fr.of_below (L := L) (R := R) hB6)); replace hP := hi_ (hP.out.belowW hB6); clear hB6))
 generalize hWf : World.setCell _ _ _ = Wf
 replace hWf := hWf.symm
 obtain ⟨hb, hg⟩ := set5L hT2.out hWf
 obtain ⟨u0, u1, u2, u3, u4, -⟩ := hb.b5
 have hPf := hi_ (hP.out.grownL hg (by omega) (by omega) (by omega) (fun h0 x hx => by have := hAT.out h0 x hx; omega))
 have hFf := hi_ (hF.out.grownL hg (Nat.le_refl _))
 replace hg := hi_ hg
 replace hWf := hi_ hWf
 clear hb z0 z1 z2 z3 z4 v0 v1 v2 v3 v4
 refine bodyPost_ret (by simp [results, Tryz.results89, go_sem, u0, u1, u2, u3, u4]; try rfl) rfl ?_
 exact ⟨rfl, hPf.out, hFf.out⟩
theorem wp_e1 {n : Int} (hn1 : 1 ≤ n) (hn : n ≤ 8388607) {er : Int} (ht : tokS r = .err er u) (W : World) (h : PS P L R A c bs d false W r) : Calls Tryz.prog 89 #[.pointer (some ⟨P, 0, none⟩), .int .i64 n] W fun e w' => e = .returned (.agg #[.int .i64 (wholeK false n r).1, .int .i64 n, .slice none 0 0, .slice none 0 0, .slice none 0 0]) ∧ PS P L R A c bs d false w' (wholeK false n r).2 ∧ Fr L R W w' := by
 rw [show wholeK false n r = (2, r) from by unfold wholeK; rw [if_pos ⟨hn1, hn, rfl⟩]; rw [ht]]
 obtain ⟨W1, hW1, b1, hT⟩ := newB W 32 #[.int .i64 0, .int .i64 0, .slice none 0 0, .slice none 0 0, .slice none 0 0]
 have hP := h.belowW b1
 have hLT := h.L_lt
 have hRT := h.R_lt
 have hPT := h.P_lt
 have hAT := h.a_lt
 have hneL : W.heap.size ≠ L := by omega
 have hneR : W.heap.size ≠ R := by omega
 have hsuf := h.suf
 have cps := hi_ fun W h => ps_pos (P := P) (L := L) (R := R) (A := A) (c := c) (bs := bs) (d := d) (pl := false) (r := r) W h
 have csk := hi_ fun (r2 : Bs) W h => ps_seek (P := P) (L := L) (R := R) (A := A) (c := c) (bs := bs) (d := d) (pl := false) (r := r2) hsuf rfl W h
 obtain ⟨p, hp⟩ : ∃ p : Int, p = (pos bs r : Nat) := ⟨_, rfl⟩
 rw [← hp] at cps csk
 have ci := hi_ fun W => cos_Int n W
 have ct := hi_ fun W h => px_err (P := P) (L := L) (R := R) (A := A) (c := c) (bs := bs) (d := d) (pl := false) ht rfl W h
 obtain ⟨at1, ha1⟩ : ∃ a : Int, a = (pos bs (blankM false r) : Nat) := ⟨_, rfl⟩
 rw [← ha1] at ct
 replace ha1 := hi_ ha1
 have p0 := hP.p0
 have q0 := hP.q0
 have x1 := hP.par.cell 2
 have hF := hi_ (Fr.of_below (L := L) (R := R) b1)
 refine h8_ hp hsuf hP hT b1 hneL hneR hAT ?_; clear hp hsuf hP hT b1 hneL hneR hAT; intro hp hsuf hP hT b1 hneL hneR hAT
 clear h
 go_enter Tryz.func89, Tryz.ntmps89
 go_upto_region 1 with fail
 rw [← hW1]
 replace hW1 := hi_ hW1
 go_upto_region 4 with (first | (go_at_call 14; (with_reducible refine (cps.out _ hP.out).mono ?_); rintro e w2 ⟨rfl, rfl⟩) | (go_at_call 82; (with_reducible refine (ct.out _ hP.out).mono ?_); rintro e w4 ⟨hn0, rfl, hP2, hF2⟩; replace hT := hi_ (hF2.blk hneL.out hneR.out hT.out); replace hF := hi_ (hF.out.trans hF2); have hnb := bne_iff_ne.2 hn0; have hnb2 := beq_eq_false_iff_ne.2 hn0; replace hn0 := hi_ hn0; replace hP := hi_ hP2; replace p0 := hP.out.p0; replace q0 := hP.out.q0; replace x1 := hP.out.par.cell 2; clear hP2 hF2))
 obtain ⟨W7, hW7, b7, hU7⟩ := newB w4 108 #[.int .i64 0, .int .i64 at1, .int .i64 0, .slice none 0 0]
 rw [← hW7]
 replace hT := hi_ (hT.out.below b7 hT.out.lt)
 replace hP := hi_ (hP.out.belowW b7)
 replace hF := hi_ (hF.out.trans (Fr.of_below (L := L) (R := R) b7))
 replace p0 := hP.out.p0
 replace q0 := hP.out.q0
 replace x1 := hP.out.par.cell 2
 have t70 := hU7.cell 0
 have t72 := hU7.cell 2
 have t73 := hU7.cell 3
 refine h3_ hU7 b7 hW7 ?_; clear hU7 b7 hW7; intro hU7 b7 hW7
 go_wp2_with (first | (go_at_call 30; (with_reducible refine ((csk.out _) _ hP.out).mono ?_); rintro e w5 ⟨rfl, hP2, hF2⟩; replace hT := hi_ (hF2.blk hneL.out hneR.out hT.out); replace hF := hi_ (hF.out.trans hF2); replace hP := hi_ hP2; clear hP2 hF2) | (go_at_call 122; (with_reducible refine (ci.out _).mono ?_); rintro e w6 ⟨rfl, hB6⟩; have hT2 := hT.out.below hB6 hT.out.lt; obtain ⟨z0, z1, z2, z3, z4, v0, v1, v2, v3, v4⟩ := hT2.b5; replace hT2 := hi_ hT2; replace hF := hi_ (hF.out.trans (Fr.of_below (L := L) (R := R) hB6)); replace hP := hi_ (hP.out.belowW hB6); clear hB6))
 generalize hWf : World.setCell _ _ _ = Wf
 replace hWf := hWf.symm
 obtain ⟨hb, hg⟩ := set5L hT2.out hWf
 obtain ⟨u0, u1, u2, u3, u4, -⟩ := hb.b5
 have hPf := hi_ (hP.out.grownL hg (by omega) (by omega) (by omega) (fun h0 x hx => by have := hAT.out h0 x hx; omega))
 have hFf := hi_ (hF.out.grownL hg (Nat.le_refl _))
 replace hg := hi_ hg
 replace hWf := hi_ hWf
 clear hb z0 z1 z2 z3 z4 v0 v1 v2 v3 v4
 refine bodyPost_ret (by simp [results, Tryz.results89, go_sem, u0, u1, u2, u3, u4]; try rfl) rfl ?_
 exact ⟨rfl, hPf.out, hFf.out⟩
theorem wp_n1 {n : Int} (hn1 : 1 ≤ n) (hn : n ≤ 8388607) (ht : tokS r = .ok k u) (hk : ¬ k.k = 1) (W : World) (h : PS P L R A c bs d false W r) : Calls Tryz.prog 89 #[.pointer (some ⟨P, 0, none⟩), .int .i64 n] W fun e w' => e = .returned (.agg #[.int .i64 (wholeK false n r).1, .int .i64 n, .slice none 0 0, .slice none 0 0, .slice none 0 0]) ∧ PS P L R A c bs d false w' (wholeK false n r).2 ∧ Fr L R W w' := by
 rw [show wholeK false n r = (2, r) from by unfold wholeK; rw [if_pos ⟨hn1, hn, rfl⟩]; rw [ht]; simp only []; rw [if_neg (fun h => hk h.1)]]
 obtain ⟨W1, hW1, b1, hT⟩ := newB W 32 #[.int .i64 0, .int .i64 0, .slice none 0 0, .slice none 0 0, .slice none 0 0]
 have hP := h.belowW b1
 have hLT := h.L_lt
 have hRT := h.R_lt
 have hPT := h.P_lt
 have hAT := h.a_lt
 have hneL : W.heap.size ≠ L := by omega
 have hneR : W.heap.size ≠ R := by omega
 have hsuf := h.suf
 have cps := hi_ fun W h => ps_pos (P := P) (L := L) (R := R) (A := A) (c := c) (bs := bs) (d := d) (pl := false) (r := r) W h
 have csk := hi_ fun (r2 : Bs) W h => ps_seek (P := P) (L := L) (R := R) (A := A) (c := c) (bs := bs) (d := d) (pl := false) (r := r2) hsuf rfl W h
 obtain ⟨p, hp⟩ : ∃ p : Int, p = (pos bs r : Nat) := ⟨_, rfl⟩
 rw [← hp] at cps csk
 have ci := hi_ fun W => cos_Int n W
 have ct := hi_ fun W h => px_ok (P := P) (L := L) (R := R) (A := A) (c := c) (bs := bs) (d := d) (pl := false) ht rfl W h
 obtain ⟨at1, ha1⟩ : ∃ a : Int, a = (pos bs (blankM false r) : Nat) := ⟨_, rfl⟩
 rw [← ha1] at ct
 replace ha1 := hi_ ha1
 obtain ⟨kk, hkk⟩ : ∃ x, x = k.k := ⟨_, rfl⟩
 obtain ⟨kn, hkn⟩ : ∃ x, x = k.n := ⟨_, rfl⟩
 rw [← hkk, ← hkn] at ct
 rw [← hkk] at hk
 replace hkk := hi_ hkk
 replace hkn := hi_ hkn
 have p0 := hP.p0
 have q0 := hP.q0
 have x1 := hP.par.cell 2
 have hF := hi_ (Fr.of_below (L := L) (R := R) b1)
 refine h8_ hp hsuf hP hT b1 hneL hneR hAT ?_; clear hp hsuf hP hT b1 hneL hneR hAT; intro hp hsuf hP hT b1 hneL hneR hAT
 clear h
 go_enter Tryz.func89, Tryz.ntmps89
 go_upto_region 1 with fail
 rw [← hW1]
 replace hW1 := hi_ hW1
 go_upto_region 4 with (first | (go_at_call 14; (with_reducible refine (cps.out _ hP.out).mono ?_); rintro e w2 ⟨rfl, rfl⟩) | (go_at_call 82; (with_reducible refine (ct.out _ hP.out).mono ?_); rintro e w4 ⟨a2, c2, rfl, hO, hP2, hF2⟩; replace hT := hi_ (hF2.blk hneL.out hneR.out hT.out); replace hF := hi_ (hF.out.trans hF2); replace hO := hi_ hO; replace hP := hi_ hP2; replace p0 := hP.out.p0; replace q0 := hP.out.q0; replace x1 := hP.out.par.cell 2; clear hP2 hF2))
 obtain ⟨W7, hW7, b7, hU7⟩ := newB w4 108 #[.int .i64 kk, .int .i64 at1, .int .i64 kn, .slice a2 k.b.length c2]
 rw [← hW7]
 replace hT := hi_ (hT.out.below b7 hT.out.lt)
 replace hP := hi_ (hP.out.belowW b7)
 replace hF := hi_ (hF.out.trans (Fr.of_below (L := L) (R := R) b7))
 replace p0 := hP.out.p0
 replace q0 := hP.out.q0
 replace x1 := hP.out.par.cell 2
 have t70 := hU7.cell 0
 have t72 := hU7.cell 2
 have t73 := hU7.cell 3
 replace hO := hi_ (hO.out.below b7)
 refine h3_ hU7 b7 hW7 ?_; clear hU7 b7 hW7; intro hU7 b7 hW7
 go_wp2_with (first | (go_at_call 30; (with_reducible refine ((csk.out _) _ hP.out).mono ?_); rintro e w5 ⟨rfl, hP2, hF2⟩; replace hT := hi_ (hF2.blk hneL.out hneR.out hT.out); replace hF := hi_ (hF.out.trans hF2); replace hP := hi_ hP2; clear hP2 hF2) | (go_at_call 122; (with_reducible refine (ci.out _).mono ?_); rintro e w6 ⟨rfl, hB6⟩; have hT2 := hT.out.below hB6 hT.out.lt; obtain ⟨z0, z1, z2, z3, z4, v0, v1, v2, v3, v4⟩ := hT2.b5; replace hT2 := hi_ hT2; replace hF := hi_ (hF.out.trans (Fr.of_below (L := L) (R := R) hB6)); replace hP := hi_ (hP.out.belowW hB6); clear hB6))
 generalize hWf : World.setCell _ _ _ = Wf
 replace hWf := hWf.symm
 obtain ⟨hb, hg⟩ := set5L hT2.out hWf
 obtain ⟨u0, u1, u2, u3, u4, -⟩ := hb.b5
 have hPf := hi_ (hP.out.grownL hg (by omega) (by omega) (by omega) (fun h0 x hx => by have := hAT.out h0 x hx; omega))
 have hFf := hi_ (hF.out.grownL hg (Nat.le_refl _))
 replace hg := hi_ hg
 replace hWf := hi_ hWf
 clear hb z0 z1 z2 z3 z4 v0 v1 v2 v3 v4
 refine bodyPost_ret (by simp [results, Tryz.results89, go_sem, u0, u1, u2, u3, u4]; try rfl) rfl ?_
 exact ⟨rfl, hPf.out, hFf.out⟩
theorem wp_n2 {n : Int} (hn1 : 1 ≤ n) (hn : n ≤ 8388607) (ht : tokS r = .ok k u) (hk : k.k = 1) (hk0 : ¬ k.n = 0) (W : World) (h : PS P L R A c bs d false W r) : Calls Tryz.prog 89 #[.pointer (some ⟨P, 0, none⟩), .int .i64 n] W fun e w' => e = .returned (.agg #[.int .i64 (wholeK false n r).1, .int .i64 n, .slice none 0 0, .slice none 0 0, .slice none 0 0]) ∧ PS P L R A c bs d false w' (wholeK false n r).2 ∧ Fr L R W w' := by
 rw [show wholeK false n r = (2, r) from by unfold wholeK; rw [if_pos ⟨hn1, hn, rfl⟩]; rw [ht]; simp only []; rw [if_neg (fun h => hk0 h.2)]]
 obtain ⟨W1, hW1, b1, hT⟩ := newB W 32 #[.int .i64 0, .int .i64 0, .slice none 0 0, .slice none 0 0, .slice none 0 0]
 have hP := h.belowW b1
 have hLT := h.L_lt
 have hRT := h.R_lt
 have hPT := h.P_lt
 have hAT := h.a_lt
 have hneL : W.heap.size ≠ L := by omega
 have hneR : W.heap.size ≠ R := by omega
 have hsuf := h.suf
 have cps := hi_ fun W h => ps_pos (P := P) (L := L) (R := R) (A := A) (c := c) (bs := bs) (d := d) (pl := false) (r := r) W h
 have csk := hi_ fun (r2 : Bs) W h => ps_seek (P := P) (L := L) (R := R) (A := A) (c := c) (bs := bs) (d := d) (pl := false) (r := r2) hsuf rfl W h
 obtain ⟨p, hp⟩ : ∃ p : Int, p = (pos bs r : Nat) := ⟨_, rfl⟩
 rw [← hp] at cps csk
 have ci := hi_ fun W => cos_Int n W
 have ct := hi_ fun W h => px_ok (P := P) (L := L) (R := R) (A := A) (c := c) (bs := bs) (d := d) (pl := false) ht rfl W h
 obtain ⟨at1, ha1⟩ : ∃ a : Int, a = (pos bs (blankM false r) : Nat) := ⟨_, rfl⟩
 rw [← ha1] at ct
 replace ha1 := hi_ ha1
 obtain ⟨kk, hkk⟩ : ∃ x, x = k.k := ⟨_, rfl⟩
 obtain ⟨kn, hkn⟩ : ∃ x, x = k.n := ⟨_, rfl⟩
 rw [← hkk, ← hkn] at ct
 rw [← hkk] at hk
 rw [← hkn] at hk0
 replace hkk := hi_ hkk
 replace hkn := hi_ hkn
 subst hk
 have p0 := hP.p0
 have q0 := hP.q0
 have x1 := hP.par.cell 2
 have hF := hi_ (Fr.of_below (L := L) (R := R) b1)
 refine h8_ hp hsuf hP hT b1 hneL hneR hAT ?_; clear hp hsuf hP hT b1 hneL hneR hAT; intro hp hsuf hP hT b1 hneL hneR hAT
 clear h
 go_enter Tryz.func89, Tryz.ntmps89
 go_upto_region 1 with fail
 rw [← hW1]
 replace hW1 := hi_ hW1
 go_upto_region 4 with (first | (go_at_call 14; (with_reducible refine (cps.out _ hP.out).mono ?_); rintro e w2 ⟨rfl, rfl⟩) | (go_at_call 82; (with_reducible refine (ct.out _ hP.out).mono ?_); rintro e w4 ⟨a2, c2, rfl, hO, hP2, hF2⟩; replace hT := hi_ (hF2.blk hneL.out hneR.out hT.out); replace hF := hi_ (hF.out.trans hF2); replace hO := hi_ hO; replace hP := hi_ hP2; replace p0 := hP.out.p0; replace q0 := hP.out.q0; replace x1 := hP.out.par.cell 2; clear hP2 hF2))
 obtain ⟨W7, hW7, b7, hU7⟩ := newB w4 108 #[.int .i64 1, .int .i64 at1, .int .i64 kn, .slice a2 k.b.length c2]
 rw [← hW7]
 replace hT := hi_ (hT.out.below b7 hT.out.lt)
 replace hP := hi_ (hP.out.belowW b7)
 replace hF := hi_ (hF.out.trans (Fr.of_below (L := L) (R := R) b7))
 replace p0 := hP.out.p0
 replace q0 := hP.out.q0
 replace x1 := hP.out.par.cell 2
 have t70 := hU7.cell 0
 have t72 := hU7.cell 2
 have t73 := hU7.cell 3
 replace hO := hi_ (hO.out.below b7)
 refine h3_ hU7 b7 hW7 ?_; clear hU7 b7 hW7; intro hU7 b7 hW7
 go_wp2_with (first | (go_at_call 30; (with_reducible refine ((csk.out _) _ hP.out).mono ?_); rintro e w5 ⟨rfl, hP2, hF2⟩; replace hT := hi_ (hF2.blk hneL.out hneR.out hT.out); replace hF := hi_ (hF.out.trans hF2); replace hP := hi_ hP2; clear hP2 hF2) | (go_at_call 122; (with_reducible refine (ci.out _).mono ?_); rintro e w6 ⟨rfl, hB6⟩; have hT2 := hT.out.below hB6 hT.out.lt; obtain ⟨z0, z1, z2, z3, z4, v0, v1, v2, v3, v4⟩ := hT2.b5; replace hT2 := hi_ hT2; replace hF := hi_ (hF.out.trans (Fr.of_below (L := L) (R := R) hB6)); replace hP := hi_ (hP.out.belowW hB6); clear hB6))
 generalize hWf : World.setCell _ _ _ = Wf
 replace hWf := hWf.symm
 obtain ⟨hb, hg⟩ := set5L hT2.out hWf
 obtain ⟨u0, u1, u2, u3, u4, -⟩ := hb.b5
 have hPf := hi_ (hP.out.grownL hg (by omega) (by omega) (by omega) (fun h0 x hx => by have := hAT.out h0 x hx; omega))
 have hFf := hi_ (hF.out.grownL hg (Nat.le_refl _))
 replace hg := hi_ hg
 replace hWf := hi_ hWf
 clear hb z0 z1 z2 z3 z4 v0 v1 v2 v3 v4
 refine bodyPost_ret (by simp [results, Tryz.results89, go_sem, u0, u1, u2, u3, u4]; try rfl) rfl ?_
 exact ⟨rfl, hPf.out, hFf.out⟩
theorem wp_e2 {n : Int} (hn1 : 1 ≤ n) (hn : n ≤ 8388607) {er : Int} (ht : tokS r = .ok k u) (hk : k.k = 1) (hk0 : k.n = 0) (ht2 : tokS u = .err er v) (W : World) (h : PS P L R A c bs d false W r) : Calls Tryz.prog 89 #[.pointer (some ⟨P, 0, none⟩), .int .i64 n] W fun e w' => e = .returned (.agg #[.int .i64 (wholeK false n r).1, .int .i64 n, .slice none 0 0, .slice none 0 0, .slice none 0 0]) ∧ PS P L R A c bs d false w' (wholeK false n r).2 ∧ Fr L R W w' := by
 rw [show wholeK false n r = (2, r) from by unfold wholeK; rw [if_pos ⟨hn1, hn, rfl⟩]; rw [ht]; simp only []; rw [if_pos ⟨hk, hk0⟩]; simp only [ht2]]
 obtain ⟨W1, hW1, b1, hT⟩ := newB W 32 #[.int .i64 0, .int .i64 0, .slice none 0 0, .slice none 0 0, .slice none 0 0]
 have hP := h.belowW b1
 have hLT := h.L_lt
 have hRT := h.R_lt
 have hPT := h.P_lt
 have hAT := h.a_lt
 have hneL : W.heap.size ≠ L := by omega
 have hneR : W.heap.size ≠ R := by omega
 have hsuf := h.suf
 have cps := hi_ fun W h => ps_pos (P := P) (L := L) (R := R) (A := A) (c := c) (bs := bs) (d := d) (pl := false) (r := r) W h
 have csk := hi_ fun (r2 : Bs) W h => ps_seek (P := P) (L := L) (R := R) (A := A) (c := c) (bs := bs) (d := d) (pl := false) (r := r2) hsuf rfl W h
 obtain ⟨p, hp⟩ : ∃ p : Int, p = (pos bs r : Nat) := ⟨_, rfl⟩
 rw [← hp] at cps csk
 have ci := hi_ fun W => cos_Int n W
 have ct := hi_ fun W h => px_ok (P := P) (L := L) (R := R) (A := A) (c := c) (bs := bs) (d := d) (pl := false) ht rfl W h
 obtain ⟨at1, ha1⟩ : ∃ a : Int, a = (pos bs (blankM false r) : Nat) := ⟨_, rfl⟩
 rw [← ha1] at ct
 replace ha1 := hi_ ha1
 obtain ⟨kk, hkk⟩ : ∃ x, x = k.k := ⟨_, rfl⟩
 obtain ⟨kn, hkn⟩ : ∃ x, x = k.n := ⟨_, rfl⟩
 rw [← hkk, ← hkn] at ct
 rw [← hkk] at hk
 rw [← hkn] at hk0
 replace hkk := hi_ hkk
 replace hkn := hi_ hkn
 subst hk
 subst hk0
 have ct2 := hi_ fun W h => px_err (P := P) (L := L) (R := R) (A := A) (c := c) (bs := bs) (d := d) (pl := false) ht2 rfl W h
 obtain ⟨at2, ha2⟩ : ∃ a : Int, a = (pos bs (blankM false u) : Nat) := ⟨_, rfl⟩
 rw [← ha2] at ct2
 replace ha2 := hi_ ha2
 have p0 := hP.p0
 have q0 := hP.q0
 have x1 := hP.par.cell 2
 have hF := hi_ (Fr.of_below (L := L) (R := R) b1)
 refine h8_ hp hsuf hP hT b1 hneL hneR hAT ?_; clear hp hsuf hP hT b1 hneL hneR hAT; intro hp hsuf hP hT b1 hneL hneR hAT
 clear h
 go_enter Tryz.func89, Tryz.ntmps89
 go_upto_region 1 with fail
 rw [← hW1]
 replace hW1 := hi_ hW1
 go_upto_region 4 with (first | (go_at_call 14; (with_reducible refine (cps.out _ hP.out).mono ?_); rintro e w2 ⟨rfl, rfl⟩) | (go_at_call 82; (with_reducible refine (ct.out _ hP.out).mono ?_); rintro e w4 ⟨a2, c2, rfl, hO, hP2, hF2⟩; replace hT := hi_ (hF2.blk hneL.out hneR.out hT.out); replace hF := hi_ (hF.out.trans hF2); replace hO := hi_ hO; replace hP := hi_ hP2; replace p0 := hP.out.p0; replace q0 := hP.out.q0; replace x1 := hP.out.par.cell 2; clear hP2 hF2))
 obtain ⟨W7, hW7, b7, hU7⟩ := newB w4 108 #[.int .i64 1, .int .i64 at1, .int .i64 0, .slice a2 k.b.length c2]
 rw [← hW7]
 replace hT := hi_ (hT.out.below b7 hT.out.lt)
 replace hP := hi_ (hP.out.belowW b7)
 replace hF := hi_ (hF.out.trans (Fr.of_below (L := L) (R := R) b7))
 replace p0 := hP.out.p0
 replace q0 := hP.out.q0
 replace x1 := hP.out.par.cell 2
 have t70 := hU7.cell 0
 have t72 := hU7.cell 2
 have t73 := hU7.cell 3
 replace hO := hi_ (hO.out.below b7)
 refine h3_ hU7 b7 hW7 ?_; clear hU7 b7 hW7; intro hU7 b7 hW7
 go_upto_region 6 with (first | (go_at_call 82; (with_reducible refine (ct2.out _ hP.out).mono ?_); rintro e w4 ⟨hn0, rfl, hP2, hF2⟩; replace hT := hi_ (hF2.blk hneL.out hneR.out hT.out); replace hF := hi_ (hF.out.trans hF2); have hnb := bne_iff_ne.2 hn0; have hnb2 := beq_eq_false_iff_ne.2 hn0; replace hn0 := hi_ hn0; replace hP := hi_ hP2; replace p0 := hP.out.p0; replace q0 := hP.out.q0; replace x1 := hP.out.par.cell 2; clear hP2 hF2))
 obtain ⟨W8, hW8, b8, hU8⟩ := newB w4 108 #[.int .i64 0, .int .i64 at2, .int .i64 0, .slice none 0 0]
 rw [← hW8]
 replace hT := hi_ (hT.out.below b8 hT.out.lt)
 replace hP := hi_ (hP.out.belowW b8)
 replace hF := hi_ (hF.out.trans (Fr.of_below (L := L) (R := R) b8))
 replace p0 := hP.out.p0
 replace q0 := hP.out.q0
 replace x1 := hP.out.par.cell 2
 have t80 := hU8.cell 0
 have t82 := hU8.cell 2
 have t83 := hU8.cell 3
 refine h3_ hU8 b8 hW8 ?_; clear hU8 b8 hW8; intro hU8 b8 hW8
 go_wp2_with (first | (go_at_call 30; (with_reducible refine ((csk.out _) _ hP.out).mono ?_); rintro e w5 ⟨rfl, hP2, hF2⟩; replace hT := hi_ (hF2.blk hneL.out hneR.out hT.out); replace hF := hi_ (hF.out.trans hF2); replace hP := hi_ hP2; clear hP2 hF2) | (go_at_call 122; (with_reducible refine (ci.out _).mono ?_); rintro e w6 ⟨rfl, hB6⟩; have hT2 := hT.out.below hB6 hT.out.lt; obtain ⟨z0, z1, z2, z3, z4, v0, v1, v2, v3, v4⟩ := hT2.b5; replace hT2 := hi_ hT2; replace hF := hi_ (hF.out.trans (Fr.of_below (L := L) (R := R) hB6)); replace hP := hi_ (hP.out.belowW hB6); clear hB6))
 generalize hWf : World.setCell _ _ _ = Wf
 replace hWf := hWf.symm
 obtain ⟨hb, hg⟩ := set5L hT2.out hWf
 obtain ⟨u0, u1, u2, u3, u4, -⟩ := hb.b5
 have hPf := hi_ (hP.out.grownL hg (by omega) (by omega) (by omega) (fun h0 x hx => by have := hAT.out h0 x hx; omega))
 have hFf := hi_ (hF.out.grownL hg (Nat.le_refl _))
 replace hg := hi_ hg
 replace hWf := hi_ hWf
 clear hb z0 z1 z2 z3 z4 v0 v1 v2 v3 v4
 refine bodyPost_ret (by simp [results, Tryz.results89, go_sem, u0, u1, u2, u3, u4]; try rfl) rfl ?_
 exact ⟨rfl, hPf.out, hFf.out⟩
theorem wp_n3 {n : Int} (hn1 : 1 ≤ n) (hn : n ≤ 8388607) (ht : tokS r = .ok k u) (hk : k.k = 1) (hk0 : k.n = 0) (ht2 : tokS u = .ok s v) (hs : ¬ s.k = 9) (W : World) (h : PS P L R A c bs d false W r) : Calls Tryz.prog 89 #[.pointer (some ⟨P, 0, none⟩), .int .i64 n] W fun e w' => e = .returned (.agg #[.int .i64 (wholeK false n r).1, .int .i64 n, .slice none 0 0, .slice none 0 0, .slice none 0 0]) ∧ PS P L R A c bs d false w' (wholeK false n r).2 ∧ Fr L R W w' := by
 rw [show wholeK false n r = (2, r) from by unfold wholeK; rw [if_pos ⟨hn1, hn, rfl⟩]; rw [ht]; simp only []; rw [if_pos ⟨hk, hk0⟩]; simp only [ht2]; rw [if_neg (fun h => hs h.1)]]
 obtain ⟨W1, hW1, b1, hT⟩ := newB W 32 #[.int .i64 0, .int .i64 0, .slice none 0 0, .slice none 0 0, .slice none 0 0]
 have hP := h.belowW b1
 have hLT := h.L_lt
 have hRT := h.R_lt
 have hPT := h.P_lt
 have hAT := h.a_lt
 have hneL : W.heap.size ≠ L := by omega
 have hneR : W.heap.size ≠ R := by omega
 have hsuf := h.suf
 have cps := hi_ fun W h => ps_pos (P := P) (L := L) (R := R) (A := A) (c := c) (bs := bs) (d := d) (pl := false) (r := r) W h
 have csk := hi_ fun (r2 : Bs) W h => ps_seek (P := P) (L := L) (R := R) (A := A) (c := c) (bs := bs) (d := d) (pl := false) (r := r2) hsuf rfl W h
 obtain ⟨p, hp⟩ : ∃ p : Int, p = (pos bs r : Nat) := ⟨_, rfl⟩
 rw [← hp] at cps csk
 have ci := hi_ fun W => cos_Int n W
 have ct := hi_ fun W h => px_ok (P := P) (L := L) (R := R) (A := A) (c := c) (bs := bs) (d := d) (pl := false) ht rfl W h
 obtain ⟨at1, ha1⟩ : ∃ a : Int, a = (pos bs (blankM false r) : Nat) := ⟨_, rfl⟩
 rw [← ha1] at ct
 replace ha1 := hi_ ha1
 obtain ⟨kk, hkk⟩ : ∃ x, x = k.k := ⟨_, rfl⟩
 obtain ⟨kn, hkn⟩ : ∃ x, x = k.n := ⟨_, rfl⟩
 rw [← hkk, ← hkn] at ct
 rw [← hkk] at hk
 rw [← hkn] at hk0
 replace hkk := hi_ hkk
 replace hkn := hi_ hkn
 subst hk
 subst hk0
 have ct2 := hi_ fun W h => px_ok (P := P) (L := L) (R := R) (A := A) (c := c) (bs := bs) (d := d) (pl := false) ht2 rfl W h
 obtain ⟨at2, ha2⟩ : ∃ a : Int, a = (pos bs (blankM false u) : Nat) := ⟨_, rfl⟩
 rw [← ha2] at ct2
 replace ha2 := hi_ ha2
 obtain ⟨sk, hsk⟩ : ∃ x, x = s.k := ⟨_, rfl⟩
 rw [← hsk] at ct2 hs
 replace hsk := hi_ hsk
 have p0 := hP.p0
 have q0 := hP.q0
 have x1 := hP.par.cell 2
 have hF := hi_ (Fr.of_below (L := L) (R := R) b1)
 refine h8_ hp hsuf hP hT b1 hneL hneR hAT ?_; clear hp hsuf hP hT b1 hneL hneR hAT; intro hp hsuf hP hT b1 hneL hneR hAT
 clear h
 go_enter Tryz.func89, Tryz.ntmps89
 go_upto_region 1 with fail
 rw [← hW1]
 replace hW1 := hi_ hW1
 go_upto_region 4 with (first | (go_at_call 14; (with_reducible refine (cps.out _ hP.out).mono ?_); rintro e w2 ⟨rfl, rfl⟩) | (go_at_call 82; (with_reducible refine (ct.out _ hP.out).mono ?_); rintro e w4 ⟨a2, c2, rfl, hO, hP2, hF2⟩; replace hT := hi_ (hF2.blk hneL.out hneR.out hT.out); replace hF := hi_ (hF.out.trans hF2); replace hO := hi_ hO; replace hP := hi_ hP2; replace p0 := hP.out.p0; replace q0 := hP.out.q0; replace x1 := hP.out.par.cell 2; clear hP2 hF2))
 obtain ⟨W7, hW7, b7, hU7⟩ := newB w4 108 #[.int .i64 1, .int .i64 at1, .int .i64 0, .slice a2 k.b.length c2]
 rw [← hW7]
 replace hT := hi_ (hT.out.below b7 hT.out.lt)
 replace hP := hi_ (hP.out.belowW b7)
 replace hF := hi_ (hF.out.trans (Fr.of_below (L := L) (R := R) b7))
 replace p0 := hP.out.p0
 replace q0 := hP.out.q0
 replace x1 := hP.out.par.cell 2
 have t70 := hU7.cell 0
 have t72 := hU7.cell 2
 have t73 := hU7.cell 3
 replace hO := hi_ (hO.out.below b7)
 refine h3_ hU7 b7 hW7 ?_; clear hU7 b7 hW7; intro hU7 b7 hW7
 go_upto_region 6 with (first | (go_at_call 82; (with_reducible refine (ct2.out _ hP.out).mono ?_); rintro e w4 ⟨a2, c2, rfl, hO, hP2, hF2⟩; replace hT := hi_ (hF2.blk hneL.out hneR.out hT.out); replace hF := hi_ (hF.out.trans hF2); replace hO := hi_ hO; replace hP := hi_ hP2; replace p0 := hP.out.p0; replace q0 := hP.out.q0; replace x1 := hP.out.par.cell 2; clear hP2 hF2))
 obtain ⟨W8, hW8, b8, hU8⟩ := newB w4 108 #[.int .i64 sk, .int .i64 at2, .int .i64 s.n, .slice a2 s.b.length c2]
 rw [← hW8]
 replace hT := hi_ (hT.out.below b8 hT.out.lt)
 replace hP := hi_ (hP.out.belowW b8)
 replace hF := hi_ (hF.out.trans (Fr.of_below (L := L) (R := R) b8))
 replace p0 := hP.out.p0
 replace q0 := hP.out.q0
 replace x1 := hP.out.par.cell 2
 have t80 := hU8.cell 0
 have t82 := hU8.cell 2
 have t83 := hU8.cell 3
 replace hO := hi_ (hO.out.below b8)
 refine h3_ hU8 b8 hW8 ?_; clear hU8 b8 hW8; intro hU8 b8 hW8
 go_wp2_with (first | (go_at_call 30; (with_reducible refine ((csk.out _) _ hP.out).mono ?_); rintro e w5 ⟨rfl, hP2, hF2⟩; replace hT := hi_ (hF2.blk hneL.out hneR.out hT.out); replace hF := hi_ (hF.out.trans hF2); replace hP := hi_ hP2; clear hP2 hF2) | (go_at_call 122; (with_reducible refine (ci.out _).mono ?_); rintro e w6 ⟨rfl, hB6⟩; have hT2 := hT.out.below hB6 hT.out.lt; obtain ⟨z0, z1, z2, z3, z4, v0, v1, v2, v3, v4⟩ := hT2.b5; replace hT2 := hi_ hT2; replace hF := hi_ (hF.out.trans (Fr.of_below (L := L) (R := R) hB6)); replace hP := hi_ (hP.out.belowW hB6); clear hB6))
 generalize hWf : World.setCell _ _ _ = Wf
 replace hWf := hWf.symm
 obtain ⟨hb, hg⟩ := set5L hT2.out hWf
 obtain ⟨u0, u1, u2, u3, u4, -⟩ := hb.b5
 have hPf := hi_ (hP.out.grownL hg (by omega) (by omega) (by omega) (fun h0 x hx => by have := hAT.out h0 x hx; omega))
 have hFf := hi_ (hF.out.grownL hg (Nat.le_refl _))
 replace hg := hi_ hg
 replace hWf := hi_ hWf
 clear hb z0 z1 z2 z3 z4 v0 v1 v2 v3 v4
 refine bodyPost_ret (by simp [results, Tryz.results89, go_sem, u0, u1, u2, u3, u4]; try rfl) rfl ?_
 exact ⟨rfl, hPf.out, hFf.out⟩
theorem wp_n4 {n : Int} (hn1 : 1 ≤ n) (hn : n ≤ 8388607) (ht : tokS r = .ok k u) (hk : k.k = 1) (hk0 : k.n = 0) (ht2 : tokS u = .ok s v) (hs : s.k = 9) (hsb : ¬ s.b = [82]) (W : World) (h : PS P L R A c bs d false W r) : Calls Tryz.prog 89 #[.pointer (some ⟨P, 0, none⟩), .int .i64 n] W fun e w' => e = .returned (.agg #[.int .i64 (wholeK false n r).1, .int .i64 n, .slice none 0 0, .slice none 0 0, .slice none 0 0]) ∧ PS P L R A c bs d false w' (wholeK false n r).2 ∧ Fr L R W w' := by
 rw [show wholeK false n r = (2, r) from by unfold wholeK; rw [if_pos ⟨hn1, hn, rfl⟩]; rw [ht]; simp only []; rw [if_pos ⟨hk, hk0⟩]; simp only [ht2]; rw [if_neg (fun h => hsb h.2)]]
 obtain ⟨W1, hW1, b1, hT⟩ := newB W 32 #[.int .i64 0, .int .i64 0, .slice none 0 0, .slice none 0 0, .slice none 0 0]
 have hP := h.belowW b1
 have hLT := h.L_lt
 have hRT := h.R_lt
 have hPT := h.P_lt
 have hAT := h.a_lt
 have hneL : W.heap.size ≠ L := by omega
 have hneR : W.heap.size ≠ R := by omega
 have hsuf := h.suf
 have cps := hi_ fun W h => ps_pos (P := P) (L := L) (R := R) (A := A) (c := c) (bs := bs) (d := d) (pl := false) (r := r) W h
 have csk := hi_ fun (r2 : Bs) W h => ps_seek (P := P) (L := L) (R := R) (A := A) (c := c) (bs := bs) (d := d) (pl := false) (r := r2) hsuf rfl W h
 obtain ⟨p, hp⟩ : ∃ p : Int, p = (pos bs r : Nat) := ⟨_, rfl⟩
 rw [← hp] at cps csk
 have ci := hi_ fun W => cos_Int n W
 have ct := hi_ fun W h => px_ok (P := P) (L := L) (R := R) (A := A) (c := c) (bs := bs) (d := d) (pl := false) ht rfl W h
 obtain ⟨at1, ha1⟩ : ∃ a : Int, a = (pos bs (blankM false r) : Nat) := ⟨_, rfl⟩
 rw [← ha1] at ct
 replace ha1 := hi_ ha1
 obtain ⟨kk, hkk⟩ : ∃ x, x = k.k := ⟨_, rfl⟩
 obtain ⟨kn, hkn⟩ : ∃ x, x = k.n := ⟨_, rfl⟩
 rw [← hkk, ← hkn] at ct
 rw [← hkk] at hk
 rw [← hkn] at hk0
 replace hkk := hi_ hkk
 replace hkn := hi_ hkn
 subst hk
 subst hk0
 have ct2 := hi_ fun W h => px_ok (P := P) (L := L) (R := R) (A := A) (c := c) (bs := bs) (d := d) (pl := false) ht2 rfl W h
 obtain ⟨at2, ha2⟩ : ∃ a : Int, a = (pos bs (blankM false u) : Nat) := ⟨_, rfl⟩
 rw [← ha2] at ct2
 replace ha2 := hi_ ha2
 obtain ⟨sk, hsk⟩ : ∃ x, x = s.k := ⟨_, rfl⟩
 rw [← hsk] at ct2 hs
 replace hsk := hi_ hsk
 subst hs
 have e3 := word_eqL s.b [82]
 obtain ⟨S, hSS⟩ : ∃ S : ByteArray, S = ⟨s.b.toArray⟩ := ⟨_, rfl⟩
 rw [← hSS] at e3
 rw [decide_eq_false hsb] at e3
 replace hsb := hi_ hsb
 replace hSS := hi_ hSS
 have p0 := hP.p0
 have q0 := hP.q0
 have x1 := hP.par.cell 2
 have hF := hi_ (Fr.of_below (L := L) (R := R) b1)
 refine h8_ hp hsuf hP hT b1 hneL hneR hAT ?_; clear hp hsuf hP hT b1 hneL hneR hAT; intro hp hsuf hP hT b1 hneL hneR hAT
 clear h
 go_enter Tryz.func89, Tryz.ntmps89
 go_upto_region 1 with fail
 rw [← hW1]
 replace hW1 := hi_ hW1
 go_upto_region 4 with (first | (go_at_call 14; (with_reducible refine (cps.out _ hP.out).mono ?_); rintro e w2 ⟨rfl, rfl⟩) | (go_at_call 82; (with_reducible refine (ct.out _ hP.out).mono ?_); rintro e w4 ⟨a2, c2, rfl, hO, hP2, hF2⟩; replace hT := hi_ (hF2.blk hneL.out hneR.out hT.out); replace hF := hi_ (hF.out.trans hF2); replace hO := hi_ hO; replace hP := hi_ hP2; replace p0 := hP.out.p0; replace q0 := hP.out.q0; replace x1 := hP.out.par.cell 2; clear hP2 hF2))
 obtain ⟨W7, hW7, b7, hU7⟩ := newB w4 108 #[.int .i64 1, .int .i64 at1, .int .i64 0, .slice a2 k.b.length c2]
 rw [← hW7]
 replace hT := hi_ (hT.out.below b7 hT.out.lt)
 replace hP := hi_ (hP.out.belowW b7)
 replace hF := hi_ (hF.out.trans (Fr.of_below (L := L) (R := R) b7))
 replace p0 := hP.out.p0
 replace q0 := hP.out.q0
 replace x1 := hP.out.par.cell 2
 have t70 := hU7.cell 0
 have t72 := hU7.cell 2
 have t73 := hU7.cell 3
 replace hO := hi_ (hO.out.below b7)
 refine h3_ hU7 b7 hW7 ?_; clear hU7 b7 hW7; intro hU7 b7 hW7
 go_upto_region 6 with (first | (go_at_call 82; (with_reducible refine (ct2.out _ hP.out).mono ?_); rintro e w4 ⟨a2, c2, rfl, hO, hP2, hF2⟩; replace hT := hi_ (hF2.blk hneL.out hneR.out hT.out); replace hF := hi_ (hF.out.trans hF2); replace hO := hi_ hO; replace hP := hi_ hP2; replace p0 := hP.out.p0; replace q0 := hP.out.q0; replace x1 := hP.out.par.cell 2; clear hP2 hF2))
 obtain ⟨W8, hW8, b8, hU8⟩ := newB w4 108 #[.int .i64 9, .int .i64 at2, .int .i64 s.n, .slice a2 s.b.length c2]
 rw [← hW8]
 replace hT := hi_ (hT.out.below b8 hT.out.lt)
 replace hP := hi_ (hP.out.belowW b8)
 replace hF := hi_ (hF.out.trans (Fr.of_below (L := L) (R := R) b8))
 replace p0 := hP.out.p0
 replace q0 := hP.out.q0
 replace x1 := hP.out.par.cell 2
 have t80 := hU8.cell 0
 have t82 := hU8.cell 2
 have t83 := hU8.cell 3
 replace hO := hi_ (hO.out.below b8)
 refine h3_ hU8 b8 hW8 ?_; clear hU8 b8 hW8; intro hU8 b8 hW8
 have hcv := conv_ownL hO.out
 rw [← hSS.out] at hcv
 go_wp2_with (first | (go_at_call 30; (with_reducible refine ((csk.out _) _ hP.out).mono ?_); rintro e w5 ⟨rfl, hP2, hF2⟩; replace hT := hi_ (hF2.blk hneL.out hneR.out hT.out); replace hF := hi_ (hF.out.trans hF2); replace hP := hi_ hP2; clear hP2 hF2) | (go_at_call 122; (with_reducible refine (ci.out _).mono ?_); rintro e w6 ⟨rfl, hB6⟩; have hT2 := hT.out.below hB6 hT.out.lt; obtain ⟨z0, z1, z2, z3, z4, v0, v1, v2, v3, v4⟩ := hT2.b5; replace hT2 := hi_ hT2; replace hF := hi_ (hF.out.trans (Fr.of_below (L := L) (R := R) hB6)); replace hP := hi_ (hP.out.belowW hB6); clear hB6))
 generalize hWf : World.setCell _ _ _ = Wf
 replace hWf := hWf.symm
 obtain ⟨hb, hg⟩ := set5L hT2.out hWf
 obtain ⟨u0, u1, u2, u3, u4, -⟩ := hb.b5
 have hPf := hi_ (hP.out.grownL hg (by omega) (by omega) (by omega) (fun h0 x hx => by have := hAT.out h0 x hx; omega))
 have hFf := hi_ (hF.out.grownL hg (Nat.le_refl _))
 replace hg := hi_ hg
 replace hWf := hi_ hWf
 clear hb z0 z1 z2 z3 z4 v0 v1 v2 v3 v4
 refine bodyPost_ret (by simp [results, Tryz.results89, go_sem, u0, u1, u2, u3, u4]; try rfl) rfl ?_
 exact ⟨rfl, hPf.out, hFf.out⟩
theorem wp_ref {n : Int} (hn1 : 1 ≤ n) (hn : n ≤ 8388607) (ht : tokS r = .ok k u) (hk : k.k = 1) (hk0 : k.n = 0) (ht2 : tokS u = .ok s v) (hs : s.k = 9) (hsb : s.b = [82]) (W : World) (h : PS P L R A c bs d false W r) : Calls Tryz.prog 89 #[.pointer (some ⟨P, 0, none⟩), .int .i64 n] W fun e w' => e = .returned (.agg #[.int .i64 (wholeK false n r).1, .int .i64 n, .slice none 0 0, .slice none 0 0, .slice none 0 0]) ∧ PS P L R A c bs d false w' (wholeK false n r).2 ∧ Fr L R W w' := by
 rw [show wholeK false n r = (9, v) from by unfold wholeK; rw [if_pos ⟨hn1, hn, rfl⟩]; rw [ht]; simp only []; rw [if_pos ⟨hk, hk0⟩]; simp only [ht2]; rw [if_pos ⟨hs, hsb⟩]]
 obtain ⟨W1, hW1, b1, hT⟩ := newB W 32 #[.int .i64 0, .int .i64 0, .slice none 0 0, .slice none 0 0, .slice none 0 0]
 have hP := h.belowW b1
 have hLT := h.L_lt
 have hRT := h.R_lt
 have hPT := h.P_lt
 have hAT := h.a_lt
 have hneL : W.heap.size ≠ L := by omega
 have hneR : W.heap.size ≠ R := by omega
 have hsuf := h.suf
 have cps := hi_ fun W h => ps_pos (P := P) (L := L) (R := R) (A := A) (c := c) (bs := bs) (d := d) (pl := false) (r := r) W h
 have csk := hi_ fun (r2 : Bs) W h => ps_seek (P := P) (L := L) (R := R) (A := A) (c := c) (bs := bs) (d := d) (pl := false) (r := r2) hsuf rfl W h
 obtain ⟨p, hp⟩ : ∃ p : Int, p = (pos bs r : Nat) := ⟨_, rfl⟩
 rw [← hp] at cps csk
 have ci := hi_ fun W => cos_Int n W
 have ct := hi_ fun W h => px_ok (P := P) (L := L) (R := R) (A := A) (c := c) (bs := bs) (d := d) (pl := false) ht rfl W h
 obtain ⟨at1, ha1⟩ : ∃ a : Int, a = (pos bs (blankM false r) : Nat) := ⟨_, rfl⟩
 rw [← ha1] at ct
 replace ha1 := hi_ ha1
 obtain ⟨kk, hkk⟩ : ∃ x, x = k.k := ⟨_, rfl⟩
 obtain ⟨kn, hkn⟩ : ∃ x, x = k.n := ⟨_, rfl⟩
 rw [← hkk, ← hkn] at ct
 rw [← hkk] at hk
 rw [← hkn] at hk0
 replace hkk := hi_ hkk
 replace hkn := hi_ hkn
 subst hk
 subst hk0
 have ct2 := hi_ fun W h => px_ok (P := P) (L := L) (R := R) (A := A) (c := c) (bs := bs) (d := d) (pl := false) ht2 rfl W h
 obtain ⟨at2, ha2⟩ : ∃ a : Int, a = (pos bs (blankM false u) : Nat) := ⟨_, rfl⟩
 rw [← ha2] at ct2
 replace ha2 := hi_ ha2
 obtain ⟨sk, hsk⟩ : ∃ x, x = s.k := ⟨_, rfl⟩
 rw [← hsk] at ct2 hs
 replace hsk := hi_ hsk
 subst hs
 have e3 := word_eqL s.b [82]
 obtain ⟨S, hSS⟩ : ∃ S : ByteArray, S = ⟨s.b.toArray⟩ := ⟨_, rfl⟩
 rw [← hSS] at e3
 rw [decide_eq_true hsb] at e3
 replace hsb := hi_ hsb
 replace hSS := hi_ hSS
 have cr := hi_ fun W => cos_Ref n W
 have p0 := hP.p0
 have q0 := hP.q0
 have x1 := hP.par.cell 2
 have hF := hi_ (Fr.of_below (L := L) (R := R) b1)
 refine h8_ hp hsuf hP hT b1 hneL hneR hAT ?_; clear hp hsuf hP hT b1 hneL hneR hAT; intro hp hsuf hP hT b1 hneL hneR hAT
 clear h
 go_enter Tryz.func89, Tryz.ntmps89
 go_upto_region 1 with fail
 rw [← hW1]
 replace hW1 := hi_ hW1
 go_upto_region 4 with (first | (go_at_call 14; (with_reducible refine (cps.out _ hP.out).mono ?_); rintro e w2 ⟨rfl, rfl⟩) | (go_at_call 82; (with_reducible refine (ct.out _ hP.out).mono ?_); rintro e w4 ⟨a2, c2, rfl, hO, hP2, hF2⟩; replace hT := hi_ (hF2.blk hneL.out hneR.out hT.out); replace hF := hi_ (hF.out.trans hF2); replace hO := hi_ hO; replace hP := hi_ hP2; replace p0 := hP.out.p0; replace q0 := hP.out.q0; replace x1 := hP.out.par.cell 2; clear hP2 hF2))
 obtain ⟨W7, hW7, b7, hU7⟩ := newB w4 108 #[.int .i64 1, .int .i64 at1, .int .i64 0, .slice a2 k.b.length c2]
 rw [← hW7]
 replace hT := hi_ (hT.out.below b7 hT.out.lt)
 replace hP := hi_ (hP.out.belowW b7)
 replace hF := hi_ (hF.out.trans (Fr.of_below (L := L) (R := R) b7))
 replace p0 := hP.out.p0
 replace q0 := hP.out.q0
 replace x1 := hP.out.par.cell 2
 have t70 := hU7.cell 0
 have t72 := hU7.cell 2
 have t73 := hU7.cell 3
 replace hO := hi_ (hO.out.below b7)
 refine h3_ hU7 b7 hW7 ?_; clear hU7 b7 hW7; intro hU7 b7 hW7
 go_upto_region 6 with (first | (go_at_call 82; (with_reducible refine (ct2.out _ hP.out).mono ?_); rintro e w4 ⟨a2, c2, rfl, hO, hP2, hF2⟩; replace hT := hi_ (hF2.blk hneL.out hneR.out hT.out); replace hF := hi_ (hF.out.trans hF2); replace hO := hi_ hO; replace hP := hi_ hP2; replace p0 := hP.out.p0; replace q0 := hP.out.q0; replace x1 := hP.out.par.cell 2; clear hP2 hF2))
 obtain ⟨W8, hW8, b8, hU8⟩ := newB w4 108 #[.int .i64 9, .int .i64 at2, .int .i64 s.n, .slice a2 s.b.length c2]
 rw [← hW8]
 replace hT := hi_ (hT.out.below b8 hT.out.lt)
 replace hP := hi_ (hP.out.belowW b8)
 replace hF := hi_ (hF.out.trans (Fr.of_below (L := L) (R := R) b8))
 replace p0 := hP.out.p0
 replace q0 := hP.out.q0
 replace x1 := hP.out.par.cell 2
 have t80 := hU8.cell 0
 have t82 := hU8.cell 2
 have t83 := hU8.cell 3
 replace hO := hi_ (hO.out.below b8)
 refine h3_ hU8 b8 hW8 ?_; clear hU8 b8 hW8; intro hU8 b8 hW8
 have hcv := conv_ownL hO.out
 rw [← hSS.out] at hcv
 go_wp2_with (first | (go_at_call 121; (with_reducible refine (cr.out _).mono ?_); rintro e w6 ⟨rfl, hB6⟩; have hT2 := hT.out.below hB6 hT.out.lt; obtain ⟨z0, z1, z2, z3, z4, v0, v1, v2, v3, v4⟩ := hT2.b5; replace hT2 := hi_ hT2; replace hF := hi_ (hF.out.trans (Fr.of_below (L := L) (R := R) hB6)); replace hP := hi_ (hP.out.belowW hB6); clear hB6))
 generalize hWf : World.setCell _ _ _ = Wf
 replace hWf := hWf.symm
 obtain ⟨hb, hg⟩ := set5L hT2.out hWf
 obtain ⟨u0, u1, u2, u3, u4, -⟩ := hb.b5
 have hPf := hi_ (hP.out.grownL hg (by omega) (by omega) (by omega) (fun h0 x hx => by have := hAT.out h0 x hx; omega))
 have hFf := hi_ (hF.out.grownL hg (Nat.le_refl _))
 replace hg := hi_ hg
 replace hWf := hi_ hWf
 clear hb z0 z1 z2 z3 z4 v0 v1 v2 v3 v4
 refine bodyPost_ret (by simp [results, Tryz.results89, go_sem, u0, u1, u2, u3, u4]; try rfl) rfl ?_
 exact ⟨rfl, hPf.out, hFf.out⟩
theorem px_whole {n : Int} (W : World) (h : PS P L R A c bs d pl W r) : Calls Tryz.prog 89 #[.pointer (some ⟨P, 0, none⟩), .int .i64 n] W fun e w' => e = .returned (.agg #[.int .i64 (wholeK pl n r).1, .int .i64 n, .slice none 0 0, .slice none 0 0, .slice none 0 0]) ∧ PS P L R A c bs d pl w' (wholeK pl n r).2 ∧ Fr L R W w' := by
 by_cases h1 : n < 1
 ·exact wp_lo h1 W h
 by_cases h2 : 8388607 < n
 ·exact wp_hi (by omega) h2 W h
 have g1 : 1 ≤ n := by omega
 have g2 : n ≤ 8388607 := by omega
 cases pl with
 | true => exact wp_pl g1 g2 W h
 | false =>
  cases ht : tokS r with
  | err e u => exact wp_e1 g1 g2 ht W h
  | ok k u =>
   by_cases hk : k.k = 1
   ·by_cases hk0 : k.n = 0
    ·cases ht2 : tokS u with
     | err e v => exact wp_e2 g1 g2 ht hk hk0 ht2 W h
     | ok s v =>
      by_cases hs : s.k = 9
      ·by_cases hsb : s.b = [82]
       ·exact wp_ref g1 g2 ht hk hk0 ht2 hs hsb W h
       ·exact wp_n4 g1 g2 ht hk hk0 ht2 hs hsb W h
      ·exact wp_n3 g1 g2 ht hk hk0 ht2 hs W h
    ·exact wp_n2 g1 g2 ht hk hk0 W h
   ·exact wp_n1 g1 g2 ht hk W h
end
section
open Go Go.RowKit Go.Wk
theorem own_new1 (w : World) (x : UInt8) : Own w.heap.size (w.alloc (.cells #[.int .u8 (x.toNat : Int)] 5)) (.slice (some ⟨w.heap.size, 0, none⟩) 1 1) [x] := by
 refine ⟨by simp [valsB], .inr ⟨w.heap.size, 1, #[.int .u8 (x.toNat : Int)], rfl, Nat.le_refl _, ?_, Nat.le_refl _, by unfold maxLen; omega, rfl, rfl⟩⟩
 show (w.heap.push _)[w.heap.size]? = _
 simp
def nameQ (c : UInt8) : Bool := decide (33 ≤ (c.toNat : Int)) && decide ((c.toNat : Int) ≤ 126) && ((c.toNat : Int) != 35) && regB c
theorem nameC_eq (c : UInt8) : nameC c = if nameQ c = true then [c] else 35 :: hexS [c] := by
 unfold nameC nameQ
 have e : (c ≠ 35) ↔ (c.toNat : Int) ≠ 35 := by
  constructor
  ·intro h h2
   exact h (UInt8.toNat_inj.1 (by show c.toNat = 35; omega))
  ·rintro h rfl; exact h rfl
 congr 1
 simp only [Bool.and_eq_true, decide_eq_true_eq, bne_iff_ne, ne_eq]
 have e : (¬ c = 35) ↔ ¬ (c.toNat : Int) = 35 := e
 rw [e]
 apply propext
 constructor
 ·rintro ⟨h1, h2, h3, h4⟩; exact ⟨⟨⟨by omega, by omega⟩, h3⟩, h4⟩
 ·rintro ⟨⟨⟨h1, h2⟩, h3⟩, h4⟩; exact ⟨by omega, by omega, h3, h4⟩
theorem names_take {l : List UInt8} {k : Nat} (h : k < l.length) : 47 :: (l.take (k + 1)).flatMap nameC = (47 :: (l.take k).flatMap nameC) ++ nameC l[k] := by
 rw [List.take_succ_eq_append_getElem h, List.flatMap_append, List.flatMap_cons, List.flatMap_nil, List.append_nil, List.cons_append]
theorem byte_idx (S : ByteArray) (k : Nat) (h : k < S.size) (h2 : k < S.data.toList.length) : S[k]'h = S.data.toList[k] := by
 show S.data[k] = _
 rw [Array.getElem_toList]
theorem prt_Name (S : ByteArray) (w : World) (hl : S.size ≤ 100000000) :
 Calls Tryz.prog 105 #[.string S] w (RO w (nameT S.data.toList)) := by
 have hsz : Hid (S.data.toList.length = S.size) := hi_ Array.length_toList
 go_enter Tryz.func105, Tryz.ntmps105
 go_wp2
 go_loopw [3, 4, 5, 9] (fun s3 _ _ s9 wr => ∃ k : Nat, k ≤ S.size ∧ s9 = .int .i64 k ∧ Own w.heap.size wr s3 (47 :: (S.data.toList.take k).flatMap nameC) ∧ Below w.heap.size w wr) (fun _ _ _ s9 _ => S.size - (RowKit.intOf s9).toNat)
 case atStart => exact ⟨0, by omega, rfl, own_new1 w 47, (Below.refl _ _).alloc (Nat.le_refl _) _⟩
 case round =>
  obtain ⟨k, hk, rfl, hO, hB⟩ := hrel
  have hlen : (47 :: (S.data.toList.take k).flatMap nameC).length ≤ 3 * S.size + 1 := by
   have := nameT_len (S.data.toList.take k)
   unfold nameT at this
   rw [List.length_take] at this
   have := hsz.out
   omega
  have lB := hB.size
  replace hlen := hi_ hlen
  by_cases hkm : k < S.size
  ·have hkl : k < S.data.toList.length := by have := hsz.out; omega
   obtain ⟨x, hx⟩ : ∃ x, x = S.data.toList[k] := ⟨_, rfl⟩
   have hT := names_take hkl
   rw [← hx, nameC_eq] at hT
   have cr := fun w => lex_Regular x w
   have hbi := byte_idx S k hkm hkl
   rw [← hx] at hbi
   have hb1 : Byt (wr.alloc (.cells #[.int .u8 (x.toNat : Int)] 5)) (some ⟨wr.heap.size, 0, none⟩) [x] := byt_new1 wr x 5
   have cd : Calls Tryz.prog 141 #[.slice (some ⟨wr.heap.size, 0, none⟩) 1 1] (wr.alloc (.cells #[.int .u8 (x.toNat : Int)] 5)) fun e w' => e = .returned (.string (bytes (hexS [x]))) ∧ Below (wr.alloc (.cells #[.int .u8 (x.toNat : Int)] 5)).heap.size (wr.alloc (.cells #[.int .u8 (x.toNat : Int)] 5)) w' := prt_digits (some ⟨wr.heap.size, 0, none⟩) 1 [x] (wr.alloc (.cells #[.int .u8 (x.toNat : Int)] 5)) hb1 (by simp)
   have hq : nameQ x = (decide (33 ≤ (x.toNat : Int)) && decide ((x.toNat : Int) ≤ 126) && ((x.toNat : Int) != 35) && regB x) := rfl
   have hx8 : (0 : Int) ≤ (x.toNat : Int) ∧ (x.toNat : Int) ≤ 255 := by have := x.toNat_lt; omega
   obtain ⟨q, hqe⟩ : ∃ q, q = nameQ x := ⟨_, rfl⟩
   obtain ⟨r, hre⟩ : ∃ r, r = regB x := ⟨_, rfl⟩
   have hsk : ((S[k]'hkm).toNat : Int) = (x.toNat : Int) := by rw [hbi]
   rw [← hqe] at hT hq
   rw [← hre] at hq cr
   obtain ⟨xi, hxi⟩ : ∃ n : Int, n = (x.toNat : Int) := ⟨_, rfl⟩
   rw [← hxi] at hx8 hq cr cd hb1 hsk
   refine h6_ hT hB hO hb1 cd hq ?_; clear hT hB hO hb1 cd hq; intro hT hB hO hb1 cd hq
   clear hx hkl hqe hre hxi hbi
   go_upto_region 6 with (fail)
   go_cut [29] (fun s29 wx => s29 = .bool q ∧ wx = wr)
   case first =>
    obtain ⟨z, hz⟩ : ∃ z, z = (xi != 35) := ⟨_, rfl⟩
    have hq2 := hq.out
    rw [← hz] at hq2
    replace hq2 := hi_ hq2
    have hz' := hz.symm
    clear hz
    cases z <;> cases r
    all_goals
     go_wp2_with (go_at_call 55; (with_reducible refine (cr _).mono ?_); rintro e w1 ⟨rfl, rfl⟩)
     all_goals go_meet
     all_goals refine ⟨?_, rfl⟩
     all_goals (have h2 := hq2.out; first | (simp_all; done) | (simp_all; intros; omega))
   case rest =>
    obtain ⟨rfl, rfl⟩ := hcut
    clear hq hsk cr
    cases q with
    | true =>
     go_wp2_with (at_builtin; refine app_b rfl _ _ rfl w.heap.size _ _ rfl (hO.out.below ((Below.refl _ _).alloc (Nat.le_refl _) _)) (some ⟨wc.heap.size, 0, none⟩) 1 1 [x] rfl rfl hb1.out (fun e => (by cases e)) (by have := hlen.out; simp at this ⊢; omega) (by rw [World.size_alloc]; omega) ?_; intro v' w2 hO3 hB3; replace hO3 := hi_ hO3; replace hB3 := hi_ hB3)
     go_roundw
     case rel => exact ⟨k + 1, by omega, by go_num, by rw [hT.out]; exact hO3.out, (hB.out.alloc lB _).trans hB3.out⟩
     case measure => simp [RowKit.intOf]; omega
    | false =>
     have cd := cd.out
     obtain ⟨X, hX⟩ : ∃ X, X = bytes (hexS [x]) := ⟨_, rfl⟩
     have zX : X.size ≤ 2 := by rw [hX, bytes_size, hexS_len]; simp
     rw [← hX] at cd
     have cr := fun W => row2 W ⟨#[35]⟩ X (by have : (⟨#[35]⟩ : ByteArray).size = 1 := rfl; omega)
     replace hX := hi_ hX
     go_wp2_with (first
      | (go_at_call 141; (with_reducible refine cd.mono ?_); rintro e w1 ⟨rfl, hB1⟩; have k2 := cr w1; replace hB1 := hi_ hB1)
      | (go_at_call 102; (with_reducible refine k2.mono ?_); rintro e w2 ⟨v, rfl, hO2, hB2⟩; have hX2 : X.data.toList.length = X.size := Array.length_toList; obtain ⟨A2, c2, rfl, hb2, hA2⟩ := hO2.out (by rw [List.length_append]; unfold maxLen; simp; omega); have hBw : Below wc.heap.size wc w2 := bthen ((Below.refl _ _).alloc (Nat.le_refl _) _) (bthen hB1.out (bthen ((Below.refl _ _).alloc (Nat.le_refl _) _) hB2)); have hz2 := hBw.size; replace hBw := hi_ hBw; replace hb2 := hi_ hb2; replace hX2 := hi_ hX2; clear hO2 hB2)
      | (at_builtin; refine app_b rfl _ _ rfl w.heap.size _ _ rfl (hO.out.below hBw.out) A2 _ c2 _ rfl rfl hb2.out hA2 (by have q1 := hlen.out; have q2 := hX2.out; rw [List.length_append, q2]; simp only [List.length_cons, List.length_nil] at q1 ⊢; omega) (by omega) ?_; intro v' w3 hO3 hB3; replace hO3 := hi_ hO3; replace hB3 := hi_ hB3))
     go_roundw
     case rel =>
      refine ⟨k + 1, by omega, by go_num, ?_, (hB.out.trans (hBw.out.mono lB)).trans hB3.out⟩
      rw [hT.out]
      have := hO3.out
      rw [hX.out] at this
      exact this
     case measure => simp [RowKit.intOf]; omega
  ·obtain rfl : k = S.size := by omega
   have hT : S.data.toList.take S.size = S.data.toList := by rw [← hsz.out, List.take_length]
   rw [hT] at hO
   refine h3_ hB hO hT ?_; clear hB hO hT; intro hB hO hT
   go_wp2
   go_ret
   exact ⟨_, rfl, hO.out, hB.out⟩
end
section
open Go Go.RowKit Go.Wk
theorem conv_bytes (w : World) (s : ByteArray) (hs : s.size ≤ 1000000000) :
 ∃ c W', (convert 9 22 (.string s)).run Tryz.prog w = .ok (.slice (some ⟨w.heap.size, 0, none⟩) s.size c) W' ∧ Byt W' (some ⟨w.heap.size, 0, none⟩) s.data.toList ∧ Below w.heap.size w W' ∧ s.size ≤ c ∧ W'.heap.size = w.heap.size + 1 := by
 have hcv := Lib.run_convert_string_bytes (P := Tryz.prog) w 9 22 5 s (u := .string) Tryz.underlying9 Tryz.underlying22 Tryz.underlying5
 have hlen : s.data.toList.length = s.size := Array.length_toList
 refine ⟨_, _, hcv, ⟨?_, fun _ => ⟨_, 0, rfl, fun i hi => ?_⟩⟩, ⟨rfl, rfl, rfl, by rw [Lib.bytesWorld_size]; omega, fun k hk => Lib.bytesWorld_at_old _ _ _ _ hk⟩, ?_, Lib.bytesWorld_size _ _ _⟩
 ·unfold maxLen; omega
 ·have := Lib.bytesWorld_cell w 5 s i (by omega)
  rw [Nat.zero_add, this]
  rw [List.getD_eq_getElem?_getD, List.getElem?_eq_getElem hi]; rfl
 ·exact grownCap_ge _ _ _ _
end
section
open Go Go.RowKit Go.Wk
theorem conv_any (w : World) (A : Option Addr) (c : Nat) (bs : List UInt8) (h : Byt w A bs) : (convert 22 9 (.slice A bs.length c)).run Tryz.prog w = .ok (.string (bytes bs)) w := by
 cases bs with
 | nil =>
  show (convert 22 9 (.slice A 0 c)).run Tryz.prog w = _
  rw [run_convert_bytes_string w 22 9 5 A 0 c Tryz.underlying22 Tryz.underlying5 Tryz.underlying9]
  cases A <;> rfl
 | cons x l =>
  obtain ⟨b, o, rfl, _⟩ := h.2 (by simp)
  exact conv_back w b o c (x :: l) h
theorem plain_take {l : List UInt8} {k : Nat} (h : k < l.length) (ha : (l.take k).all plainB = true) (hx : plainB l[k] = true) : (l.take (k + 1)).all plainB = true := by
 rw [List.take_succ_eq_append_getElem h, List.all_append, ha, List.all_cons, hx]; rfl
theorem plain_not {l : List UInt8} {k : Nat} (h : k < l.length) (hx : plainB l[k] = false) : l.all plainB = false := by
 rw [List.all_eq_false]; exact ⟨l[k], List.getElem_mem h, by simp [hx]⟩
theorem prt_Text (A : Option Addr) (c : Nat) (bs : List UInt8) (w : World) (hb : Byt w A bs) (hl : bs.length ≤ 100000000) :
 Calls Tryz.prog 104 #[.slice A bs.length c] w (RO w (textT bs)) := by
 have hdig := fun W (hW : Below w.heap.size w W) => prt_digits A c bs W (hb.below hW) hl
 have hcv := fun W (hW : Below w.heap.size w W) => conv_any W A c bs (hb.below hW)
 obtain ⟨m, hm⟩ : ∃ m, m = bs.length := ⟨_, rfl⟩
 rw [← hm] at hl hdig hcv ⊢
 obtain ⟨X, hX⟩ : ∃ X, X = bytes (hexS bs) := ⟨_, rfl⟩
 have zX : X.size ≤ 200000000 := by rw [hX, bytes_size, hexS_len]; omega
 obtain ⟨Y, hY⟩ : ∃ X, X = bytes bs := ⟨_, rfl⟩
 have zY : Y.size ≤ 200000000 := by rw [hY, bytes_size]; omega
 rw [← hX] at hdig
 rw [← hY] at hcv
 have cr := fun W => row3 W ⟨#[60]⟩ X ⟨#[62]⟩ (by have : (⟨#[60]⟩ : ByteArray).size = 1 := rfl; have : (⟨#[62]⟩ : ByteArray).size = 1 := rfl; omega)
 have cs := fun W => row3 W ⟨#[40]⟩ Y ⟨#[41]⟩ (by have : (⟨#[40]⟩ : ByteArray).size = 1 := rfl; have : (⟨#[41]⟩ : ByteArray).size = 1 := rfl; omega)
 refine h6_ hm hb hX hY hdig hcv ?_; clear hm hb hX hY hdig hcv; intro hm hb hX hY hdig hcv
 go_enter Tryz.func104, Tryz.ntmps104
 go_wp2
 go_loopw [4, 7] (fun _ s7 wr => ∃ k : Nat, k ≤ m ∧ s7 = .int .i64 k ∧ (bs.take k).all plainB = true ∧ wr = w) (fun _ s7 _ => m - (RowKit.intOf s7).toNat)
 case atStart => exact ⟨0, by omega, rfl, rfl, rfl⟩
 case round =>
  obtain ⟨k, hk, rfl, hP, rfl⟩ := hrel
  by_cases hkm : k < m
  ·have hkl : k < bs.length := by rw [← hm.out]; exact hkm
   obtain ⟨b, o, rfl, hcell⟩ := hb.out.2 (by omega)
   obtain ⟨x, hx⟩ : ∃ x, x = bs[k] := ⟨_, rfl⟩
   have hcx := hcell k hkl
   rw [← hx] at hcx
   have cp := prt_plain x wr
   cases hp : plainB x with
   | true =>
    have hP2 := plain_take hkl hP (by rw [← hx]; exact hp)
    rw [hp] at cp
    obtain ⟨xi, hxi⟩ : ∃ n : Int, n = (x.toNat : Int) := ⟨_, rfl⟩
    rw [← hxi] at hcx cp
    replace hP2 := hi_ hP2
    clear hcell hx hxi hP hp
    go_wp2_with (go_at_call 140; (with_reducible refine cp.mono ?_); rintro e w1 ⟨rfl, rfl⟩)
    go_roundw
    case rel => exact ⟨k + 1, by omega, by go_num, hP2.out, (by first | rfl | trivial)⟩
    case measure => simp [RowKit.intOf]; omega
   | false =>
    have hT : textT bs = [60] ++ (X.data.toList ++ [62]) := by
     unfold textT
     rw [plain_not hkl (by rw [← hx]; exact hp), if_neg (by decide), hX.out]; rfl
    rw [hp] at cp
    obtain ⟨xi, hxi⟩ : ∃ n : Int, n = (x.toNat : Int) := ⟨_, rfl⟩
    rw [← hxi] at hcx cp
    have cd := hdig.out wr (Below.refl _ _)
    replace hT := hi_ hT
    clear hcell hx hxi hP hp
    go_wp2_with (first
     | (go_at_call 140; (with_reducible refine cp.mono ?_); rintro e w1 ⟨rfl, rfl⟩)
     | (go_at_call 141; (with_reducible refine cd.mono ?_); rintro e w1 ⟨rfl, hB1⟩; have k2 := cr w1; replace hB1 := hi_ hB1)
     | (go_at_call 102; (with_reducible refine k2.mono ?_); rintro e w2 ⟨v, rfl, hO2, hB2⟩; replace hB2 := hi_ hB2; replace hO2 := hi_ hO2))
    go_ret
    refine ⟨_, rfl, ?_, bthen hB1.out (bthen ((Below.refl _ _).alloc (Nat.le_refl _) _) hB2.out)⟩
    rw [hT.out]
    exact hO2.out.base (by rw [World.size_alloc]; have := hB1.out.size; omega)
  ·obtain rfl : k = m := by omega
   have hT : textT bs = [40] ++ (Y.data.toList ++ [41]) := by
    rw [hm.out, List.take_length] at hP
    unfold textT
    rw [hP, if_pos rfl, hY.out]; rfl
   have cv := hcv.out wr (Below.refl _ _)
   replace hT := hi_ hT
   replace hP := hi_ hP
   have k2 := cs wr
   go_wp2_with (go_at_call 102; (with_reducible refine k2.mono ?_); rintro e w2 ⟨v, rfl, hO2, hB2⟩; replace hB2 := hi_ hB2; replace hO2 := hi_ hO2)
   go_ret
   refine ⟨_, rfl, ?_, bthen ((Below.refl _ _).alloc (Nat.le_refl _) _) hB2.out⟩
   rw [hT.out]
   exact hO2.out.base (by rw [World.size_alloc]; omega)
end
section
open Go Go.RowKit Go.Wk

end
section
open Go Go.RowKit Go.Wk
theorem take_same {l m : List UInt8} {k : Nat} (h1 : k < l.length) (h2 : k < m.length) (h : l.take k = m.take k) (e : l[k] = m[k]) : l.take (k + 1) = m.take (k + 1) := by
 rw [List.take_succ_eq_append_getElem h1, List.take_succ_eq_append_getElem h2, h, e]
theorem ref_Same (A A' : Option Addr) (c c' : Nat) (xs ys : List UInt8) (w : World) (hb : Byt w A xs) (hb' : Byt w A' ys) (hl : xs.length ≤ 1000000000) (hl' : ys.length ≤ 1000000000) :
 Calls Tryz.prog 23 #[.slice A xs.length c, .slice A' ys.length c'] w fun e w' => e = .returned (.bool (decide (xs = ys))) ∧ Below w.heap.size w w' := by
 obtain ⟨m, hm⟩ : ∃ m, m = xs.length := ⟨_, rfl⟩
 obtain ⟨n, hn⟩ : ∃ m, m = ys.length := ⟨_, rfl⟩
 rw [← hm] at hl ⊢
 rw [← hn] at hl' ⊢
 by_cases hmn : m = n
 ·subst hmn
  refine h3_ hm hn hb ?_; clear hm hn hb; intro hm hn hb
  replace hb' := hi_ hb'
  go_enter Tryz.func23, Tryz.ntmps23
  go_wp2
  go_loopw [5] (fun s5 wr => ∃ k : Nat, k ≤ m ∧ s5 = .int .i64 k ∧ xs.take k = ys.take k ∧ Below w.heap.size w wr) (fun s5 _ => m - (RowKit.intOf s5).toNat)
  case atStart => exact ⟨0, by omega, rfl, rfl, Below.refl _ _⟩
  case round =>
   obtain ⟨k, hk, rfl, hP, hB⟩ := hrel
   by_cases hkm : k < m
   ·have hkl : k < xs.length := by rw [← hm.out]; exact hkm
    have hkl' : k < ys.length := by rw [← hn.out]; exact hkm
    obtain ⟨b, o, rfl, hcell⟩ := hb.out.2 (by omega)
    obtain ⟨b', o', rfl, hcell'⟩ := hb'.out.2 (by omega)
    obtain ⟨x, hx⟩ : ∃ x, x = xs[k] := ⟨_, rfl⟩
    obtain ⟨y, hy⟩ : ∃ x, x = ys[k] := ⟨_, rfl⟩
    have hcx : wr.cell? ⟨b, o + k, none⟩ = some (.int .u8 (x.toNat : Int)) := by rw [hx]; exact (hB.cell (cell_lt (hcell k hkl))).trans (hcell k hkl)
    have hcy : wr.cell? ⟨b', o' + k, none⟩ = some (.int .u8 (y.toNat : Int)) := by rw [hy]; exact (hB.cell (cell_lt (hcell' k hkl'))).trans (hcell' k hkl')
    by_cases hxy : x = y
    ·have hT := take_same hkl hkl' hP (by rw [← hx, ← hy, hxy])
     subst hxy
     refine h3_ hT hB hP ?_; clear hT hB hP; intro hT hB hP
     clear hcell hcell' hx hy
     go_wp2
     go_region
     all_goals
      go_wp2
      go_roundw
      case rel => exact ⟨k + 1, by omega, by go_num, hT.out, hB.out.drew⟩
      case measure => simp [RowKit.intOf]; omega
    ·have hT : decide (xs = ys) = false := by
      simp only [decide_eq_false_iff_not]
      rintro rfl
      exact hxy (by rw [hx, hy])
     have hne : ((x.toNat : Int) != (y.toNat : Int)) = true := by
      rw [bne_iff_ne]
      intro e
      exact hxy (UInt8.toNat_inj.1 (by omega))
     obtain ⟨xi, hxi⟩ : ∃ n : Int, n = (x.toNat : Int) := ⟨_, rfl⟩
     obtain ⟨yi, hyi⟩ : ∃ n : Int, n = (y.toNat : Int) := ⟨_, rfl⟩
     rw [← hxi] at hcx hne
     rw [← hyi] at hcy hne
     refine h3_ hT hB hP ?_; clear hT hB hP; intro hT hB hP
     clear hcell hcell' hx hy hxy hxi hyi
     go_wp2
     go_region
     all_goals
      go_wp2
      go_ret
      exact ⟨by rw [hT.out]; rfl, hB.out.drew⟩
   ·obtain rfl : k = m := by omega
    have hT : decide (xs = ys) = true := by
     have e1 := hm.out
     have e2 := hn.out
     rw [e1, List.take_length] at hP
     rw [← e1, e2, List.take_length] at hP
     exact decide_eq_true hP
    refine h3_ hT hB hP ?_; clear hT hB hP; intro hT hB hP
    go_wp2
    go_ret
    exact ⟨by rw [hT.out]; rfl, hB.out⟩
 ·have hT : decide (xs = ys) = false := by
   simp only [decide_eq_false_iff_not]
   rintro rfl
   exact hmn (by rw [hm, hn])
  rw [hT]
  have hne : ((m : Int) != (n : Int)) = true := by rw [bne_iff_ne]; omega
  clear hb hb' hm hn hT hmn
  go_enter Tryz.func23, Tryz.ntmps23
  go_wp2
  go_ret
  exact ⟨rfl, Below.refl _ _⟩
def hasI (k : Int) : Bool := k == 7 || k == 8
theorem cos_entries (k : Int) (v1 v2 v3 v4 : Value) (w : World) : Calls Tryz.prog 163 #[.agg #[.int .i64 k, v1, v2, v3, v4]] w fun e w' => e = .returned (.bool (hasI k)) ∧ Below w.heap.size w w' := by
 go_enter Tryz.func163, Tryz.ntmps163
 go_wp2
 all_goals go_ret
 all_goals refine ⟨?_, (Below.refl _ _).alloc (Nat.le_refl _) _⟩
 all_goals simp_all [hasI]
theorem ref_Has (k : Int) (v1 v2 v3 v4 : Value) (w : World) : Calls Tryz.prog 71 #[.agg #[.int .i64 k, v1, v2, v3, v4]] w fun e w' => e = .returned (.bool (hasI k)) ∧ Below w.heap.size w w' := by
 go_enter Tryz.func71, Tryz.ntmps71
 go_wp2
 all_goals go_ret
 all_goals refine ⟨?_, (Below.refl _ _).alloc (Nat.le_refl _) _⟩
 all_goals simp_all [hasI]
theorem cos_within (n a b : Int) (w : World) : Calls Tryz.prog 128 #[.int .i64 n, .int .i64 a, .int .i64 b] w fun e w' => e = .returned (.bool (decide (a ≤ n ∧ n ≤ b))) ∧ w = w' := by
 go_enter Tryz.func128, Tryz.ntmps128
 go_wp2
 all_goals go_ret
 all_goals refine ⟨?_, rfl⟩
 all_goals first | (simp_all; done) | (simp_all; omega)
end
section
open Go Go.RowKit Go.Wk
theorem cos_spare (k n : Int) (A AL AD : Option Addr) (c cL cD : Nat) (b : List UInt8) (l : List Ob) (d : List (List UInt8 × Ob)) (w : World) :
 Calls Tryz.prog 127 #[.agg #[.int .i64 k, .int .i64 n, .slice A b.length c, .slice AL l.length cL, .slice AD d.length cD]] w fun e w' => e = .returned (.bool (spareB k n b l d)) ∧ Below w.heap.size w w' := by
 have ce := fun (w : World) => cos_entries k (.int .i64 n) (.slice A b.length c) (.slice AL l.length cL) (.slice AD d.length cD) w
 unfold spareB
 obtain ⟨z1, h1⟩ : ∃ z, (b.length == 0) = z := ⟨_, rfl⟩
 obtain ⟨z2, h2⟩ : ∃ z, (l.length == 0) = z := ⟨_, rfl⟩
 obtain ⟨z3, h3⟩ : ∃ z, (d.length == 0) = z := ⟨_, rfl⟩
 obtain ⟨m1, hm1⟩ : ∃ m, m = b.length := ⟨_, rfl⟩
 obtain ⟨m2, hm2⟩ : ∃ m, m = l.length := ⟨_, rfl⟩
 obtain ⟨m3, hm3⟩ : ∃ m, m = d.length := ⟨_, rfl⟩
 rw [h1, h2, h3]
 rw [← hm1] at h1 ce ⊢
 rw [← hm2] at h2 ce ⊢
 rw [← hm3] at h3 ce ⊢
 have i1 : ((m1 : Int) == 0) = z1 := by rw [← h1, Bool.eq_iff_iff]; simp
 have i2 : ((m2 : Int) == 0) = z2 := by rw [← h2, Bool.eq_iff_iff]; simp
 have i3 : ((m3 : Int) == 0) = z3 := by rw [← h3, Bool.eq_iff_iff]; simp
 clear h1 h2 h3 hm1 hm2 hm3
 obtain ⟨zn, hn⟩ : ∃ z, (n == 0) = z := ⟨_, rfl⟩
 rw [hn]
 obtain ⟨nm, hnm⟩ : ∃ z, (k == 1 || k == 2 || k == 3 || k == 9) = z := ⟨_, rfl⟩
 obtain ⟨tx, htx⟩ : ∃ z, (k == 4 || k == 5 || k == 8) = z := ⟨_, rfl⟩
 obtain ⟨ar, har⟩ : ∃ z, (k == 6) = z := ⟨_, rfl⟩
 obtain ⟨en, hen⟩ : ∃ z, hasI k = z := ⟨_, rfl⟩
 have e7 : (k == 7 || k == 8 || z3) = (en || z3) := by rw [← hen]; rfl
 rw [show (k == 1 || k == 2 || k == 3 || k == 9 || zn) = (nm || zn) by rw [← hnm], show (k == 4 || k == 5 || k == 8 || z1) = (tx || z1) by rw [← htx], har, e7]
 rw [hen] at ce
 clear e7
 refine h4_ hen hnm htx har ?_; clear hen hnm htx har; intro hen hnm htx har
 go_enter Tryz.func127, Tryz.ntmps127
 go_upto_region 1 with (fail)
 go_cut [3] (fun s3 wx => s3 = .bool nm ∧ wx = w.alloc (.cells #[.int .i64 k, .int .i64 n, .slice A m1 c, .slice AL m2 cL, .slice AD m3 cD] 32))
 case first =>
  obtain ⟨b1, q1⟩ : ∃ z, (k == 1) = z := ⟨_, rfl⟩
  obtain ⟨b2, q2⟩ : ∃ z, (k == 2) = z := ⟨_, rfl⟩
  obtain ⟨b3, q3⟩ : ∃ z, (k == 3) = z := ⟨_, rfl⟩
  obtain ⟨b9, q9⟩ : ∃ z, (k == 9) = z := ⟨_, rfl⟩
  have hn2 := hnm.out
  rw [q1, q2, q3, q9] at hn2
  clear ce
  replace hn2 := hi_ hn2
  cases b1 <;> cases b2 <;> cases b3 <;> cases b9
  all_goals
   go_wp2
   go_meet
   exact ⟨by rw [← hn2.out]; rfl, rfl⟩
 case rest =>
  obtain ⟨rfl, rfl⟩ := hcut
  go_upto_region 2 with (fail)
  go_cut [4] (fun s4 wx => s4 = .bool tx ∧ wx = w.alloc (.cells #[.int .i64 k, .int .i64 n, .slice A m1 c, .slice AL m2 cL, .slice AD m3 cD] 32))
  case first =>
   obtain ⟨b4, q4⟩ : ∃ z, (k == 4) = z := ⟨_, rfl⟩
   obtain ⟨b5, q5⟩ : ∃ z, (k == 5) = z := ⟨_, rfl⟩
   obtain ⟨b8, q8⟩ : ∃ z, (k == 8) = z := ⟨_, rfl⟩
   have hn2 := htx.out
   rw [q4, q5, q8] at hn2
   clear ce
   replace hn2 := hi_ hn2
   cases b4 <;> cases b5 <;> cases b8
   all_goals
    go_wp2
    go_meet
    exact ⟨by rw [← hn2.out]; rfl, rfl⟩
  case rest =>
   obtain ⟨rfl, rfl⟩ := hcut
   have har2 := har.out
   have hB0 : Below w.heap.size w (w.alloc (.cells #[.int .i64 k, .int .i64 n, .slice A m1 c, .slice AL m2 cL, .slice AD m3 cD] 32)) := (Below.refl _ _).alloc (Nat.le_refl _) _
   replace hB0 := hi_ hB0
   have hq4 : (w.alloc (.cells #[.int .i64 k, .int .i64 n, .slice A m1 c, .slice AL m2 cL, .slice AD m3 cD] 32)).cell? ⟨w.heap.size, 4, none⟩ = some (.slice AD m3 cD) := by
    have h := alloc_cell (w := w) (vs := #[.int .i64 k, .int .i64 n, .slice A m1 c, .slice AL m2 cL, .slice AD m3 cD]) (e := 32) (i := 4)
    rw [Nat.zero_add] at h
    exact h
   replace hq4 := hi_ hq4
   cases nm <;> cases tx <;> cases ar
   all_goals
    go_wp2_with (go_at_call 163; (with_reducible refine (ce _).mono ?_); rintro e w1 ⟨rfl, hB1⟩; have q4 := (hB1.cell (p := ⟨w.heap.size, 4, none⟩) (cell_lt hq4.out)).trans hq4.out; replace hB1 := hi_ hB1)
    all_goals go_ret
    all_goals refine ⟨?_, ?_⟩
    all_goals first | exact hB0.out | exact bthen hB0.out hB1.out | (simp_all; done)
end
section
open Go Go.RowKit Go.Wk
theorem has_byte (l : List UInt8) (c : UInt8) : decide (0 ≤ Lib.indexByte l c) = l.contains c := by
 induction l with
 | nil => rfl
 | cons x l ih =>
  unfold Lib.indexByte
  have hge := Lib.indexByte_ge l c
  by_cases h : x = c
  ·subst h; simp
  ·have h1 : (x == c) = false := by simpa using h
   have h2 : (c == x) = false := by simpa using fun e : c = x => h e.symm
   rw [h1]
   simp only [Bool.false_eq_true, if_false, List.contains_cons, h2, Bool.false_or]
   rw [← ih]
   by_cases h3 : Lib.indexByte l c = -1
   ·simp [h3]
   ·have h4 : (Lib.indexByte l c == -1) = false := by simpa using h3
    rw [h4]
    simp only [Bool.false_eq_true, if_false]
    apply decide_eq_decide.2
    omega
theorem cos_name (S : ByteArray) (w : World) : Calls Tryz.prog 129 #[.string S] w fun e w' => e = .returned (.bool (nameOk S.data.toList)) ∧ w = w' := by
 have hsz : S.data.toList.length = S.size := Array.length_toList
 have cc := fun w => Tryz.strings_Contains_one S 0 w
 unfold nameOk
 rw [hsz]
 rw [has_byte] at cc
 obtain ⟨z, hz⟩ : ∃ z, S.data.toList.contains 0 = z := ⟨_, rfl⟩
 rw [hz] at cc ⊢
 clear hz hsz
 go_enter Tryz.func129, Tryz.ntmps129
 go_wp2_with (go_at_call 164; (with_reducible refine (cc _).mono ?_); rintro e w1 ⟨rfl, rfl⟩)
 all_goals go_ret
 all_goals refine ⟨?_, rfl⟩
 all_goals first | (simp_all; done) | (simp_all; omega)
theorem no_take {l : List UInt8} {k : Nat} (h : k < l.length) (h1 : (l.take k).contains 0 = false) (h2 : l[k] ≠ 0) : (l.take (k + 1)).contains 0 = false := by
 rw [List.take_succ_eq_append_getElem h]
 rw [Bool.eq_false_iff]
 intro h3
 have h3 := List.contains_iff_mem.1 h3
 rcases List.mem_append.1 h3 with h4 | h4
 ·exact absurd (List.contains_iff_mem.2 h4) (by rw [h1]; decide)
 ·simp at h4; exact h2 h4.symm
theorem ref_name (A : Option Addr) (c : Nat) (bs : List UInt8) (w : World) (hb : Byt w A bs) : Calls Tryz.prog 73 #[.slice A bs.length c] w fun e w' => e = .returned (.bool (nameOk bs)) ∧ w = w' := by
 have hm0 := hb.1
 unfold nameOk
 obtain ⟨m, hm⟩ : ∃ m, m = bs.length := ⟨_, rfl⟩
 rw [← hm] at hm0 ⊢
 by_cases h127 : m ≤ 127
 ·simp only [h127, decide_true, Bool.true_and]
  replace hm := hi_ hm
  replace hb := hi_ hb
  go_enter Tryz.func73, Tryz.ntmps73
  go_wp2
  go_loopw [3] (fun s3 wr => ∃ k : Nat, k ≤ m ∧ s3 = .int .i64 k ∧ (bs.take k).contains 0 = false ∧ wr = w) (fun s3 _ => m - (RowKit.intOf s3).toNat)
  case atStart => exact ⟨0, by omega, rfl, rfl, rfl⟩
  case round =>
   obtain ⟨k, hk, rfl, hP, rfl⟩ := hrel
   by_cases hkm : k < m
   ·have hkl : k < bs.length := by rw [← hm.out]; exact hkm
    obtain ⟨b, o, rfl, hcell⟩ := hb.out.2 (by omega)
    obtain ⟨x, hx⟩ : ∃ x, x = bs[k] := ⟨_, rfl⟩
    have hcx := hcell k hkl
    rw [← hx] at hcx
    by_cases hx0 : x = 0
    ·have hT : bs.contains 0 = true := by
      rw [List.contains_iff_mem]; rw [← hx0, hx]; exact List.getElem_mem hkl
     subst hx0
     replace hT := hi_ hT
     replace hP := hi_ hP
     clear hcell hx
     go_wp2
     go_ret
     exact ⟨by rw [hT.out]; rfl, rfl⟩
    ·have hP2 := no_take hkl hP (by rw [← hx]; exact hx0)
     have hx2 : ((x.toNat : Int) == 0) = false := by
      rw [beq_eq_false_iff_ne]; intro e; exact hx0 (UInt8.toNat_inj.1 (by show x.toNat = 0; omega))
     obtain ⟨xi, hxi⟩ : ∃ n : Int, n = (x.toNat : Int) := ⟨_, rfl⟩
     rw [← hxi] at hcx hx2
     replace hP2 := hi_ hP2
     clear hcell hx hx0 hxi hP
     go_wp2
     go_roundw
     case rel => exact ⟨k + 1, by omega, by go_num, hP2.out, (by first | rfl | trivial)⟩
     case measure => simp [RowKit.intOf]; omega
   ·obtain rfl : k = m := by omega
    rw [hm.out, List.take_length] at hP
    replace hP := hi_ hP
    go_wp2
    go_ret
    exact ⟨by rw [hP.out]; rfl, rfl⟩
 ·simp only [h127, decide_false, Bool.false_and]
  clear hb hm
  go_enter Tryz.func73, Tryz.ntmps73
  go_wp2
  go_ret
  exact ⟨rfl, rfl⟩
end
section
open Go Go.RowKit Go.Wk Go.Extern Go.Extern.Rtype
theorem less_ltB : ∀ (a b : List UInt8), Op.bytesLess a b = ltB a b
 | [], [] => rfl
 | [], _ :: _ => rfl
 | _ :: _, [] => rfl
 | a :: x, b :: y => by
  have := less_ltB x y
  unfold Op.bytesLess ltB
  rw [this]
  by_cases h1 : a < b
  ·simp [h1]
  ·by_cases h2 : b < a
   ·have h3 : (a == b) = false := by rw [beq_eq_false_iff_ne]; rintro rfl; exact h1 h2
    simp [h1, h2, h3]
   ·have h3 : a = b := by
     apply UInt8.toNat_inj.1
     have e1 : ¬ a.toNat < b.toNat := h1
     have e2 : ¬ b.toNat < a.toNat := h2
     omega
    subst h3
    simp [h1]
theorem le_keys (S T : ByteArray) : (Op.bytesLess S.toList T.toList || S.toList == T.toList) = !ltB T.data.toList S.data.toList := by
 rw [ByteArray.toList_eq, ByteArray.toList_eq, ← less_ltB T.data.toList, ← Am.less_tri S.data.toList, Bool.not_not]
theorem may_less (w : World) (dd g oD : Nat) (i k n cD : Nat) (S T : ByteArray) (hi : i < n) (hk : k < n) (hn : n ≤ 1000000000) (h4 : w.cell? ⟨dd, 4, none⟩ = some (.slice (some ⟨g, oD, none⟩) n cD)) (hS : w.cell? ⟨g, oD + i * 6, none⟩ = some (.string S)) (hT : w.cell? ⟨g, oD + k * 6, none⟩ = some (.string T)) :
 Calls Tryz.prog 134 #[.int .i64 i, .int .i64 k, .pointer (some ⟨dd, 0, none⟩)] w fun e w' => e = .returned (.bool (!ltB T.data.toList S.data.toList)) ∧ Below w.heap.size w w' := by
 have hl := le_keys S T
 obtain ⟨z, hz⟩ : ∃ z, (!ltB T.data.toList S.data.toList) = z := ⟨_, rfl⟩
 rw [hz] at hl ⊢
 replace hl := hi_ hl
 clear hz
 go_enter Tryz.func134, Tryz.ntmps134
 go_wp2
 go_region
 all_goals
  go_wp2
  go_ret
  exact ⟨by rw [← hl.out]; rfl, (Below.refl _ _).drew⟩
def upTo (f : Nat → Bool) (n : Nat) : Bool := (List.range n).all fun i => i == 0 || f i
theorem type24 : ∃ i, Tryz.prog.info? 30 = some i ∧ i.desc = .slice 91 := ⟨Tryz.t30, by kernel_rfl, by kernel_rfl⟩
theorem srt_Is (w : World) (AD : Option Addr) (n cD dd : Nat) (f : Nat → Bool) (hn : n ≤ 1000000000)
 (less : ∀ i W, 0 < i → i < n → Below w.heap.size w W → Calls Tryz.prog 134 #[.int .i64 i, .int .i64 ((i : Int) - 1), .pointer (some ⟨dd, 0, none⟩)] W fun e w' => e = .returned (.bool (!f i)) ∧ Below W.heap.size W w') :
 Calls Tryz.prog 133 #[.iface 30 (.slice AD n cD), .func (.func 134) #[] #[.pointer (some ⟨dd, 0, none⟩)]] w fun e w' => e = .returned (.bool (upTo f n)) ∧ Below w.heap.size w w' := by
 obtain ⟨i0, hi0, hd0⟩ := type24
 have hv := Lib.run_valueOf_slice (P := Tryz.prog) 30 91 i0 hi0 hd0 AD n cD w
 have hl := fun a w ha => Lib.run_valueLen_slice (P := Tryz.prog) 30 91 i0 hi0 hd0 (by kernel_rfl) a AD n cD w ha
 have hgl : Tryz.prog.globals.size = 6 := by kernel_rfl
 simp only [typeHandle, hgl] at hv hl
 clear hi0 hd0
 replace less := hi_ less
 go_enter Tryz.func133, Tryz.ntmps133
 go_wp2
 rw [run_callFunc_extern Tryz.func166 (by kernel_rfl) (by kernel_rfl) (by kernel_rfl) (e := fun args => Extern.ReflectliteValue.unpack (args.getD 0 (.tuple #[]))) (by kernel_rfl),
  show Sem.run Tryz.prog ((fun args : Array Value => Extern.ReflectliteValue.unpack (args.getD 0 (.tuple #[]))) #[.iface 30 (.slice AD n cD)]) w = _ from hv]
 simp only [Result.andThen]
 rw [Oper.upon_value]
 go_wp2
 rw [run_callFunc_extern Tryz.func167 (by kernel_rfl) (by kernel_rfl) (by kernel_rfl) (e := Extern.ReflectliteValue.method (Extern.ReflectliteValue.valueError "reflectlite.Value.Len" 0) Extern.ReflectliteValue.len) (by kernel_rfl), hl _ _ (by simp)]
 simp only [Result.andThen]
 rw [Oper.upon_value]
 go_wp2
 go_loopw [7] (fun s7 wr => ∃ i : Nat, i ≤ n ∧ s7 = .int .i64 ((i : Int) - 1) ∧ (∀ k, i ≤ k → k < n → k = 0 ∨ f k = true) ∧ Below w.heap.size w wr) (fun s7 _ => (RowKit.intOf s7).toNat)
 case atStart => exact ⟨n, Nat.le_refl _, rfl, fun k h1 h2 => by omega, ((Below.refl _ _).alloc (Nat.le_refl _) _).alloc (by simp) _⟩
 case round =>
  obtain ⟨i, hin, rfl, hP, hB⟩ := hrel
  by_cases hi : 1 < i
  ·obtain ⟨j, rfl⟩ : ∃ j, i = j + 1 := ⟨i - 1, by omega⟩
   have cl := less.out j wr (by omega) (by omega) hB
   have e1 : (((j + 1 : Nat) : Int) - 1) = (j : Int) := by omega
   rw [e1]
   cases hf : f j with
   | true =>
    rw [hf] at cl
    have hP2 : ∀ k, j ≤ k → k < n → k = 0 ∨ f k = true := fun k h1 h2 => by
     by_cases h3 : j = k
     ·subst h3; exact .inr hf
     ·exact hP k (by omega) h2
    replace hP2 := hi_ hP2
    replace hB := hi_ hB
    clear hP hf e1
    go_wp2_with (go_at_call 134; (with_reducible refine cl.mono ?_); rintro e w1 ⟨rfl, hB1⟩; replace hB1 := hi_ hB1)
    go_roundw
    case rel => exact ⟨j, by omega, rfl, hP2.out, bthen hB.out hB1.out⟩
    case measure => simp [RowKit.intOf]; omega
   | false =>
    rw [hf] at cl
    have hT : upTo f n = false := by
     unfold upTo
     rw [List.all_eq_false]
     exact ⟨j, List.mem_range.2 (by omega), by simp [hf]; omega⟩
    refine h3_ hT hB hP ?_; clear hT hB hP; intro hT hB hP
    clear hf e1
    go_wp2_with (go_at_call 134; (with_reducible refine cl.mono ?_); rintro e w1 ⟨rfl, hB1⟩; replace hB1 := hi_ hB1)
    go_ret
    exact ⟨by rw [hT.out]; rfl, bthen hB.out hB1.out⟩
  ·have hT : upTo f n = true := by
    unfold upTo
    rw [List.all_eq_true]
    intro k hk
    have hk := List.mem_range.1 hk
    by_cases h0 : k = 0
    ·simp [h0]
    ·rcases hP k (by omega) hk with h | h
     ·exact absurd h h0
     ·simp [h]
   have hg : decide ((0 : Int) < (i : Int) - 1) = false := by simp; omega
   refine h3_ hT hB hP ?_; clear hT hB hP; intro hT hB hP
   go_wp2
   go_ret
   exact ⟨by rw [hT.out]; rfl, hB.out⟩
end
section
open Go Go.RowKit Go.Wk
theorem five_list {α : Type} (us : List α) (h : us.length = 5) : ∃ c0 c1 c2 c3 c4, us = [c0, c1, c2, c3, c4] := by
 match us, h with
 | [c0, c1, c2, c3, c4], _ => exact ⟨_, _, _, _, _, rfl⟩
theorem six_list {α : Type} (us : List α) (h : us.length = 6) : ∃ c0 c1 c2 c3 c4 c5, us = [c0, c1, c2, c3, c4, c5] := by
 match us, h with
 | [c0, c1, c2, c3, c4, c5], _ => exact ⟨_, _, _, _, _, _, rfl⟩
theorem idx_obj (w : World) (AL : Option Addr) (g oL n cL dd : Nat) (p : Nat → Bool) (vl : Nat → List Value) (hn : n ≤ 1000000000) (hA : 0 < n → AL = some ⟨g, oL, none⟩) (h5 : ∀ i, i < n → (vl i).length = 5)
 (hc : ∀ i, i < n → ∀ j, j < 5 → w.cell? ⟨g, oL + (5 * i + j), none⟩ = (vl i)[j]?)
 (call : ∀ i W, i < n → Below w.heap.size w W → Calls Tryz.prog 131 #[.agg (vl i).toArray, .pointer (some ⟨dd, 0, none⟩)] W fun e w' => e = .returned (.bool (p i)) ∧ Below W.heap.size W w') :
 Calls Tryz.prog 165 #[.slice AL n cL, .func (.func 131) #[] #[.pointer (some ⟨dd, 0, none⟩)]] w fun e w' => ∃ j : Int, e = .returned (.int .i64 j) ∧ decide (0 ≤ j) = (List.range n).any p ∧ Below w.heap.size w w' := by
 refine h4_ call hc h5 hA ?_; clear call hc h5 hA; intro call hc h5 hA
 go_enter Tryz.func165, Tryz.ntmps165
 go_wp2
 go_loopw [5, 8] (fun _ s8 wr => ∃ k : Nat, k ≤ n ∧ s8 = .int .i64 k ∧ (∀ i, i < k → p i = false) ∧ Below w.heap.size w wr) (fun _ s8 _ => n - (RowKit.intOf s8).toNat)
 case atStart => exact ⟨0, by omega, rfl, fun i hi => by omega, Below.refl _ _⟩
 case round =>
  obtain ⟨k, hk, rfl, hP, hB⟩ := hrel
  by_cases hkn : k < n
  ·have hA := hA.out (by omega)
   subst hA
   have h5k := h5.out k hkn
   have hck := hc.out k hkn
   have cl := call.out k wr hkn hB
   obtain ⟨us, hus⟩ : ∃ us, us = vl k := ⟨_, rfl⟩
   rw [← hus] at h5k hck cl
   ·obtain ⟨c0, c1, c2, c3, c4, rfl⟩ := five_list us h5k
    have w0 : w.cell? ⟨g, oL + k * 5, none⟩ = some c0 := by have := hck 0 (by omega); rw [Nat.mul_comm, Nat.add_zero] at this; exact this
    have w1 : w.cell? ⟨g, oL + k * 5 + 1, none⟩ = some c1 := by have := hck 1 (by omega); rw [Nat.mul_comm, ← Nat.add_assoc] at this; exact this
    have w2 : w.cell? ⟨g, oL + k * 5 + 2, none⟩ = some c2 := by have := hck 2 (by omega); rw [Nat.mul_comm, ← Nat.add_assoc] at this; exact this
    have w3 : w.cell? ⟨g, oL + k * 5 + 3, none⟩ = some c3 := by have := hck 3 (by omega); rw [Nat.mul_comm, ← Nat.add_assoc] at this; exact this
    have w4 : w.cell? ⟨g, oL + k * 5 + 4, none⟩ = some c4 := by have := hck 4 (by omega); rw [Nat.mul_comm, ← Nat.add_assoc] at this; exact this
    have x0 := (hB.cell (cell_lt w0)).trans w0
    have x1 := (hB.cell (cell_lt w1)).trans w1
    have x2 := (hB.cell (cell_lt w2)).trans w2
    have x3 := (hB.cell (cell_lt w3)).trans w3
    have x4 := (hB.cell (cell_lt w4)).trans w4
    clear w0 w1 w2 w3 w4 hck hus h5k
    cases hp : p k with
    | true =>
     rw [hp] at cl
     have hT : (List.range n).any p = true := List.any_eq_true.2 ⟨k, List.mem_range.2 hkn, hp⟩
     refine h3_ hT hB hP ?_; clear hT hB hP; intro hT hB hP
     clear hp
     go_wp2_with (go_at_call 131; (with_reducible refine cl.mono ?_); rintro e w1 ⟨rfl, hB1⟩; replace hB1 := hi_ hB1)
     go_ret
     exact ⟨k, rfl, by rw [hT.out]; simp, bthen hB.out hB1.out⟩
    | false =>
     rw [hp] at cl
     have hP2 : ∀ i, i < k + 1 → p i = false := fun i hi => by
      by_cases h : i = k
      ·subst h; exact hp
      ·exact hP i (by omega)
     replace hP2 := hi_ hP2
     replace hB := hi_ hB
     clear hP hp
     go_wp2_with (go_at_call 131; (with_reducible refine cl.mono ?_); rintro e w1 ⟨rfl, hB1⟩; replace hB1 := hi_ hB1)
     go_roundw
     case rel => exact ⟨k + 1, by omega, by go_num, hP2.out, bthen hB.out hB1.out⟩
     case measure => simp [RowKit.intOf]; omega
  ·obtain rfl : k = n := by omega
   have hT : (List.range k).any p = false := by
    rw [List.any_eq_false]
    intro i hi
    rw [hP i (List.mem_range.1 hi)]; decide
   refine h3_ hT hB hP ?_; clear hT hB hP; intro hT hB hP
   go_wp2
   go_ret
   exact ⟨-1, rfl, by rw [hT.out]; rfl, hB.out⟩
theorem idx_ent (w : World) (AL : Option Addr) (g oL n cL dd : Nat) (p : Nat → Bool) (vl : Nat → List Value) (hn : n ≤ 1000000000) (hA : 0 < n → AL = some ⟨g, oL, none⟩) (h5 : ∀ i, i < n → (vl i).length = 6)
 (hc : ∀ i, i < n → ∀ j, j < 6 → w.cell? ⟨g, oL + (6 * i + j), none⟩ = (vl i)[j]?)
 (call : ∀ i W, i < n → Below w.heap.size w W → Calls Tryz.prog 136 #[.agg (vl i).toArray, .pointer (some ⟨dd, 0, none⟩)] W fun e w' => e = .returned (.bool (p i)) ∧ Below W.heap.size W w') :
 Calls Tryz.prog 168 #[.slice AL n cL, .func (.func 136) #[] #[.pointer (some ⟨dd, 0, none⟩)]] w fun e w' => ∃ j : Int, e = .returned (.int .i64 j) ∧ decide (0 ≤ j) = (List.range n).any p ∧ Below w.heap.size w w' := by
 refine h4_ call hc h5 hA ?_; clear call hc h5 hA; intro call hc h5 hA
 go_enter Tryz.func168, Tryz.ntmps168
 go_wp2
 go_loopw [5, 8] (fun _ s8 wr => ∃ k : Nat, k ≤ n ∧ s8 = .int .i64 k ∧ (∀ i, i < k → p i = false) ∧ Below w.heap.size w wr) (fun _ s8 _ => n - (RowKit.intOf s8).toNat)
 case atStart => exact ⟨0, by omega, rfl, fun i hi => by omega, Below.refl _ _⟩
 case round =>
  obtain ⟨k, hk, rfl, hP, hB⟩ := hrel
  by_cases hkn : k < n
  ·have hA := hA.out (by omega)
   subst hA
   have h5k := h5.out k hkn
   have hck := hc.out k hkn
   have cl := call.out k wr hkn hB
   obtain ⟨us, hus⟩ : ∃ us, us = vl k := ⟨_, rfl⟩
   rw [← hus] at h5k hck cl
   ·obtain ⟨c0, c1, c2, c3, c4, c5, rfl⟩ := six_list us h5k
    have w0 : w.cell? ⟨g, oL + k * 6, none⟩ = some c0 := by have := hck 0 (by omega); rw [Nat.mul_comm, Nat.add_zero] at this; exact this
    have w1 : w.cell? ⟨g, oL + k * 6 + 1, none⟩ = some c1 := by have := hck 1 (by omega); rw [Nat.mul_comm, ← Nat.add_assoc] at this; exact this
    have w2 : w.cell? ⟨g, oL + k * 6 + 2, none⟩ = some c2 := by have := hck 2 (by omega); rw [Nat.mul_comm, ← Nat.add_assoc] at this; exact this
    have w3 : w.cell? ⟨g, oL + k * 6 + 3, none⟩ = some c3 := by have := hck 3 (by omega); rw [Nat.mul_comm, ← Nat.add_assoc] at this; exact this
    have w4 : w.cell? ⟨g, oL + k * 6 + 4, none⟩ = some c4 := by have := hck 4 (by omega); rw [Nat.mul_comm, ← Nat.add_assoc] at this; exact this
    have w5 : w.cell? ⟨g, oL + k * 6 + 5, none⟩ = some c5 := by have := hck 5 (by omega); rw [Nat.mul_comm, ← Nat.add_assoc] at this; exact this
    have x5 := (hB.cell (cell_lt w5)).trans w5
    have x0 := (hB.cell (cell_lt w0)).trans w0
    have x1 := (hB.cell (cell_lt w1)).trans w1
    have x2 := (hB.cell (cell_lt w2)).trans w2
    have x3 := (hB.cell (cell_lt w3)).trans w3
    have x4 := (hB.cell (cell_lt w4)).trans w4
    clear w0 w1 w2 w3 w4 w5 hck hus h5k
    cases hp : p k with
    | true =>
     rw [hp] at cl
     have hT : (List.range n).any p = true := List.any_eq_true.2 ⟨k, List.mem_range.2 hkn, hp⟩
     refine h3_ hT hB hP ?_; clear hT hB hP; intro hT hB hP
     clear hp
     go_wp2_with (go_at_call 136; (with_reducible refine cl.mono ?_); rintro e w1 ⟨rfl, hB1⟩; replace hB1 := hi_ hB1)
     go_ret
     exact ⟨k, rfl, by rw [hT.out]; simp, bthen hB.out hB1.out⟩
    | false =>
     rw [hp] at cl
     have hP2 : ∀ i, i < k + 1 → p i = false := fun i hi => by
      by_cases h : i = k
      ·subst h; exact hp
      ·exact hP i (by omega)
     replace hP2 := hi_ hP2
     replace hB := hi_ hB
     clear hP hp
     go_wp2_with (go_at_call 136; (with_reducible refine cl.mono ?_); rintro e w1 ⟨rfl, hB1⟩; replace hB1 := hi_ hB1)
     go_roundw
     case rel => exact ⟨k + 1, by omega, by go_num, hP2.out, bthen hB.out hB1.out⟩
     case measure => simp [RowKit.intOf]; omega
  ·obtain rfl : k = n := by omega
   have hT : (List.range k).any p = false := by
    rw [List.any_eq_false]
    intro i hi
    rw [hP i (List.mem_range.1 hi)]; decide
   refine h3_ hT hB hP ?_; clear hT hB hP; intro hT hB hP
   go_wp2
   go_ret
   exact ⟨-1, rfl, by rw [hT.out]; rfl, hB.out⟩
theorem cnt_obj (w : World) (AL : Option Addr) (g oL n cL dd : Nat) (p : Nat → Bool) (vl : Nat → List Value) (hn : n ≤ 1000000000) (hA : 0 < n → AL = some ⟨g, oL, none⟩) (h5 : ∀ i, i < n → (vl i).length = 5)
 (hc : ∀ i, i < n → ∀ j, j < 5 → w.cell? ⟨g, oL + (5 * i + j), none⟩ = (vl i)[j]?)
 (call : ∀ i W, i < n → Below w.heap.size w W → Calls Tryz.prog 131 #[.agg (vl i).toArray, .pointer (some ⟨dd, 0, none⟩)] W fun e w' => e = .returned (.bool (p i)) ∧ Below W.heap.size W w') :
 Calls Tryz.prog 130 #[.slice AL n cL, .func (.func 131) #[] #[.pointer (some ⟨dd, 0, none⟩)]] w fun e w' => e = .returned (.bool ((List.range n).any p)) ∧ Below w.heap.size w w' := by
 have ci := idx_obj w AL g oL n cL dd p vl hn hA h5 hc call
 obtain ⟨z, hz⟩ : ∃ z, (List.range n).any p = z := ⟨_, rfl⟩
 rw [hz] at ci ⊢
 clear hz call hc h5 hA
 go_enter Tryz.func130, Tryz.ntmps130
 go_wp2_with (go_at_call 165; (with_reducible refine ci.mono ?_); rintro e w1 ⟨j, rfl, hj, hB1⟩; replace hB1 := hi_ hB1; replace hj := hi_ hj)
 all_goals go_ret
 all_goals refine ⟨?_, hB1.out⟩
 all_goals (rw [← hj.out]; simp_all)
theorem cnt_ent (w : World) (AL : Option Addr) (g oL n cL dd : Nat) (p : Nat → Bool) (vl : Nat → List Value) (hn : n ≤ 1000000000) (hA : 0 < n → AL = some ⟨g, oL, none⟩) (h5 : ∀ i, i < n → (vl i).length = 6)
 (hc : ∀ i, i < n → ∀ j, j < 6 → w.cell? ⟨g, oL + (6 * i + j), none⟩ = (vl i)[j]?)
 (call : ∀ i W, i < n → Below w.heap.size w W → Calls Tryz.prog 136 #[.agg (vl i).toArray, .pointer (some ⟨dd, 0, none⟩)] W fun e w' => e = .returned (.bool (p i)) ∧ Below W.heap.size W w') :
 Calls Tryz.prog 135 #[.slice AL n cL, .func (.func 136) #[] #[.pointer (some ⟨dd, 0, none⟩)]] w fun e w' => e = .returned (.bool ((List.range n).any p)) ∧ Below w.heap.size w w' := by
 have ci := idx_ent w AL g oL n cL dd p vl hn hA h5 hc call
 obtain ⟨z, hz⟩ : ∃ z, (List.range n).any p = z := ⟨_, rfl⟩
 rw [hz] at ci ⊢
 clear hz call hc h5 hA
 go_enter Tryz.func135, Tryz.ntmps135
 go_wp2_with (go_at_call 168; (with_reducible refine ci.mono ?_); rintro e w1 ⟨j, rfl, hj, hB1⟩; replace hB1 := hi_ hB1; replace hj := hi_ hj)
 all_goals go_ret
 all_goals refine ⟨?_, hB1.out⟩
 all_goals (rw [← hj.out]; simp_all)
end
section
open Go Go.RowKit Go.Wk
def InnerC (dep : Nat) : Prop := ∀ (o : Ob) (vs : List Value) (w : World), ObAt w o vs → o.bulk ≤ 1048576 → Calls Tryz.prog 132 #[.agg vs.toArray, .int .i64 (dep : Int)] w fun e w' => e = .returned (.bool (o.kind != 8 && o.may dep)) ∧ Below w.heap.size w w'
def MayC (dep : Nat) : Prop := ∀ (o : Ob) (vs : List Value) (w : World), ObAt w o vs → o.bulk ≤ 1048576 → Calls Tryz.prog 101 #[.agg vs.toArray, .int .i64 (dep : Int)] w fun e w' => e = .returned (.bool (o.may dep)) ∧ Below w.heap.size w w'
theorem ob_vals {w : World} {o : Ob} {vs : List Value} (h : ObAt w o vs) : ∃ v1 v2 v3 v4, vs = [.int .i64 o.kind, v1, v2, v3, v4] := by
 cases h with
 | mk k n b l d A AL AD c cL cD gL oL gD oD vl vd => exact ⟨_, _, _, _, rfl⟩
theorem cos_inner (dep : Nat) (hd : dep ≤ 28) (hm : MayC dep) : InnerC dep := by
 intro o vs w h hb
 have hb0 : ∀ ob, Below w.heap.size w (w.alloc ob) := fun ob => (Below.refl _ _).alloc (Nat.le_refl _) _
 have cm := fun ob => hm o vs (w.alloc ob) (h.kept (hb0 ob)) hb
 obtain ⟨v1, v2, v3, v4, rfl⟩ := ob_vals h
 obtain ⟨k, hk⟩ : ∃ k, o.kind = k := ⟨_, rfl⟩
 rw [hk] at cm ⊢
 obtain ⟨z, hz⟩ : ∃ z, o.may dep = z := ⟨_, rfl⟩
 rw [hz] at cm ⊢
 obtain ⟨y, hy⟩ : ∃ y, (k != 8) = y := ⟨_, rfl⟩
 rw [hy]
 replace hb0 := hi_ hb0
 clear hz hk h hb hm
 cases y
 all_goals
  go_enter Tryz.func132, Tryz.ntmps132
  go_wp2_with (go_at_call 101; (with_reducible refine (cm _).mono ?_); rintro e w1 ⟨rfl, hB1⟩; replace hB1 := hi_ hB1)
  go_ret
  refine ⟨by simp, ?_⟩
  first | exact hb0.out _ | exact bthen (hb0.out _) hB1.out
theorem may_clo (dep : Nat) (hd : dep ≤ 28) (hi : InnerC dep) (dd : Nat) (o : Ob) (vs : List Value) (w : World) (h : ObAt w o vs) (hb : o.bulk ≤ 1048576) (hD : w.cell? ⟨dd, 0, none⟩ = some (.int .i64 ((dep : Int) + 1))) :
 Calls Tryz.prog 131 #[.agg vs.toArray, .pointer (some ⟨dd, 0, none⟩)] w fun e w' => e = .returned (.bool (!(o.kind != 8 && o.may dep))) ∧ Below w.heap.size w w' := by
 have hb0 : ∀ ob, Below w.heap.size w (w.alloc ob) := fun ob => (Below.refl _ _).alloc (Nat.le_refl _) _
 have cm := fun ob => hi o vs (w.alloc ob) (h.kept (hb0 ob)) hb
 have hlt := cell_lt hD
 obtain ⟨v1, v2, v3, v4, rfl⟩ := ob_vals h
 obtain ⟨z, hz⟩ : ∃ z, (o.kind != 8 && o.may dep) = z := ⟨_, rfl⟩
 rw [hz] at cm ⊢
 obtain ⟨k, hk⟩ : ∃ k, o.kind = k := ⟨_, rfl⟩
 rw [hk] at cm ⊢
 replace hb0 := hi_ hb0
 clear hz hk h hb hi
 go_enter Tryz.func131, Tryz.ntmps131
 go_wp2_with (go_at_call 132; (with_reducible refine (cm _).mono ?_); rintro e w1 ⟨rfl, hB1⟩; replace hB1 := hi_ hB1)
 go_ret
 exact ⟨rfl, bthen (hb0.out _) hB1.out⟩
theorem may_clo2 (dep : Nat) (hd : dep ≤ 28) (hi : InnerC dep) (dd : Nat) (S : ByteArray) (o : Ob) (vs : List Value) (w : World) (h : ObAt w o vs) (hb : o.bulk ≤ 1048576) (hD : w.cell? ⟨dd, 0, none⟩ = some (.int .i64 ((dep : Int) + 1))) :
 Calls Tryz.prog 136 #[.agg (.string S :: vs).toArray, .pointer (some ⟨dd, 0, none⟩)] w fun e w' => e = .returned (.bool (!(nameOk S.data.toList && o.kind != 0 && (o.kind != 8 && o.may dep)))) ∧ Below w.heap.size w w' := by
 have hb0 : ∀ ob, Below w.heap.size w (w.alloc ob) := fun ob => (Below.refl _ _).alloc (Nat.le_refl _) _
 have cm := fun ob => hi o vs (w.alloc ob) (h.kept (hb0 ob)) hb
 have cn := fun w => cos_name S w
 have hlt := cell_lt hD
 obtain ⟨v1, v2, v3, v4, rfl⟩ := ob_vals h
 obtain ⟨z, hz⟩ : ∃ z, (o.kind != 8 && o.may dep) = z := ⟨_, rfl⟩
 rw [hz] at cm ⊢
 obtain ⟨k, hk⟩ : ∃ k, o.kind = k := ⟨_, rfl⟩
 rw [hk] at cm ⊢
 obtain ⟨y, hy⟩ : ∃ y, (k == 0) = y := ⟨_, rfl⟩
 have hy2 : (k != 0) = !y := by rw [← hy]; rfl
 rw [hy2]
 obtain ⟨x, hx⟩ : ∃ x, nameOk S.data.toList = x := ⟨_, rfl⟩
 rw [hx] at cn ⊢
 replace hb0 := hi_ hb0
 clear hz hk h hb hi hx hy2
 cases x <;> cases y
 all_goals
  go_enter Tryz.func136, Tryz.ntmps136
  go_wp2_with (first
   | (go_at_call 129; (with_reducible refine (cn _).mono ?_); rintro e w1 ⟨rfl, rfl⟩)
   | (go_at_call 132; (with_reducible refine (cm _).mono ?_); rintro e w1 ⟨rfl, hB1⟩; replace hB1 := hi_ hB1))
  go_ret
  refine ⟨by simp, ?_⟩
  first | exact hb0.out _ | exact bthen (hb0.out _) hB1.out
end
section
open Go Go.RowKit Go.Wk
theorem mayL_all (d : Nat) : ∀ l : List Ob, mayL d l = l.all fun o => o.kind != 8 && o.may d
 | [] => rfl
 | o :: r => by simp [mayL, mayL_all d r]
theorem mayD_all (d : Nat) : ∀ l : List (List UInt8 × Ob), mayD d l = l.all fun e => nameOk e.1 && e.2.kind != 0 && (e.2.kind != 8 && e.2.may d)
 | [] => rfl
 | e :: r => by simp [mayD, mayD_all d r, Bool.and_assoc]
def atI {α : Type} (l : List α) (q : α → Bool) (i : Nat) : Bool := match l[i]? with
 | some o => q o
 | none => false
theorem any_idx {α : Type} (l : List α) (q : α → Bool) : (List.range l.length).any (atI l fun o => !q o) = !l.all q := by
 rw [Bool.eq_iff_iff]
 simp only [List.any_eq_true, List.mem_range, Bool.not_eq_true', List.all_eq_false]
 constructor
 ·rintro ⟨i, hi, h⟩
  unfold atI at h
  rw [List.getElem?_eq_getElem hi] at h
  exact ⟨l[i], List.getElem_mem hi, by simpa using h⟩
 ·rintro ⟨o, ho, h⟩
  obtain ⟨i, hi, rfl⟩ := List.getElem_of_mem ho
  exact ⟨i, hi, by unfold atI; rw [List.getElem?_eq_getElem hi]; simpa using h⟩
theorem rises_iff : ∀ d : List (List UInt8 × Ob), risesB d = true ↔ ∀ i (h : i + 1 < d.length), ltB (d[i]'(by omega)).1 d[i + 1].1 = true
 | [] => by simp [risesB]
 | [_] => by simp [risesB]
 | a :: b :: r => by
  have ih := rises_iff (b :: r)
  simp only [risesB, Bool.and_eq_true]
  rw [ih]
  constructor
  ·rintro ⟨h1, h2⟩ i hi
   cases i with
   | zero => exact h1
   | succ i => exact h2 i (by simpa using hi)
  ·intro h
   exact ⟨h 0 (by simp), fun i hi => h (i + 1) (by simpa using hi)⟩
def riseF (d : List (List UInt8 × Ob)) (i : Nat) : Bool := match d[i - 1]?, d[i]? with
 | some a, some b => ltB a.1 b.1
 | _, _ => true
theorem rises_upTo (d : List (List UInt8 × Ob)) : upTo (riseF d) d.length = risesB d := by
 rw [Bool.eq_iff_iff, rises_iff]
 unfold upTo
 simp only [List.all_eq_true, List.mem_range, Bool.or_eq_true, beq_iff_eq]
 constructor
 ·intro h i hi
  rcases h (i + 1) hi with h1 | h1
  ·omega
  ·unfold riseF at h1
   rw [Nat.add_sub_cancel, List.getElem?_eq_getElem (by omega : i < d.length), List.getElem?_eq_getElem hi] at h1
   exact h1
 ·intro h k hk
  cases k with
  | zero => exact .inl rfl
  | succ i =>
   refine .inr ?_
   unfold riseF
   rw [Nat.add_sub_cancel, List.getElem?_eq_getElem (by omega : i < d.length), List.getElem?_eq_getElem hk]
   exact h i hk
theorem mulc (a i j : Nat) : a + (6 * i + 1 + j) = a + (6 * i + (j + 1)) := by omega
theorem cos_may0 (dep : Nat) (hd : dep ≤ 28) (hi : ∀ d', dep = d' + 1 → InnerC d') : MayC dep := by
 intro o vs w h hbk
 have hfull := h
 cases h with
 | mk k n b l d A AL AD c cL cD gL oL gD oD vl vd h1 h2 h3 h4 hB hbc hAc hlc hlm hdc hdm hAL hl hlv hAD hdo hdk hdv =>
 have hbk : (Ob.mk k n b l d).bulk ≤ 1048576 := hbk
 have zk : b.length + bulkL l + bulkD d + 1 ≤ 1048576 := hbk
 have zl := bulkL_len l
 have zd := bulkD_len d
 have cs := fun w => cos_spare k n A AL AD c cL cD b l d w
 obtain ⟨W2, hW2⟩ : ∃ W, W = (w.alloc (.cells #[.int .i64 k, .int .i64 n, .slice A b.length c, .slice AL l.length cL, .slice AD d.length cD] 32)).alloc (.cells #[.int .i64 (dep : Int)] 3) := ⟨_, rfl⟩
 have hb2 : Below w.heap.size w W2 := by rw [hW2]; exact ((Below.refl _ _).alloc (Nat.le_refl _) _).alloc (by simp) _
 have dcell : W2.cell? ⟨w.heap.size + 1, 0, none⟩ = some (.int .i64 (dep : Int)) := by
  rw [hW2]
  have := alloc_cell (w := w.alloc (.cells #[.int .i64 k, .int .i64 n, .slice A b.length c, .slice AL l.length cL, .slice AD d.length cD] 32)) (vs := #[.int .i64 (dep : Int)]) (e := 3) (i := 0)
  rw [World.size_alloc, Nat.add_zero] at this
  exact this
 have ocell : ∀ i v, #[Value.int .i64 k, .int .i64 n, .slice A b.length c, .slice AL l.length cL, .slice AD d.length cD][i]? = some v → W2.cell? ⟨w.heap.size, i, none⟩ = some v := by
  intro i v hv
  have h0 := alloc_cell (w := w) (vs := #[.int .i64 k, .int .i64 n, .slice A b.length c, .slice AL l.length cL, .slice AD d.length cD]) (e := 32) (i := i)
  rw [Nat.zero_add, hv] at h0
  rw [hW2]
  exact (((Below.refl _ _).alloc (Nat.le_refl _) _ : Below (w.alloc (.cells #[.int .i64 k, .int .i64 n, .slice A b.length c, .slice AL l.length cL, .slice AD d.length cD] 32)).heap.size _ _).cell (p := ⟨w.heap.size, i, none⟩) (cell_lt h0)).trans h0
 have cn := fun W => cos_name (bytes b) W
 rw [bytes_list] at cn
 have cv := fun W (hW : Below W2.heap.size W2 W) => conv_any W A c b (hB.below (bthen hb2 hW))
 have kL : ∀ d', dep = d' + 1 → ∀ W, Below W2.heap.size W2 W → Calls Tryz.prog 130 #[.slice AL l.length cL, .func (.func 131) #[] #[.pointer (some ⟨w.heap.size + 1, 0, none⟩)]] W fun e w' => e = .returned (.bool (!mayL d' l)) ∧ Below W.heap.size W w' := by
  intro d' hd' W hW
  have hbW := bthen hb2 hW
  rw [mayL_all, ← any_idx]
  refine cnt_obj W AL gL oL l.length cL (w.heap.size + 1) _ vl (by omega) hAL (fun i hi => (hl i hi).five) (fun i hi j hj => ?_) (fun i W3 hi3 hb3 => ?_)
  ·have h0 := hlv i hi j hj
   have hv : ∃ u, (vl i)[j]? = some u := ⟨_, List.getElem?_eq_getElem (by rw [(hl i hi).five]; exact hj)⟩
   obtain ⟨u, hu⟩ := hv
   rw [hu] at h0 ⊢
   exact (hbW.cell (cell_lt h0)).trans h0
  ·have hbl := bulkL_at l i hi3
   have hq := may_clo d' (by omega) (hi d' hd') (w.heap.size + 1) l[i] (vl i) W3 ((hl i hi3).kept (bthen hbW hb3)) (by omega) (by
    have hdc2 : W.cell? ⟨w.heap.size + 1, 0, none⟩ = some (.int .i64 (dep : Int)) := (hW.cell (cell_lt dcell)).trans dcell
    have := (hb3.cell (cell_lt hdc2)).trans hdc2
    rw [this, hd']; simp)
   unfold atI
   rw [List.getElem?_eq_getElem hi3]
   exact hq
 have cD2 : ∀ d', dep = d' + 1 → ∀ W, Below W2.heap.size W2 W → Calls Tryz.prog 135 #[.slice AD d.length cD, .func (.func 136) #[] #[.pointer (some ⟨w.heap.size + 1, 0, none⟩)]] W fun e w' => e = .returned (.bool (!mayD d' d)) ∧ Below W.heap.size W w' := by
  intro d' hd' W hW
  have hbW := bthen hb2 hW
  rw [mayD_all, ← any_idx]
  refine cnt_ent W AD gD oD d.length cD (w.heap.size + 1) _ (fun i => (match d[i]? with | some e => strV e.1 | none => undef) :: vd i) (by omega) hAD (fun i hi => by simp [(hdo i hi).five]) (fun i hi j hj => ?_) (fun i W3 hi3 hb3 => ?_)
  ·cases j with
   | zero =>
    have h0 := (hdk i hi).2
    rw [Nat.add_zero, List.getElem?_cons_zero, List.getElem?_eq_getElem hi]
    exact (hbW.cell (cell_lt h0)).trans h0
   | succ j =>
    have h0 := hdv i hi j (by omega)
    have hv : ∃ u, (vd i)[j]? = some u := ⟨_, List.getElem?_eq_getElem (by rw [(hdo i hi).five]; omega)⟩
    obtain ⟨u, hu⟩ := hv
    rw [mulc] at h0
    rw [List.getElem?_cons_succ]
    rw [hu] at h0 ⊢
    exact (hbW.cell (cell_lt h0)).trans h0
  ·have hbl := bulkD_at d i hi3
   have hq := may_clo2 d' (by omega) (hi d' hd') (w.heap.size + 1) (bytes d[i].1) d[i].2 (vd i) W3 ((hdo i hi3).kept (bthen hbW hb3)) (by omega) (by
    have hdc2 : W.cell? ⟨w.heap.size + 1, 0, none⟩ = some (.int .i64 (dep : Int)) := (hW.cell (cell_lt dcell)).trans dcell
    have := (hb3.cell (cell_lt hdc2)).trans hdc2
    rw [this, hd']; simp)
   unfold atI
   rw [List.getElem?_eq_getElem hi3]
   exact hq
 have cS : ∀ W, Below W2.heap.size W2 W → Calls Tryz.prog 133 #[.iface 30 (.slice AD d.length cD), .func (.func 134) #[] #[.pointer (some ⟨w.heap.size, 0, none⟩)]] W fun e w' => e = .returned (.bool (risesB d)) ∧ Below W.heap.size W w' := by
  intro W hW
  have hbW := bthen hb2 hW
  rw [← rises_upTo]
  refine srt_Is W AD d.length cD w.heap.size (riseF d) (by omega) (fun i W3 h0 hin hb3 => ?_)
  have key : ∀ j (hj : j < d.length), W3.cell? ⟨gD, oD + j * 6, none⟩ = some (.string (bytes d[j].1)) := fun j hj => by
   have h0 := (hdk j hj).2
   rw [Nat.mul_comm] at h0
   exact ((bthen hbW hb3).cell (cell_lt h0)).trans h0
  have hAe := hAD (by omega)
  subst hAe
  have h4c : W3.cell? ⟨w.heap.size, 4, none⟩ = some (.slice (some ⟨gD, oD, none⟩) d.length cD) := by
   have q0 := ocell 4 _ rfl
   have q1 := (hW.cell (cell_lt q0)).trans q0
   exact (hb3.cell (cell_lt q1)).trans q1
  have hq := may_less W3 w.heap.size gD oD i (i - 1) d.length cD (bytes d[i].1) (bytes (d[i - 1]'(by omega)).1) hin (by omega) (by omega) h4c (key i hin) (key (i - 1) (by omega))
  have e1 : ((i - 1 : Nat) : Int) = (i : Int) - 1 := by omega
  rw [e1] at hq
  unfold riseF
  rw [List.getElem?_eq_getElem (by omega : i - 1 < d.length), List.getElem?_eq_getElem hin]
  exact hq
 have hmay : (Ob.mk k n b l d).may dep = (spareB k n b l d && (if k = 0 then true else if k = 1 then decide (0 ≤ n ∧ n ≤ 1) else if k = 2 then decide (-2147483647 ≤ n ∧ n ≤ 2147483647) else if k = 3 then decide (-214748364799999 ≤ n ∧ n ≤ 214748364799999) else if k = 9 then decide (1 ≤ n ∧ n ≤ 8388607) else if k = 4 then decide (b.length ≤ 32767) else if k = 5 then nameOk b else if k = 6 then decide (0 < dep) && mayL (dep - 1) l else if k = 7 ∨ k = 8 then decide (0 < dep) && risesB d && decide (b.length ≤ 16777216) && mayD (dep - 1) d else false)) := by simp only [Ob.may]
 rw [hmay]
 clear hmay hfull hB hl hlv hdo hdk hdv hi hAL hAD hbk hbc hAc
 have zb : b.length ≤ 1048576 := by omega
 have zl2 : l.length ≤ 1048576 := by omega
 have zd2 : d.length ≤ 1048576 := by omega
 clear zk zl zd hlc hlm hdc hdm
 obtain ⟨sp, hsp⟩ : ∃ z, spareB k n b l d = z := ⟨_, rfl⟩
 rw [hsp] at cs ⊢
 clear hsp
 obtain ⟨nk, hnk⟩ : ∃ z, nameOk b = z := ⟨_, rfl⟩
 rw [hnk] at cn ⊢
 clear hnk
 obtain ⟨ri, hri⟩ : ∃ z, risesB d = z := ⟨_, rfl⟩
 rw [hri] at cS ⊢
 clear hri
 obtain ⟨X, hX⟩ : ∃ X, X = bytes b := ⟨_, rfl⟩
 rw [← hX] at cn cv
 clear hX
 have kL' : ∀ d', dep = d' + 1 → ∀ W, Below W2.heap.size W2 W → Calls Tryz.prog 130 #[.slice AL l.length cL, .func (.func 131) #[] #[.pointer (some ⟨w.heap.size + 1, 0, none⟩)]] W fun e w' => e = .returned (.bool (!mayL (dep - 1) l)) ∧ Below W.heap.size W w' := fun d' e W hW => by
  rw [show dep - 1 = d' by omega]; exact kL d' e W hW
 have cD' : ∀ d', dep = d' + 1 → ∀ W, Below W2.heap.size W2 W → Calls Tryz.prog 135 #[.slice AD d.length cD, .func (.func 136) #[] #[.pointer (some ⟨w.heap.size + 1, 0, none⟩)]] W fun e w' => e = .returned (.bool (!mayD (dep - 1) d)) ∧ Below W.heap.size W w' := fun d' e W hW => by
  rw [show dep - 1 = d' by omega]; exact cD2 d' e W hW
 obtain ⟨ml, hml⟩ : ∃ z, mayL (dep - 1) l = z := ⟨_, rfl⟩
 obtain ⟨md, hmd⟩ : ∃ z, mayD (dep - 1) d = z := ⟨_, rfl⟩
 rw [hml] at kL' ⊢
 rw [hmd] at cD' ⊢
 clear hml hmd kL cD2
 obtain ⟨m1, hm1⟩ : ∃ m, m = b.length := ⟨_, rfl⟩
 obtain ⟨m2, hm2⟩ : ∃ m, m = l.length := ⟨_, rfl⟩
 obtain ⟨m3, hm3⟩ : ∃ m, m = d.length := ⟨_, rfl⟩
 rw [← hm1] at zb cv ocell hW2 cs ⊢
 rw [← hm2] at zl2 kL' ocell hW2 cs ⊢
 rw [← hm3] at zd2 cD' cS ocell hW2 cs ⊢
 clear hm1 hm2 hm3
 have p0 : 0 < dep → ∃ d', dep = d' + 1 := fun h => ⟨dep - 1, by omega⟩
 have st : ∀ W, Below W2.heap.size W2 W → W.cell? ⟨w.heap.size + 1, 0, none⟩ = some (.int .i64 (dep : Int)) ∧ W.cell? ⟨w.heap.size, 0, none⟩ = some (.int .i64 k) ∧ W.cell? ⟨w.heap.size, 1, none⟩ = some (.int .i64 n) ∧ W.cell? ⟨w.heap.size, 2, none⟩ = some (.slice A m1 c) ∧ W.cell? ⟨w.heap.size, 3, none⟩ = some (.slice AL m2 cL) ∧ W.cell? ⟨w.heap.size, 4, none⟩ = some (.slice AD m3 cD) := fun W hW =>
  ⟨(hW.cell (cell_lt dcell)).trans dcell, (hW.cell (cell_lt (ocell 0 _ rfl))).trans (ocell 0 _ rfl), (hW.cell (cell_lt (ocell 1 _ rfl))).trans (ocell 1 _ rfl), (hW.cell (cell_lt (ocell 2 _ rfl))).trans (ocell 2 _ rfl), (hW.cell (cell_lt (ocell 3 _ rfl))).trans (ocell 3 _ rfl), (hW.cell (cell_lt (ocell 4 _ rfl))).trans (ocell 4 _ rfl)⟩
 obtain ⟨s0, s1, s2, s3, s4, s5⟩ := st W2 (Below.refl _ _)
 refine h3_ st hb2 cv ?_; clear st hb2 cv; intro st hb2 cv
 replace kL' := hi_ kL'
 replace cD' := hi_ cD'
 replace cS := hi_ cS
 clear ocell dcell
 replace hW2 := hi_ hW2
 cases sp with
 | false =>
  clear s0
  simp only [Bool.false_and]
  go_enter Tryz.func101, Tryz.ntmps101
  go_upto_region 1 with (fail)
  rw [← hW2.out]
  go_wp2_with (go_at_call 127; (with_reducible refine (cs _).mono ?_); rintro e w1 ⟨rfl, hB1⟩; replace hB1 := hi_ hB1)
  go_ret
  exact ⟨rfl, bthen hb2.out hB1.out⟩
 | true =>
  simp only [Bool.true_and]
  obtain ⟨R, hR⟩ : ∃ R, R = (if k = 0 then true else if k = 1 then decide (0 ≤ n ∧ n ≤ 1) else if k = 2 then decide (-2147483647 ≤ n ∧ n ≤ 2147483647) else if k = 3 then decide (-214748364799999 ≤ n ∧ n ≤ 214748364799999) else if k = 9 then decide (1 ≤ n ∧ n ≤ 8388607) else if k = 4 then decide (m1 ≤ 32767) else if k = 5 then nk else if k = 6 then decide (0 < dep) && ml else if k = 7 ∨ k = 8 then decide (0 < dep) && ri && decide (m1 ≤ 16777216) && md else false) := ⟨_, rfl⟩
  rw [← hR]
  have cw := fun a b w => cos_within n a b w
  go_enter Tryz.func101, Tryz.ntmps101
  go_upto_region 1 with (fail)
  rw [← hW2.out]
  go_upto_region 3 with (go_at_call 127; (with_reducible refine (cs _).mono ?_); rintro e w1 ⟨rfl, hB1⟩; obtain ⟨t0, t1, t2, t3, t4, t5⟩ := st.out w1 hB1; have v1 := cv.out w1 hB1; have v2 := cS.out w1 hB1; have v3 := fun d' e => kL'.out d' e w1 hB1; have v4 := fun d' e W hW => cD'.out d' e W (bthen hB1 hW); have hBw := bthen hb2.out hB1; replace hBw := hi_ hBw; replace hB1 := hi_ hB1)
  clear s0 s1 s2 s3 s4 s5 cs st cv cS kL' cD'
  have kinds : k = 0 ∨ k = 1 ∨ k = 2 ∨ k = 3 ∨ k = 9 ∨ k = 4 ∨ k = 5 ∨ k = 6 ∨ (k = 7 ∨ k = 8) ∨ (k ≠ 0 ∧ k ≠ 1 ∧ k ≠ 2 ∧ k ≠ 3 ∧ k ≠ 9 ∧ k ≠ 4 ∧ k ≠ 5 ∧ k ≠ 6 ∧ k ≠ 7 ∧ k ≠ 8) := by omega
  rcases kinds with rfl | rfl | rfl | rfl | rfl | rfl | rfl | rfl | h78 | ⟨e0, e1, e2, e3, e9, e4, e5, e6, e7, e8⟩
  ·have hR2 : R = true := hR
   clear v1 v2 v3 v4 cn cw hR
   subst hR2
   go_wp2
   go_ret
   exact ⟨rfl, hBw.out⟩
  ·have hR2 : R = decide (0 ≤ n ∧ n ≤ 1) := hR
   have c1 := fun w => cw (0) 1 w
   rw [← hR2] at c1
   clear v1 v2 v3 v4 cn cw hR hR2
   go_wp2_with (go_at_call 128; (with_reducible refine (c1 _).mono ?_); rintro e w2 ⟨rfl, rfl⟩)
   go_ret
   exact ⟨rfl, hBw.out⟩
  ·have hR2 : R = decide (-2147483647 ≤ n ∧ n ≤ 2147483647) := hR
   have c1 := fun w => cw (-2147483647) 2147483647 w
   rw [← hR2] at c1
   clear v1 v2 v3 v4 cn cw hR hR2
   go_wp2_with (go_at_call 128; (with_reducible refine (c1 _).mono ?_); rintro e w2 ⟨rfl, rfl⟩)
   go_ret
   exact ⟨rfl, hBw.out⟩
  ·have hR2 : R = decide (-214748364799999 ≤ n ∧ n ≤ 214748364799999) := hR
   have c1 := fun w => cw (-214748364799999) 214748364799999 w
   rw [← hR2] at c1
   clear v1 v2 v3 v4 cn cw hR hR2
   go_wp2_with (go_at_call 128; (with_reducible refine (c1 _).mono ?_); rintro e w2 ⟨rfl, rfl⟩)
   go_ret
   exact ⟨rfl, hBw.out⟩
  ·have hR2 : R = decide (1 ≤ n ∧ n ≤ 8388607) := hR
   have c1 := fun w => cw (1) 8388607 w
   rw [← hR2] at c1
   clear v1 v2 v3 v4 cn cw hR hR2
   go_wp2_with (go_at_call 128; (with_reducible refine (c1 _).mono ?_); rintro e w2 ⟨rfl, rfl⟩)
   go_ret
   exact ⟨rfl, hBw.out⟩
  ·have hR2 : R = decide (m1 ≤ 32767) := hR
   clear v1 v2 v3 v4 cn cw hR
   by_cases hq : m1 ≤ 32767
   ·rw [decide_eq_true hq] at hR2
    subst hR2
    have q1 : decide ((m1 : Int) ≤ 32767) = true := by simp; omega
    go_wp2
    go_ret
    exact ⟨rfl, hBw.out⟩
   ·rw [decide_eq_false hq] at hR2
    subst hR2
    have q1 : decide ((m1 : Int) ≤ 32767) = false := by simp; omega
    go_wp2
    go_ret
    exact ⟨rfl, hBw.out⟩
  ·have hR2 : R = nk := hR
   clear hR
   subst hR2
   clear v2 v3 v4 cw
   go_wp2_with (go_at_call 129; (with_reducible refine (cn _).mono ?_); rintro e w2 ⟨rfl, rfl⟩)
   go_ret
   exact ⟨rfl, hBw.out⟩
  ·have hR2 : R = (decide (0 < dep) && ml) := hR
   clear v1 v2 v4 cw cn hR
   by_cases hd0 : 0 < dep
   ·obtain ⟨d', hd'⟩ := p0 hd0
    have v := v3 d' hd'
    rw [decide_eq_true hd0, Bool.true_and] at hR2
    subst hR2
    clear v3 hd' p0
    cases R
    all_goals
     go_wp2_with (go_at_call 130; (with_reducible refine v.mono ?_); rintro e w2 ⟨rfl, hB2⟩; replace hB2 := hi_ hB2)
     go_ret
     exact ⟨rfl, bthen hBw.out hB2.out⟩
   ·rw [decide_eq_false hd0, Bool.false_and] at hR2
    subst hR2
    clear v3 p0
    go_wp2
    go_ret
    exact ⟨rfl, hBw.out⟩
  ·have hR2 : R = (decide (0 < dep) && ri && decide (m1 ≤ 16777216) && md) := by rw [hR]; rcases h78 with rfl | rfl <;> rfl
   rw [decide_eq_true (by omega : m1 ≤ 16777216), Bool.and_true] at hR2
   clear v1 v3 cw cn hR
   by_cases hd0 : 0 < dep
   ·obtain ⟨d', hd'⟩ := p0 hd0
    have v := v4 d' hd'
    rw [decide_eq_true hd0, Bool.true_and] at hR2
    clear v4 hd' p0
    subst hR2
    replace v := hi_ v
    rcases h78 with rfl | rfl
    all_goals cases ri
    all_goals cases md
    all_goals
     go_wp2_with (first
      | (go_at_call 133; (with_reducible refine v2.mono ?_); rintro e w2 ⟨rfl, hB2⟩; have vv := v.out w2 hB2; have u0 := (hB2.cell (cell_lt t0)).trans t0; have u3 := (hB2.cell (cell_lt t3)).trans t3; have u5 := (hB2.cell (cell_lt t5)).trans t5; replace hB2 := hi_ hB2)
      | (go_at_call 135; (with_reducible refine vv.mono ?_); rintro e w3 ⟨rfl, hB3⟩; replace hB3 := hi_ hB3))
     go_ret
     refine ⟨rfl, ?_⟩
     first | exact bthen hBw.out hB2.out | exact bthen hBw.out (bthen hB2.out hB3.out)
   ·rw [decide_eq_false hd0, Bool.false_and, Bool.false_and] at hR2
    clear v4 p0
    subst hR2
    rcases h78 with rfl | rfl
    all_goals
     go_wp2_with (go_at_call 133; (with_reducible refine v2.mono ?_); rintro e w2 ⟨rfl, hB2⟩; have u0 := (hB2.cell (cell_lt t0)).trans t0; have u3 := (hB2.cell (cell_lt t3)).trans t3; have u5 := (hB2.cell (cell_lt t5)).trans t5; replace hB2 := hi_ hB2)
     go_ret
     exact ⟨rfl, bthen hBw.out hB2.out⟩
  ·have hR2 : R = false := by rw [hR, if_neg e0, if_neg e1, if_neg e2, if_neg e3, if_neg e9, if_neg e4, if_neg e5, if_neg e6, if_neg (fun h => h.elim e7 e8)]
   have f0 : (k == 0) = false := by simpa using e0
   have f1 : (k == 1) = false := by simpa using e1
   have f2 : (k == 2) = false := by simpa using e2
   have f3 : (k == 3) = false := by simpa using e3
   have f9 : (k == 9) = false := by simpa using e9
   have f4 : (k == 4) = false := by simpa using e4
   have f5 : (k == 5) = false := by simpa using e5
   have f6 : (k == 6) = false := by simpa using e6
   have f7 : (k == 7) = false := by simpa using e7
   have f8 : (k == 8) = false := by simpa using e8
   clear v1 v2 v3 v4 cn cw e0 e1 e2 e3 e9 e4 e5 e6 e7 e8 hR
   subst hR2
   go_wp2
   go_ret
   exact ⟨rfl, hBw.out⟩
theorem cos_mayC : ∀ dep, dep ≤ 28 → MayC dep := by
 intro dep
 induction dep with
 | zero => intro h; exact cos_may0 0 h fun d' e => by omega
 | succ d ih =>
  intro h
  refine cos_may0 (d + 1) h fun d' e => ?_
  have : d' = d := by omega
  subst this
  exact cos_inner d' (by omega) (ih (by omega))
end
section
open Go Go.RowKit Go.Wk
theorem ob_five2 {w : World} {o : Ob} {vs : List Value} (h : ObAt w o vs) : ∃ (n : Int) (A1 A2 A3 : Option Addr) (n1 c1 n2 c2 n3 c3 : Nat), vs = [.int .i64 o.kind, .int .i64 n, .slice A1 n1 c1, .slice A2 n2 c2, .slice A3 n3 c3] := by
 cases h with
 | mk k n b l d A AL AD c cL cD gL oL gD oD vl vd => exact ⟨_, _, _, _, _, _, _, _, _, _, rfl⟩
def ShowC (N : Nat) : Prop := ∀ (o : Ob) (vs : List Value) (w : World), ObAt w o vs → o.bulk ≤ N → Tab w → Calls Tryz.prog 76 #[.agg vs.toArray] w (RB w o.show)
theorem app_bg {w : World} {ops : Array Oper} {rest : List Oper} {o : Oper} {a : Act} {Q : Exit → Act → World → Prop} (hgd : o.guard = none) (s x : Operand)
 (ho : o.op = .call { callee := .builtin .append, args := #[s, x], argTypes := #[22, 22] }) (B : Nat) (v : Value) (out : List UInt8) (hs : a.eval s = v) (hown : Own B w v out)
 (A : Option Addr) (n c : Nat) (bs : List UInt8) (hx : a.eval x = .slice A n c) (hn : n = bs.length) (hb : Byt w A bs) (hA : A = none → c = 0) (hl : out.length + bs.length ≤ 70368744177664) (hB : B ≤ w.heap.size)
 (h : ∀ v' w', Own B w' v' (out ++ bs) → Below B w w' → (∀ j, j < w.heap.size → v.ownBlock ≠ some j → w'.heap[j]? = w.heap[j]?) → wpList Tryz.prog ops Q rest (a.put o.dst v') w') : wpList Tryz.prog ops Q (o :: rest) a w := by
 obtain ⟨i0, hi, hz0, hz1, hz2⟩ := byte_info
 cases A with
 | none =>
  have hbs : bs = [] := by
   cases bs with
   | nil => rfl
   | cons y l => obtain ⟨b, o, e, _⟩ := hb.2 (by simp); cases e
  subst hbs
  have hc := hA rfl
  subst hc
  obtain rfl : n = 0 := hn
  refine wpList_append_own_none hgd s x 22 ho B 5 i0 1 Tryz.underlying22 hi v out.length (valsB out) hs hown.row hx ?_
  exact h v w (by rw [List.append_nil]; exact hown) (Below.refl _ _ |>.mono hB) (fun _ _ _ => rfl)
 | some ad =>
  refine wpList_append_own_at w hgd s x 22 ho B 5 i0 (.int .u8 0) 1 1 Tryz.underlying22 hi hz0 hz1 hz2 rfl (by decide) v out.length (valsB out) hs hown.row ad n c (valsB bs) hx (by rw [valsB_len, hn, Nat.mul_one]) hb.news (valsB_one bs) (by unfold maxLen; omega) (by omega) hB ?_
  intro v' w' h1 h2 _ h3
  refine h v' w' ⟨?_⟩ ((Below.refl _ _ |>.mono hB).grown h2 hB fun k hk => (hown.row.lt k hk).1) (fun j hj hn => h2.block j hj (fun e => hn e.symm))
  rw [List.length_append, valsB_app, ← hn]
  exact h1
theorem bulkL_take : ∀ (l : List Ob) (k : Nat), bulkL (l.take k) ≤ bulkL l
 | [], k => by simp [bulkL]
 | o :: r, 0 => by simp [bulkL]
 | o :: r, k + 1 => by have := bulkL_take r k; simp only [List.take_succ_cons, bulkL]; omega
theorem prt_array (N : Nat) (hN : N ≤ 1048576) (hs : ShowC N) (w : World) (htab : Tab w) (AL : Option Addr) (gL oL cL : Nat) (l : List Ob) (vl : Nat → List Value) (hA : 0 < l.length → AL = some ⟨gL, oL, none⟩) (hl : ∀ i, (hi : i < l.length) → ObAt w l[i] (vl i))
 (hlv : ∀ i, i < l.length → ∀ j, j < 5 → w.cell? ⟨gL, oL + (5 * i + j), none⟩ = (vl i)[j]?) (hbk : bulkL l ≤ N) :
 Calls Tryz.prog 106 #[.slice AL l.length cL] w (RO w (91 :: (showL true l ++ [93]))) := by
 have zl := bulkL_len l
 have hfit : ∀ o ∈ l, Fits o := fun o ho => by obtain ⟨i, hi, rfl⟩ := List.getElem_of_mem ho; exact (hl i hi).fits
 have hsl := showL_len l hfit true
 obtain ⟨m, hm⟩ : ∃ m, m = l.length := ⟨_, rfl⟩
 rw [← hm] at zl ⊢
 have zm : m ≤ 1048576 := by omega
 have hsl2 : (showL true l).length ≤ 41943040 := by omega
 have cr := row1 w ⟨#[91]⟩ (by have : (⟨#[91]⟩ : ByteArray).size = 1 := rfl; omega)
 refine h8_ hm hA hl hlv hs hfit hsl2 htab ?_; clear hm hA hl hlv hs hfit hsl2 htab; intro hm hA hl hlv hs hfit hsl2 htab
 clear hsl
 go_enter Tryz.func106, Tryz.ntmps106
 go_wp2_with (go_at_call 102; (with_reducible refine cr.mono ?_); rintro e w1 ⟨v, rfl, hO, hB⟩; have hw1 : Below w.heap.size w w1 := bthen ((Below.refl _ _).alloc (Nat.le_refl _) _) hB; have hO1 : Own w.heap.size w1 v [91] := hO.base (by simp); replace hw1 := hi_ hw1; replace hO1 := hi_ hO1; clear hO hB)
 go_loopw [3, 4, 5, 10] (fun s3 _ _ s10 wr => ∃ k : Nat, k ≤ m ∧ s10 = .int .i64 k ∧ Own w.heap.size wr s3 (91 :: showL true (l.take k)) ∧ Below w.heap.size w wr) (fun _ _ _ s10 _ => m - (RowKit.intOf s10).toNat)
 case atStart => exact ⟨0, by omega, rfl, hO1.out, hw1.out⟩
 case round =>
  obtain ⟨k, hk, rfl, hO, hB⟩ := hrel
  have lB := hB.size
  have hlen : (91 :: showL true (l.take k)).length ≤ 41943041 := by
   have h1 := showL_len (l.take k) (fun o ho => hfit.out o (List.mem_of_mem_take ho)) true
   have h2 := bulkL_take l k
   simp only [List.length_cons]; omega
  by_cases hkm : k < m
  ·have hkl : k < l.length := by rw [← hm.out]; exact hkm
   have hAe := hA.out (by omega)
   subst hAe
   obtain ⟨o, ho⟩ : ∃ o, o = l[k] := ⟨_, rfl⟩
   have hob0 := hl.out k hkl
   have hob := hob0.kept hB
   have hcv := hlv.out k hkl
   rw [← ho] at hob hob0
   have hzo : o.bulk ≤ N := by have := bulkL_at l k hkl; rw [← ho] at this; omega
   have hfo := hob.fits
   have hsh := show_len o hfo
   obtain ⟨us, hus⟩ : ∃ us, us = vl k := ⟨_, rfl⟩
   rw [← hus] at hob hob0 hcv
   obtain ⟨en, E1, E2, E3, en1, ec1, en2, ec2, en3, ec3, hys⟩ := ob_five2 hob
   subst hys
   obtain ⟨kk, hkk⟩ : ∃ k, k = o.kind := ⟨_, rfl⟩
   rw [← hkk] at hob hob0 hcv
   have five : ∀ j u, [Value.int .i64 kk, .int .i64 en, .slice E1 en1 ec1, .slice E2 en2 ec2, .slice E3 en3 ec3][j]? = some u → wr.cell? ⟨gL, oL + k * 5 + j, none⟩ = some u := fun j u hj => by
    have h0 := hcv j (by have := (List.getElem?_eq_some_iff.1 hj).1; simpa using this)
    rw [hj] at h0
    have h1 := (hB.cell (cell_lt h0)).trans h0
    rw [show oL + (5 * k + j) = oL + k * 5 + j by omega] at h1
    exact h1
   have x0 : wr.cell? ⟨gL, oL + k * 5, none⟩ = some (.int .i64 kk) := five 0 _ rfl
   have x1 : wr.cell? ⟨gL, oL + k * 5 + 1, none⟩ = some (.int .i64 en) := five 1 _ rfl
   have x2 : wr.cell? ⟨gL, oL + k * 5 + 2, none⟩ = some (.slice E1 en1 ec1) := five 2 _ rfl
   have x3 : wr.cell? ⟨gL, oL + k * 5 + 3, none⟩ = some (.slice E2 en2 ec2) := five 3 _ rfl
   have x4 : wr.cell? ⟨gL, oL + k * 5 + 4, none⟩ = some (.slice E3 en3 ec3) := five 4 _ rfl
   have hT : 91 :: showL true (l.take (k + 1)) = (91 :: showL true (l.take k)) ++ ((if k = 0 then [] else [32]) ++ o.show) := by
    rw [List.take_succ_eq_append_getElem hkl, showL_snoc, ← ho, List.cons_append]
    by_cases h0 : k = 0
    ·subst h0; simp
    ·have hne : l.take k ≠ [] := fun h => by
      have := congrArg List.length h
      rw [List.length_take, List.length_nil] at this
      omega
     rw [if_neg (fun h => hne h.2), if_neg h0]
   have c31 : ∀ W, Below w.heap.size w W → Calls Tryz.prog 76 #[.agg #[.int .i64 kk, .int .i64 en, .slice E1 en1 ec1, .slice E2 en2 ec2, .slice E3 en3 ec3]] W (RB W o.show) := fun W hW => hs.out o _ W (hob0.kept hW) hzo (htab.out.below hW)
   clear five hcv hob hob0 hus hfo
   refine h8_ ho hkk hT hO hB c31 hlen hsh ?_; clear ho hkk hT hO hB c31 hlen hsh; intro ho hkk hT hO hB c31 hlen hsh
   go_upto_region 5 with (fail)
   obtain ⟨W3, hW3, hb3⟩ := newA wr 32 #[.int .i64 kk, .int .i64 en, .slice E1 en1 ec1, .slice E2 en2 ec2, .slice E3 en3 ec3]
   have z3 : W3.heap.size = wr.heap.size + 1 := by rw [hW3, World.size_alloc]
   have ecell : ∀ i v, #[Value.int .i64 kk, .int .i64 en, .slice E1 en1 ec1, .slice E2 en2 ec2, .slice E3 en3 ec3][i]? = some v → W3.cell? ⟨wr.heap.size, i, none⟩ = some v := by
    intro i v hv
    have h0 := alloc_cell (w := wr) (vs := #[Value.int .i64 kk, .int .i64 en, .slice E1 en1 ec1, .slice E2 en2 ec2, .slice E3 en3 ec3]) (e := 32) (i := i)
    rw [Nat.zero_add, hv] at h0
    rw [hW3]; exact h0
   rw [← hW3]
   have ev : ∀ W, Below W3.heap.size W3 W → W.cell? ⟨wr.heap.size, 0, none⟩ = some (.int .i64 kk) ∧ W.cell? ⟨wr.heap.size, 1, none⟩ = some (.int .i64 en) ∧ W.cell? ⟨wr.heap.size, 2, none⟩ = some (.slice E1 en1 ec1) ∧ W.cell? ⟨wr.heap.size, 3, none⟩ = some (.slice E2 en2 ec2) ∧ W.cell? ⟨wr.heap.size, 4, none⟩ = some (.slice E3 en3 ec3) := fun W hW =>
    ⟨(hW.cell (cell_lt (ecell 0 _ rfl))).trans (ecell 0 _ rfl), (hW.cell (cell_lt (ecell 1 _ rfl))).trans (ecell 1 _ rfl), (hW.cell (cell_lt (ecell 2 _ rfl))).trans (ecell 2 _ rfl), (hW.cell (cell_lt (ecell 3 _ rfl))).trans (ecell 3 _ rfl), (hW.cell (cell_lt (ecell 4 _ rfl))).trans (ecell 4 _ rfl)⟩
   clear x0 x1 x2 x3 x4 ecell
   replace hW3 := hi_ hW3
   by_cases h0 : k = 0
   ·have hT2 : 91 :: showL true (l.take (k + 1)) = (91 :: showL true (l.take k)) ++ o.show := by rw [hT.out, if_pos h0, List.nil_append]
    obtain ⟨f0, f1, f2, f3, f4⟩ := ev W3 (Below.refl _ _)
    have c := c31.out W3 (hB.out.trans (hb3.mono lB))
    have hb3' := hi_ hb3
    clear ev hb3
    replace hT2 := hi_ hT2
    subst h0
    go_wp2_with (first
     | (go_at_call 76; (with_reducible refine c.mono ?_); rintro e w4 ⟨A4, c4, rfl, hb4, hA4, hB4⟩; have hBw4 : Below wr.heap.size wr w4 := bthen hb3'.out hB4; have hz4 := hBw4.size; replace hBw4 := hi_ hBw4; replace hb4 := hi_ hb4; clear hB4)
     | (at_builtin; refine app_b rfl _ _ rfl w.heap.size _ _ rfl (hO.out.below hBw4.out) A4 _ c4 _ rfl rfl hb4.out hA4 (by have q1 := hlen.out; have q2 := hsh.out; omega) (by omega) ?_; intro v' w5 hO5 hB5; replace hO5 := hi_ hO5; replace hB5 := hi_ hB5))
    go_roundw
    case rel => exact ⟨0 + 1, by omega, by go_num, by rw [hT2.out]; exact hO5.out, (hB.out.trans (hBw4.out.mono lB)).trans hB5.out⟩
    case measure => simp [RowKit.intOf]; omega
   ·have hT2 : 91 :: showL true (l.take (k + 1)) = ((91 :: showL true (l.take k)) ++ [32]) ++ o.show := by rw [hT.out, if_neg h0, List.append_assoc]
    have hkp : decide ((0 : Int) < (k : Int)) = true := by simp; omega
    have hown := hO.out.row
    have ng : ∀ j, wr.heap.size ≤ j → u3.ownBlock ≠ some j := fun j hj e => by have := (hown.lt j e).2; omega
    have hO32 := hO.out.below (bthen hb3 ((Below.refl _ _).alloc (Nat.le_refl _) (.cells #[.int .u8 ((32 : UInt8).toNat : Int)] 5)))
    have hWa : Below w.heap.size w (W3.alloc (.cells #[.int .u8 ((32 : UInt8).toNat : Int)] 5)) := hB.out.trans ((bthen hb3 ((Below.refl _ _).alloc (Nat.le_refl _) _)).mono lB)
    replace hWa := hi_ hWa
    have hb3' := hi_ hb3
    replace hT2 := hi_ hT2
    obtain ⟨f0, f1, f2, f3, f4⟩ := ev W3 (Below.refl _ _)
    have fl : ∀ i v, W3.cell? ⟨wr.heap.size, i, none⟩ = some v → ∀ W' : World, (∀ j, j < (W3.alloc (.cells #[.int .u8 ((32 : UInt8).toNat : Int)] 5)).heap.size → u3.ownBlock ≠ some j → W'.heap[j]? = (W3.alloc (.cells #[.int .u8 ((32 : UInt8).toNat : Int)] 5)).heap[j]?) → W'.cell? ⟨wr.heap.size, i, none⟩ = some v := fun i v h W' hg => by
     have h1 := hg wr.heap.size (by rw [World.size_alloc]; omega) (ng _ (Nat.le_refl _))
     rw [World.cell?_of_block h1]
     exact (((Below.refl _ _).alloc (Nat.le_refl _) _ : Below W3.heap.size W3 (W3.alloc (.cells #[.int .u8 ((32 : UInt8).toNat : Int)] 5))).cell (p := ⟨wr.heap.size, i, none⟩) (by show wr.heap.size < _; omega)).trans h
    replace fl := hi_ fl
    replace hO32 := hi_ hO32
    have hown := hi_ hown
    replace ng := hi_ ng
    clear hb3 ev
    go_wp2_with (first
     | (at_builtin; refine app_bg rfl _ _ rfl w.heap.size _ _ rfl hO32.out (some ⟨wr.heap.size + 1, 0, none⟩) 1 1 [32] rfl rfl (by rw [← z3]; exact byt_new1 W3 32 5) (fun e => (by cases e)) (by have q1 := hlen.out; simp only [List.length_cons, List.length_nil] at q1 ⊢; omega) (by rw [World.size_alloc]; omega) ?_; intro v' w5 hO5 hB5 hg5; have g0 := fl.out 0 _ f0 w5 hg5; have g1 := fl.out 1 _ f1 w5 hg5; have g2 := fl.out 2 _ f2 w5 hg5; have g3 := fl.out 3 _ f3 w5 hg5; have g4 := fl.out 4 _ f4 w5 hg5; have hw5 : Below w.heap.size w w5 := hWa.out.trans hB5; have c := c31.out w5 hw5; have hz5 := hw5.size; replace hO5 := hi_ hO5; replace hB5 := hi_ hB5; replace hw5 := hi_ hw5; replace hg5 := hi_ hg5)
     | (go_at_call 76; (with_reducible refine c.mono ?_); rintro e w4 ⟨A4, c4, rfl, hb4, hA4, hB4⟩; have hw4 := bthen hw5.out hB4; have hz4 := hw4.size; have hO4 := hO5.out.below hB4; replace hw4 := hi_ hw4; replace hb4 := hi_ hb4; replace hO4 := hi_ hO4; clear hB4)
     | (at_builtin; refine app_b rfl _ _ rfl w.heap.size _ _ rfl hO4.out A4 _ c4 _ rfl rfl hb4.out hA4 (by have q1 := hlen.out; have q2 := hsh.out; rw [List.length_append]; simp only [List.length_cons, List.length_nil] at q1 ⊢; omega) (by omega) ?_; intro v'' w6 hO6 hB6; replace hO6 := hi_ hO6; replace hB6 := hi_ hB6))
    go_roundw
    case rel => exact ⟨k + 1, by omega, by go_num, by rw [hT2.out]; exact hO6.out, hw4.out.trans hB6.out⟩
    case measure => simp [RowKit.intOf]; omega
  ·obtain rfl : k = m := by omega
   have hT : l.take k = l := by rw [hm.out, List.take_length]
   rw [hT] at hO
   have hO2 := hi_ hO
   have hB2 := hi_ hB
   replace hT := hi_ hT
   clear hO hB hlen
   go_wp2_with (at_builtin; refine app_b rfl _ _ rfl w.heap.size _ _ rfl (hO2.out.below ((Below.refl _ _).alloc (Nat.le_refl _) _)) (some ⟨wr.heap.size, 0, none⟩) 1 1 [93] rfl rfl (byt_new1 wr 93 5) (fun e => (by cases e)) (by have q := hsl2.out; simp only [List.length_cons, List.length_nil]; omega) (by rw [World.size_alloc]; omega) ?_; intro v' w2 hO3 hB3; replace hO3 := hi_ hO3; replace hB3 := hi_ hB3)
   go_ret
   exact ⟨_, rfl, by have := hO3.out; simpa using this, (hB2.out.alloc lB _).trans hB3.out⟩
end
end Go.Proofs.YthffpbkndnhlfaaGreatDoor

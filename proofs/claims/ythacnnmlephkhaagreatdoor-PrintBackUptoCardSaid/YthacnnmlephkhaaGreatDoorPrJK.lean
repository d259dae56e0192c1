/- Walks and laws, joined: part K. No condition. -/
import Derived.Test.YthacnnmlephkhaaGreatDoorPrJJ
import Derived.Test.YthacnnmlephkhaaGreatDoorPrJI
import Derived.Test.YthacnnmlephkhaaGreatDoorPrJH
import Derived.Test.YthacnnmlephkhaaGreatDoorPrJG
import Derived.Test.YthacnnmlephkhaaGreatDoorPrJD
import Derived.Deep.QuietTactic
import Derived.Deep.RegionHeld
set_option linter.unusedSimpArgs false
set_option linter.unusedVariables false
/- The document's value: an object to such a depth. No condition. -/
namespace Go.Proofs.YthacnnmlephkhaaGreatDoor
open Go Go.RowKit Go.Wk Go.Rd Go.Fx
section
variable {L : Nat} {A : Option Addr} {c : Nat} {bs : Bs} {D P : Value} {w w' : World} {r r' u : Bs} {k : Tok}
theorem tok_i64 (h : tokS r = .ok k u) : -9223372036854775808 ≤ k.n ∧ k.n ≤ 9223372036854775807 := by
 unfold tokS at h
 have key : ∀ B : Bs, tokA B = .ok k u → -9223372036854775808 ≤ k.n ∧ k.n ≤ 9223372036854775807 := fun B h => by
  cases B with
  | nil => rw [tokA] at h; cases h; simp
  | cons x t =>
   rw [tokA] at h
   have ht : ∀ kk R, tokOf kk (x :: t) R = .ok k u → -9223372036854775808 ≤ k.n ∧ k.n ≤ 9223372036854775807 := fun kk R h => by
    cases R with
    | ok b v => cases h; simp
    | err e v => cases h
   unfold numS at h
   have hp := parse_i64 (runS (x :: t))
   repeat' split at h
   all_goals first
    | (cases h; done)
    | exact ht _ _ h
    | (cases h; exact hp)
    | (cases h; simp; done)
 exact key _ h
theorem word_eq (b s : Bs) (S : ByteArray) (hS : S.data.toList = s) : ((bytes b).toList == S.toList) = decide (b = s) := by
 rw [ByteArray.toList_eq, ByteArray.toList_eq, hS, Bool.eq_iff_iff]
 show (b == s) = true ↔ _
 simp
theorem val_end {B1 B2 : Nat} {W Wf : World} {o : Ob} {v0 v1 v2 v3 v4 : Value} (hS : Save L w W) (hL : LX L A c bs D P W r) (hR : Blk W w.heap.size 26 #[.int .i64 0, .int .i64 0, .slice none 0 0, .slice none 0 0, .slice none 0 0]) (hne : L ≠ w.heap.size) (hAw : 0 < bs.length → ∀ x, A = some x → x.block < w.heap.size) (hI : ObI B1 B2 W o [v0, v1, v2, v3, v4]) (hB1 : w.heap.size < B1) (hB2 : B2 = W.heap.size)
 (hWf : Wf = ((((W.setCell ⟨w.heap.size, 0, none⟩ v0).setCell ⟨w.heap.size, 1, none⟩ v1).setCell ⟨w.heap.size, 2, none⟩ v2).setCell ⟨w.heap.size, 3, none⟩ v3).setCell ⟨w.heap.size, 4, none⟩ v4) :
 Blk Wf w.heap.size 26 #[v0, v1, v2, v3, v4] ∧ ObI w.heap.size Wf.heap.size Wf o [v0, v1, v2, v3, v4] ∧ LX L A c bs D P Wf r ∧ Save L w Wf := by
 obtain ⟨hbf, hgf, hzf⟩ := set_five hR hWf
 refine ⟨hbf, ?_, hL.grown_ hgf hne (fun h0 x hx => by have := hAw h0 x hx; omega), hS.grown_ hgf (Nat.le_refl _)⟩
 have h1 := hI.keep (w' := Wf) (fun b h1 h2 => hgf.block b (by have := hI.1; omega) (by intro e; injection e with e; omega)) (by omega)
 rw [hB2] at h1
 rw [hzf]
 exact h1.wide (by omega)
theorem five_ex {w : World} {o : Ob} {vs : List Value} (h : ObAt w o vs) : ∃ (k n : Int) (A1 A2 A3 : Option Addr) (n1 c1 n2 c2 n3 c3 : Nat), vs = [.int .i64 k, .int .i64 n, .slice A1 n1 c1, .slice A2 n2 c2, .slice A3 n3 c3] := by
 obtain ⟨n, A1, A2, A3, n1, c1, n2, c2, n3, c3, e⟩ := ob_five2 h
 exact ⟨_, _, _, _, _, _, _, _, _, _, _, e⟩
theorem bytes_O {B : Nat} {w : World} {k : Int} {v : Value} {b : Bs} (hk1 : -9223372036854775808 ≤ k) (hk2 : k ≤ 9223372036854775807) (h : Own B w v b) : ObI B w.heap.size w (.mk k 0 b [] []) [.int .i64 k, .int .i64 0, v, .slice none 0 0, .slice none 0 0] :=
 built (tO := 26) (tE := 53) hk1 hk2 (by decide) (by decide) h.row h.len (RowG.nil _ _ _ _ _) (RowG.nil _ _ _ _ _)
set_option maxHeartbeats 32000000 in
set_option maxRecDepth 100000 in
theorem value_step {pl : Bool} {d : Nat} (ih : ∀ d', d = d' + 1 → ValC pl d') (hd : d ≤ 1001) : ValC pl d := by
 intro L A c bs D w r h hsm
 have hLw := h.lt
 have hAw := h.a_lt
 obtain ⟨W1, hW1⟩ : ∃ W, W = w.alloc (.cells #[.int .i64 0, .int .i64 0, .slice none 0 0, .slice none 0 0, .slice none 0 0] 26) := ⟨_, rfl⟩
 have b1 : Below w.heap.size w W1 := by rw [hW1]; exact (Below.refl _ _).alloc (Nat.le_refl _) _
 have z1 : W1.heap.size = w.heap.size + 1 := by rw [hW1, World.size_alloc]
 have hR := Blk.new w 26 #[.int .i64 0, .int .i64 0, .slice none 0 0, .slice none 0 0, .slice none 0 0]
 rw [← hW1] at hR
 have hL := h.below b1
 have hS := Save.of_below (L := L) b1
 have hneR : w.heap.size ≠ L := by omega
 have hsuf := h.suf
 obtain ⟨R, hRe⟩ : ∃ R, R = valS pl d r := ⟨_, rfl⟩
 rw [← hRe]
 obtain ⟨di, hdi⟩ : ∃ i : Int, i = (d : Nat) := ⟨_, rfl⟩
 rw [← hdi]
 replace hdi := hi_ hdi
 have l1 := hL.blk.cell 1
 have lv := hL.blk.frozen 1
 have p0 := hR.cell 0
 have f0 := hR.frozen 0
 have p1 := hR.cell 1
 have f1 := hR.frozen 1
 have p2 := hR.cell 2
 have f2 := hR.frozen 2
 have p3 := hR.cell 3
 have f3 := hR.frozen 3
 have p4 := hR.cell 4
 have f4 := hR.frozen 4
 replace hRe := hi_ hRe
 replace hAw := hi_ hAw
 replace hL := hi_ hL
 replace hR := hi_ hR
 replace hS := hi_ hS
 replace ih := hi_ ih
 replace z1 := hi_ z1
 clear h b1
 cases ht : tokS r with
 | err n u =>
  have hE2 : R = .err n u := by rw [hRe.out, valS, ht]
  subst hE2
  obtain ⟨a1, ha1⟩ : ∃ a : Int, a = (pos bs (blankM false r) : Nat) := ⟨_, rfl⟩
  have ctok := fun W (h : LX L A c bs D (.bool pl) W r) => rx_err h ht ha1
  replace ctok := hi_ ctok
  clear ha1 ht
  go_enter Tryz.func79, Tryz.ntmps79
  go_upto_region 2 with (fail)
  go_at_call 110
  rw [← hW1]
  replace hW1 := hi_ hW1
  (with_reducible refine (ctok.out _ hL.out).mono ?_)
  rintro e w3 ⟨hn0, rfl, hL3, hS3⟩
  obtain ⟨w4, hw4⟩ : ∃ W, W = w3.alloc (.cells #[.int .i64 0, .int .i64 a1, .int .i64 0, .slice none 0 0] 99) := ⟨_, rfl⟩
  have b4 : Below w3.heap.size w3 w4 := by rw [hw4]; exact (Below.refl _ _).alloc (Nat.le_refl _) _
  have hK4 : Blk w4 w3.heap.size 99 #[.int .i64 0, .int .i64 a1, .int .i64 0, .slice none 0 0] := by rw [hw4]; exact Blk.new w3 _ _
  have k40 := hK4.cell 0
  have k41c := hK4.cell 1
  have k42 := hK4.cell 2
  have k43 := hK4.cell 3
  have z4 : w.heap.size + 1 ≤ w4.heap.size := by have := hS3.size; have := b4.size; have := z1.out; omega
  replace hL := hi_ hL3
  replace hR := hi_ (hS3.blk hneR hR.out)
  replace hS := hi_ (hS.out.trans hS3)
  replace hL := hi_ (hL.out.below b4)
  replace hR := hi_ (hR.out.below b4 hR.out.lt)
  replace hS := hi_ (hS.out.then_ b4)
  replace l1 := hL.out.blk.cell 1
  replace lv := hL.out.blk.frozen 1
  replace p0 := hR.out.cell 0
  replace f0 := hR.out.frozen 0
  replace p1 := hR.out.cell 1
  replace f1 := hR.out.frozen 1
  replace p2 := hR.out.cell 2
  replace f2 := hR.out.frozen 2
  replace p3 := hR.out.cell 3
  replace f3 := hR.out.frozen 3
  replace p4 := hR.out.cell 4
  replace f4 := hR.out.frozen 4
  go_upto_region 2 with (fail)
  rw [← hw4]
  replace hw4 := hi_ hw4
  clear b4 hS3 hL3
  have hnb : (n != 0) = true := by simpa using hn0
  go_wp2
  obtain ⟨Wf, hWf⟩ : ∃ W, W = ((((w4.setCell ⟨w.heap.size, 0, none⟩ (.int .i64 0)).setCell ⟨w.heap.size, 1, none⟩ (.int .i64 0)).setCell ⟨w.heap.size, 2, none⟩ (.slice none 0 0)).setCell ⟨w.heap.size, 3, none⟩ (.slice none 0 0)).setCell ⟨w.heap.size, 4, none⟩ (.slice none 0 0) := ⟨_, rfl⟩
  rw [← hWf]
  obtain ⟨hbf, hLf, hSf⟩ := whole_end hS.out hL.out hR.out (Nat.le_refl _) hneR.symm hAw.out hWf
  have u0 := hbf.cell 0
  have u1 := hbf.cell 1
  have u2 := hbf.cell 2
  have u3 := hbf.cell 3
  have u4 := hbf.cell 4
  replace hLf := hi_ hLf
  replace hSf := hi_ hSf
  replace hWf := hi_ hWf
  replace hn0 := hi_ hn0
  clear hbf
  exact bodyPost_ret (by simp [results, Tryz.results79, go_sem, u0, u1, u2, u3, u4]; try rfl) rfl ⟨hn0.out, rfl, hLf.out, hSf.out⟩
 | ok k u =>
  have hn64 := tok_i64 ht
  obtain ⟨a1, ha1⟩ : ∃ a : Int, a = (pos bs (blankM false r) : Nat) := ⟨_, rfl⟩
  have ctok := fun W (h : LX L A c bs D (.bool pl) W r) => rx_ok h ht ha1
  have hbsuf : blankM false r <:+ bs := (blank_suf false r).trans hsuf
  have cst := fun W n (h : LX L A c bs D (.bool pl) W u) => rp_stop h hbsuf ha1 n
  replace cst := hi_ cst
  obtain ⟨kk, hkk⟩ : ∃ x, x = k.k := ⟨_, rfl⟩
  rw [← hkk] at ctok
  replace ctok := hi_ ctok
  have hE2 := hRe.out
  rw [valS, ht] at hE2
  simp only [] at hE2
  rw [← hkk] at hE2
  replace hE2 := hi_ hE2
  replace hkk := hi_ hkk
  replace hn64 := hi_ hn64
  clear ha1 hbsuf ht hRe hsuf
  go_enter Tryz.func79, Tryz.ntmps79
  go_upto_region 2 with (fail)
  go_at_call 110
  rw [← hW1]
  replace hW1 := hi_ hW1
  (with_reducible refine (ctok.out _ hL.out).mono ?_)
  rintro e w3 ⟨A3, c3, rfl, hO3, hL3, hS3⟩
  obtain ⟨w4, hw4⟩ : ∃ W, W = w3.alloc (.cells #[.int .i64 kk, .int .i64 a1, .int .i64 k.n, .slice A3 k.b.length c3] 99) := ⟨_, rfl⟩
  have b4 : Below w3.heap.size w3 w4 := by rw [hw4]; exact (Below.refl _ _).alloc (Nat.le_refl _) _
  have hK4 : Blk w4 w3.heap.size 99 #[.int .i64 kk, .int .i64 a1, .int .i64 k.n, .slice A3 k.b.length c3] := by rw [hw4]; exact Blk.new w3 _ _
  have k40 := hK4.cell 0
  have k41c := hK4.cell 1
  have k42 := hK4.cell 2
  have k43 := hK4.cell 3
  have z4 : w.heap.size + 1 ≤ w4.heap.size := by have := hS3.size; have := b4.size; have := z1.out; omega
  replace hL := hi_ hL3
  replace hR := hi_ (hS3.blk hneR hR.out)
  replace hS := hi_ (hS.out.trans hS3)
  replace hL := hi_ (hL.out.below b4)
  replace hR := hi_ (hR.out.below b4 hR.out.lt)
  replace hS := hi_ (hS.out.then_ b4)
  replace l1 := hL.out.blk.cell 1
  replace lv := hL.out.blk.frozen 1
  replace p0 := hR.out.cell 0
  replace f0 := hR.out.frozen 0
  replace p1 := hR.out.cell 1
  replace f1 := hR.out.frozen 1
  replace p2 := hR.out.cell 2
  replace f2 := hR.out.frozen 2
  replace p3 := hR.out.cell 3
  replace f3 := hR.out.frozen 3
  replace p4 := hR.out.cell 4
  replace f4 := hR.out.frozen 4
  have hOb4 := hO3.below b4
  obtain ⟨_, _, e3, hby4, hA3, _⟩ := hOb4.out2 hOb4.len
  cases e3
  replace hOb4 := hi_ hOb4
  replace hby4 := hi_ hby4
  clear hA3
  go_upto_region 2 with (fail)
  rw [← hw4]
  replace hw4 := hi_ hw4
  replace hK4 := hi_ hK4
  clear hO3 b4 hS3 hL3
  replace hE2 := hE2.out
  by_cases hk0 : kk = 0
  ·subst hk0
   rw [if_pos rfl] at hE2
   subst hE2
   go_wp2_with (go_at_call 111; (with_reducible refine (cst.out _ _ hL.out).mono ?_); rintro e w5 ⟨rfl, hL5, hS5⟩; replace hL := hi_ hL5; replace hR := hi_ (hS5.blk hneR hR.out); replace hS := hi_ (hS.out.trans hS5); replace l1 := hL.out.blk.cell 1; replace lv := hL.out.blk.frozen 1; replace p0 := hR.out.cell 0; replace f0 := hR.out.frozen 0; replace p1 := hR.out.cell 1; replace f1 := hR.out.frozen 1; replace p2 := hR.out.cell 2; replace f2 := hR.out.frozen 2; replace p3 := hR.out.cell 3; replace f3 := hR.out.frozen 3; replace p4 := hR.out.cell 4; replace f4 := hR.out.frozen 4; clear hL5 hS5)
   obtain ⟨Wf, hWf⟩ : ∃ W, W = ((((w5.setCell ⟨w.heap.size, 0, none⟩ (.int .i64 0)).setCell ⟨w.heap.size, 1, none⟩ (.int .i64 0)).setCell ⟨w.heap.size, 2, none⟩ (.slice none 0 0)).setCell ⟨w.heap.size, 3, none⟩ (.slice none 0 0)).setCell ⟨w.heap.size, 4, none⟩ (.slice none 0 0) := ⟨_, rfl⟩
   rw [← hWf]
   obtain ⟨hbf, hLf, hSf⟩ := whole_end hS.out hL.out hR.out (Nat.le_refl _) hneR.symm hAw.out hWf
   have u0 := hbf.cell 0
   have u1 := hbf.cell 1
   have u2 := hbf.cell 2
   have u3 := hbf.cell 3
   have u4 := hbf.cell 4
   replace hLf := hi_ hLf
   replace hSf := hi_ hSf
   replace hWf := hi_ hWf
   clear hbf
   exact bodyPost_ret (by simp [results, Tryz.results79, go_sem, u0, u1, u2, u3, u4]; try rfl) rfl ⟨by decide, rfl, hLf.out, hSf.out⟩
  rw [if_neg hk0] at hE2
  have hn0 : (kk == 0) = false := by simpa using hk0
  by_cases hk1 : kk = 1
  ·subst hk1
   rw [if_pos rfl] at hE2
   subst hE2
   have cw := rp_whole (kk := 1) (n := k.n) (at1 := .int .i64 a1) (v1 := .slice A3 k.b.length c3) hL.out hn64.out
   replace cw := hi_ cw
   go_wp2_with (go_at_call 112; (with_reducible refine (cw.out).mono ?_); rintro e w5 ⟨us, rfl, hI5, hL5, hS5⟩; obtain ⟨xk, xn, F1, F2, F3, fn1, fc1, fn2, fc2, fn3, fc3, hxs⟩ := five_ex hI5.ob; subst hxs; have hI := hi_ hI5; replace hL := hi_ hL5; replace hR := hi_ (hS5.blk hneR hR.out); replace hS := hi_ (hS.out.trans hS5); replace l1 := hL.out.blk.cell 1; replace lv := hL.out.blk.frozen 1; replace p0 := hR.out.cell 0; replace f0 := hR.out.frozen 0; replace p1 := hR.out.cell 1; replace f1 := hR.out.frozen 1; replace p2 := hR.out.cell 2; replace f2 := hR.out.frozen 2; replace p3 := hR.out.cell 3; replace f3 := hR.out.frozen 3; replace p4 := hR.out.cell 4; replace f4 := hR.out.frozen 4; clear hL5 hS5 hI5)
   obtain ⟨Wf, hWf⟩ : ∃ W, W = (((((w5.setCell ⟨w.heap.size, 0, none⟩ (.int .i64 xk)).setCell ⟨w.heap.size, 1, none⟩ (.int .i64 xn)).setCell ⟨w.heap.size, 2, none⟩ (.slice F1 fn1 fc1)).setCell ⟨w.heap.size, 3, none⟩ (.slice F2 fn2 fc2)).setCell ⟨w.heap.size, 4, none⟩ (.slice F3 fn3 fc3)) := ⟨_, rfl⟩
   rw [← hWf]
   obtain ⟨hbf, hIf, hLf, hSf⟩ := val_end hS.out hL.out hR.out hneR.symm hAw.out (hI.out) (by have := z1.out; omega) rfl hWf
   have u0 := hbf.cell 0
   have u1 := hbf.cell 1
   have u2 := hbf.cell 2
   have u3 := hbf.cell 3
   have u4 := hbf.cell 4
   replace hIf := hi_ hIf
   replace hLf := hi_ hLf
   replace hSf := hi_ hSf
   replace hWf := hi_ hWf
   clear hbf
   exact bodyPost_ret (by simp [results, Tryz.results79, go_sem, u0, u1, u2, u3, u4]; try rfl) rfl ⟨_, rfl, hIf.out, hLf.out, hSf.out⟩
  rw [if_neg hk1] at hE2
  have hn1 : (kk == 1) = false := by simpa using hk1
  by_cases hk2 : kk = 2
  ·subst hk2
   rw [if_pos rfl] at hE2
   subst hE2
   go_wp2
   obtain ⟨Wf, hWf⟩ : ∃ W, W = (((((w4.setCell ⟨w.heap.size, 0, none⟩ (.int .i64 3)).setCell ⟨w.heap.size, 1, none⟩ (.int .i64 k.n)).setCell ⟨w.heap.size, 2, none⟩ (.slice none 0 0)).setCell ⟨w.heap.size, 3, none⟩ (.slice none 0 0)).setCell ⟨w.heap.size, 4, none⟩ (.slice none 0 0)) := ⟨_, rfl⟩
   rw [← hWf]
   obtain ⟨hbf, hIf, hLf, hSf⟩ := val_end hS.out hL.out hR.out hneR.symm hAw.out (num_O (B := w4.heap.size) 3 k.n (by decide) (by decide) hn64.out) (by have := z1.out; omega) rfl hWf
   have u0 := hbf.cell 0
   have u1 := hbf.cell 1
   have u2 := hbf.cell 2
   have u3 := hbf.cell 3
   have u4 := hbf.cell 4
   replace hIf := hi_ hIf
   replace hLf := hi_ hLf
   replace hSf := hi_ hSf
   replace hWf := hi_ hWf
   clear hbf
   exact bodyPost_ret (by simp [results, Tryz.results79, go_sem, u0, u1, u2, u3, u4]; try rfl) rfl ⟨_, rfl, hIf.out, hLf.out, hSf.out⟩
  rw [if_neg hk2] at hE2
  have hn2 : (kk == 2) = false := by simpa using hk2
  by_cases hk3 : kk = 3
  ·subst hk3
   rw [if_pos rfl] at hE2
   subst hE2
   go_wp2
   obtain ⟨Wf, hWf⟩ : ∃ W, W = (((((w4.setCell ⟨w.heap.size, 0, none⟩ (.int .i64 4)).setCell ⟨w.heap.size, 1, none⟩ (.int .i64 0)).setCell ⟨w.heap.size, 2, none⟩ (.slice A3 k.b.length c3)).setCell ⟨w.heap.size, 3, none⟩ (.slice none 0 0)).setCell ⟨w.heap.size, 4, none⟩ (.slice none 0 0)) := ⟨_, rfl⟩
   rw [← hWf]
   obtain ⟨hbf, hIf, hLf, hSf⟩ := val_end hS.out hL.out hR.out hneR.symm hAw.out (bytes_O (k := 4) (by decide) (by decide) hOb4.out) (by have := z1.out; omega) rfl hWf
   have u0 := hbf.cell 0
   have u1 := hbf.cell 1
   have u2 := hbf.cell 2
   have u3 := hbf.cell 3
   have u4 := hbf.cell 4
   replace hIf := hi_ hIf
   replace hLf := hi_ hLf
   replace hSf := hi_ hSf
   replace hWf := hi_ hWf
   clear hbf
   exact bodyPost_ret (by simp [results, Tryz.results79, go_sem, u0, u1, u2, u3, u4]; try rfl) rfl ⟨_, rfl, hIf.out, hLf.out, hSf.out⟩
  rw [if_neg hk3] at hE2
  have hn3 : (kk == 3) = false := by simpa using hk3
  by_cases hk4 : kk = 4
  ·subst hk4
   rw [if_pos rfl] at hE2
   subst hE2
   go_wp2
   obtain ⟨Wf, hWf⟩ : ∃ W, W = (((((w4.setCell ⟨w.heap.size, 0, none⟩ (.int .i64 5)).setCell ⟨w.heap.size, 1, none⟩ (.int .i64 0)).setCell ⟨w.heap.size, 2, none⟩ (.slice A3 k.b.length c3)).setCell ⟨w.heap.size, 3, none⟩ (.slice none 0 0)).setCell ⟨w.heap.size, 4, none⟩ (.slice none 0 0)) := ⟨_, rfl⟩
   rw [← hWf]
   obtain ⟨hbf, hIf, hLf, hSf⟩ := val_end hS.out hL.out hR.out hneR.symm hAw.out (bytes_O (k := 5) (by decide) (by decide) hOb4.out) (by have := z1.out; omega) rfl hWf
   have u0 := hbf.cell 0
   have u1 := hbf.cell 1
   have u2 := hbf.cell 2
   have u3 := hbf.cell 3
   have u4 := hbf.cell 4
   replace hIf := hi_ hIf
   replace hLf := hi_ hLf
   replace hSf := hi_ hSf
   replace hWf := hi_ hWf
   clear hbf
   exact bodyPost_ret (by simp [results, Tryz.results79, go_sem, u0, u1, u2, u3, u4]; try rfl) rfl ⟨_, rfl, hIf.out, hLf.out, hSf.out⟩
  rw [if_neg hk4] at hE2
  have hn4 : (kk == 4) = false := by simpa using hk4
  by_cases hk9 : kk = 9
  ·subst hk9
   rw [if_pos rfl] at hE2
   have hcv := conv_any w4 A3 c3 k.b hby4.out
   have hq1 := word_eq k.b [116, 114, 117, 101] ⟨#[116, 114, 117, 101]⟩ rfl
   have hq2 := word_eq k.b [102, 97, 108, 115, 101] ⟨#[102, 97, 108, 115, 101]⟩ rfl
   have hq3 := word_eq k.b [110, 117, 108, 108] ⟨#[110, 117, 108, 108]⟩ rfl
   have hy : ∀ b : Bs, ByteArray.toList ⟨b.toArray⟩ = b := fun b => by rw [ByteArray.toList_eq]
   rw [hy [116, 114, 117, 101]] at hq1
   rw [hy [102, 97, 108, 115, 101]] at hq2
   rw [hy [110, 117, 108, 108]] at hq3
   unfold wordS at hE2
   clear hy
   by_cases hb1 : k.b = [116, 114, 117, 101]
   ·rw [if_pos hb1] at hE2
    rw [decide_eq_true hb1] at hq1
    subst hE2
    clear hb1 hq2 hq3
    go_wp2
    obtain ⟨Wf, hWf⟩ : ∃ W, W = (((((w4.setCell ⟨w.heap.size, 0, none⟩ (.int .i64 1)).setCell ⟨w.heap.size, 1, none⟩ (.int .i64 1)).setCell ⟨w.heap.size, 2, none⟩ (.slice none 0 0)).setCell ⟨w.heap.size, 3, none⟩ (.slice none 0 0)).setCell ⟨w.heap.size, 4, none⟩ (.slice none 0 0)) := ⟨_, rfl⟩
    rw [← hWf]
    obtain ⟨hbf, hIf, hLf, hSf⟩ := val_end hS.out hL.out hR.out hneR.symm hAw.out (num_O (B := w4.heap.size) 1 1 (by decide) (by decide) (by decide)) (by have := z1.out; omega) rfl hWf
    have u0 := hbf.cell 0
    have u1 := hbf.cell 1
    have u2 := hbf.cell 2
    have u3 := hbf.cell 3
    have u4 := hbf.cell 4
    replace hIf := hi_ hIf
    replace hLf := hi_ hLf
    replace hSf := hi_ hSf
    replace hWf := hi_ hWf
    clear hbf
    exact bodyPost_ret (by simp [results, Tryz.results79, go_sem, u0, u1, u2, u3, u4]; try rfl) rfl ⟨_, rfl, hIf.out, hLf.out, hSf.out⟩
   rw [if_neg hb1] at hE2
   rw [decide_eq_false hb1] at hq1
   clear hb1
   by_cases hb1 : k.b = [102, 97, 108, 115, 101]
   ·rw [if_pos hb1] at hE2
    rw [decide_eq_true hb1] at hq2
    subst hE2
    clear hb1 hq3
    go_wp2
    obtain ⟨Wf, hWf⟩ : ∃ W, W = (((((w4.setCell ⟨w.heap.size, 0, none⟩ (.int .i64 1)).setCell ⟨w.heap.size, 1, none⟩ (.int .i64 0)).setCell ⟨w.heap.size, 2, none⟩ (.slice none 0 0)).setCell ⟨w.heap.size, 3, none⟩ (.slice none 0 0)).setCell ⟨w.heap.size, 4, none⟩ (.slice none 0 0)) := ⟨_, rfl⟩
    rw [← hWf]
    obtain ⟨hbf, hIf, hLf, hSf⟩ := val_end hS.out hL.out hR.out hneR.symm hAw.out (num_O (B := w4.heap.size) 1 0 (by decide) (by decide) (by decide)) (by have := z1.out; omega) rfl hWf
    have u0 := hbf.cell 0
    have u1 := hbf.cell 1
    have u2 := hbf.cell 2
    have u3 := hbf.cell 3
    have u4 := hbf.cell 4
    replace hIf := hi_ hIf
    replace hLf := hi_ hLf
    replace hSf := hi_ hSf
    replace hWf := hi_ hWf
    clear hbf
    exact bodyPost_ret (by simp [results, Tryz.results79, go_sem, u0, u1, u2, u3, u4]; try rfl) rfl ⟨_, rfl, hIf.out, hLf.out, hSf.out⟩
   rw [if_neg hb1] at hE2
   rw [decide_eq_false hb1] at hq2
   clear hb1
   by_cases hb1 : k.b = [110, 117, 108, 108]
   ·rw [if_pos hb1] at hE2
    rw [decide_eq_true hb1] at hq3
    subst hE2
    clear hb1
    go_wp2
    obtain ⟨Wf, hWf⟩ : ∃ W, W = (((((w4.setCell ⟨w.heap.size, 0, none⟩ (.int .i64 0)).setCell ⟨w.heap.size, 1, none⟩ (.int .i64 0)).setCell ⟨w.heap.size, 2, none⟩ (.slice none 0 0)).setCell ⟨w.heap.size, 3, none⟩ (.slice none 0 0)).setCell ⟨w.heap.size, 4, none⟩ (.slice none 0 0)) := ⟨_, rfl⟩
    rw [← hWf]
    obtain ⟨hbf, hIf, hLf, hSf⟩ := val_end hS.out hL.out hR.out hneR.symm hAw.out (num_O (B := w4.heap.size) 0 0 (by decide) (by decide) (by decide)) (by have := z1.out; omega) rfl hWf
    have u0 := hbf.cell 0
    have u1 := hbf.cell 1
    have u2 := hbf.cell 2
    have u3 := hbf.cell 3
    have u4 := hbf.cell 4
    replace hIf := hi_ hIf
    replace hLf := hi_ hLf
    replace hSf := hi_ hSf
    replace hWf := hi_ hWf
    clear hbf
    exact bodyPost_ret (by simp [results, Tryz.results79, go_sem, u0, u1, u2, u3, u4]; try rfl) rfl ⟨_, rfl, hIf.out, hLf.out, hSf.out⟩
   rw [if_neg hb1] at hE2
   rw [decide_eq_false hb1] at hq3
   clear hb1
   subst hE2
   go_wp2_with (go_at_call 111; (with_reducible refine (cst.out _ _ hL.out).mono ?_); rintro e w5 ⟨rfl, hL5, hS5⟩; replace hL := hi_ hL5; replace hR := hi_ (hS5.blk hneR hR.out); replace hS := hi_ (hS.out.trans hS5); replace l1 := hL.out.blk.cell 1; replace lv := hL.out.blk.frozen 1; replace p0 := hR.out.cell 0; replace f0 := hR.out.frozen 0; replace p1 := hR.out.cell 1; replace f1 := hR.out.frozen 1; replace p2 := hR.out.cell 2; replace f2 := hR.out.frozen 2; replace p3 := hR.out.cell 3; replace f3 := hR.out.frozen 3; replace p4 := hR.out.cell 4; replace f4 := hR.out.frozen 4; clear hL5 hS5)
   obtain ⟨Wf, hWf⟩ : ∃ W, W = ((((w5.setCell ⟨w.heap.size, 0, none⟩ (.int .i64 0)).setCell ⟨w.heap.size, 1, none⟩ (.int .i64 0)).setCell ⟨w.heap.size, 2, none⟩ (.slice none 0 0)).setCell ⟨w.heap.size, 3, none⟩ (.slice none 0 0)).setCell ⟨w.heap.size, 4, none⟩ (.slice none 0 0) := ⟨_, rfl⟩
   rw [← hWf]
   obtain ⟨hbf, hLf, hSf⟩ := whole_end hS.out hL.out hR.out (Nat.le_refl _) hneR.symm hAw.out hWf
   have u0 := hbf.cell 0
   have u1 := hbf.cell 1
   have u2 := hbf.cell 2
   have u3 := hbf.cell 3
   have u4 := hbf.cell 4
   replace hLf := hi_ hLf
   replace hSf := hi_ hSf
   replace hWf := hi_ hWf
   clear hbf
   exact bodyPost_ret (by simp [results, Tryz.results79, go_sem, u0, u1, u2, u3, u4]; try rfl) rfl ⟨by decide, rfl, hLf.out, hSf.out⟩
  rw [if_neg hk9] at hE2
  have hn9 : (kk == 9) = false := by simpa using hk9
  by_cases hk5 : kk = 5
  ·subst hk5
   rw [if_pos rfl] at hE2
   cases d with
   | zero =>
    simp only [] at hE2
    subst hE2
    obtain rfl : di = 0 := hdi.out
    go_wp2_with (go_at_call 111; (with_reducible refine (cst.out _ _ hL.out).mono ?_); rintro e w5 ⟨rfl, hL5, hS5⟩; replace hL := hi_ hL5; replace hR := hi_ (hS5.blk hneR hR.out); replace hS := hi_ (hS.out.trans hS5); replace l1 := hL.out.blk.cell 1; replace lv := hL.out.blk.frozen 1; replace p0 := hR.out.cell 0; replace f0 := hR.out.frozen 0; replace p1 := hR.out.cell 1; replace f1 := hR.out.frozen 1; replace p2 := hR.out.cell 2; replace f2 := hR.out.frozen 2; replace p3 := hR.out.cell 3; replace f3 := hR.out.frozen 3; replace p4 := hR.out.cell 4; replace f4 := hR.out.frozen 4; clear hL5 hS5)
    obtain ⟨Wf, hWf⟩ : ∃ W, W = ((((w5.setCell ⟨w.heap.size, 0, none⟩ (.int .i64 0)).setCell ⟨w.heap.size, 1, none⟩ (.int .i64 0)).setCell ⟨w.heap.size, 2, none⟩ (.slice none 0 0)).setCell ⟨w.heap.size, 3, none⟩ (.slice none 0 0)).setCell ⟨w.heap.size, 4, none⟩ (.slice none 0 0) := ⟨_, rfl⟩
    rw [← hWf]
    obtain ⟨hbf, hLf, hSf⟩ := whole_end hS.out hL.out hR.out (Nat.le_refl _) hneR.symm hAw.out hWf
    have u0 := hbf.cell 0
    have u1 := hbf.cell 1
    have u2 := hbf.cell 2
    have u3 := hbf.cell 3
    have u4 := hbf.cell 4
    replace hLf := hi_ hLf
    replace hSf := hi_ hSf
    replace hWf := hi_ hWf
    clear hbf
    exact bodyPost_ret (by simp [results, Tryz.results79, go_sem, u0, u1, u2, u3, u4]; try rfl) rfl ⟨by decide, rfl, hLf.out, hSf.out⟩
   | succ d' =>
    simp only [] at hE2
    have hdo := hdi.out
    have hd1 : di - 1 = (d' : Nat) := by omega
    have hd2 : decide (di < 1) = false := by simp only [decide_eq_false_iff_not]; omega
    have hd3 : 1 ≤ di := by omega
    have hd4 : di ≤ 1001 := by omega
    clear hdo
    replace hd1 := hi_ hd1
    have cv : Calls Tryz.prog 113 #[.pointer (some ⟨L, 0, none⟩), .int .i64 (d' : Nat)] w4 (ValE L A c bs D (.bool pl) w4 R) := by
     have c0 := rp_array (ih.out d' rfl) (by omega) hL.out hsm
     rw [hE2]
     generalize arrS (valS pl d') (u.length + 1) [] u = X at c0 ⊢
     cases X <;> exact c0
    replace cv := hi_ cv
    clear hE2
    cases R with
    | err n v =>
     go_wp2_with (go_at_call 113; rw [hd1.out]; (with_reducible refine (cv.out).mono ?_); rintro e w5 ⟨hn0, rfl, hL5, hS5⟩; replace hL := hi_ hL5; replace hR := hi_ (hS5.blk hneR hR.out); replace hS := hi_ (hS.out.trans hS5); replace l1 := hL.out.blk.cell 1; replace lv := hL.out.blk.frozen 1; replace p0 := hR.out.cell 0; replace f0 := hR.out.frozen 0; replace p1 := hR.out.cell 1; replace f1 := hR.out.frozen 1; replace p2 := hR.out.cell 2; replace f2 := hR.out.frozen 2; replace p3 := hR.out.cell 3; replace f3 := hR.out.frozen 3; replace p4 := hR.out.cell 4; replace f4 := hR.out.frozen 4; clear hL5 hS5)
     obtain ⟨Wf, hWf⟩ : ∃ W, W = ((((w5.setCell ⟨w.heap.size, 0, none⟩ (.int .i64 0)).setCell ⟨w.heap.size, 1, none⟩ (.int .i64 0)).setCell ⟨w.heap.size, 2, none⟩ (.slice none 0 0)).setCell ⟨w.heap.size, 3, none⟩ (.slice none 0 0)).setCell ⟨w.heap.size, 4, none⟩ (.slice none 0 0) := ⟨_, rfl⟩
     rw [← hWf]
     obtain ⟨hbf, hLf, hSf⟩ := whole_end hS.out hL.out hR.out (Nat.le_refl _) hneR.symm hAw.out hWf
     have u0 := hbf.cell 0
     have u1 := hbf.cell 1
     have u2 := hbf.cell 2
     have u3 := hbf.cell 3
     have u4 := hbf.cell 4
     replace hLf := hi_ hLf
     replace hSf := hi_ hSf
     replace hWf := hi_ hWf
     replace hn0 := hi_ hn0
     clear hbf
     exact bodyPost_ret (by simp [results, Tryz.results79, go_sem, u0, u1, u2, u3, u4]; try rfl) rfl ⟨hn0.out, rfl, hLf.out, hSf.out⟩
    | ok o v =>
     go_wp2_with (go_at_call 113; rw [hd1.out]; (with_reducible refine (cv.out).mono ?_); rintro e w5 ⟨us, rfl, hI5, hL5, hS5⟩; obtain ⟨xk, xn, F1, F2, F3, fn1, fc1, fn2, fc2, fn3, fc3, hxs⟩ := five_ex hI5.ob; subst hxs; have hI := hi_ hI5; replace hL := hi_ hL5; replace hR := hi_ (hS5.blk hneR hR.out); replace hS := hi_ (hS.out.trans hS5); replace l1 := hL.out.blk.cell 1; replace lv := hL.out.blk.frozen 1; replace p0 := hR.out.cell 0; replace f0 := hR.out.frozen 0; replace p1 := hR.out.cell 1; replace f1 := hR.out.frozen 1; replace p2 := hR.out.cell 2; replace f2 := hR.out.frozen 2; replace p3 := hR.out.cell 3; replace f3 := hR.out.frozen 3; replace p4 := hR.out.cell 4; replace f4 := hR.out.frozen 4; clear hL5 hS5 hI5)
     obtain ⟨Wf, hWf⟩ : ∃ W, W = (((((w5.setCell ⟨w.heap.size, 0, none⟩ (.int .i64 xk)).setCell ⟨w.heap.size, 1, none⟩ (.int .i64 xn)).setCell ⟨w.heap.size, 2, none⟩ (.slice F1 fn1 fc1)).setCell ⟨w.heap.size, 3, none⟩ (.slice F2 fn2 fc2)).setCell ⟨w.heap.size, 4, none⟩ (.slice F3 fn3 fc3)) := ⟨_, rfl⟩
     rw [← hWf]
     obtain ⟨hbf, hIf, hLf, hSf⟩ := val_end hS.out hL.out hR.out hneR.symm hAw.out (hI.out) (by have := z1.out; omega) rfl hWf
     have u0 := hbf.cell 0
     have u1 := hbf.cell 1
     have u2 := hbf.cell 2
     have u3 := hbf.cell 3
     have u4 := hbf.cell 4
     replace hIf := hi_ hIf
     replace hLf := hi_ hLf
     replace hSf := hi_ hSf
     replace hWf := hi_ hWf
     clear hbf
     exact bodyPost_ret (by simp [results, Tryz.results79, go_sem, u0, u1, u2, u3, u4]; try rfl) rfl ⟨_, rfl, hIf.out, hLf.out, hSf.out⟩
  rw [if_neg hk5] at hE2
  have hn5 : (kk == 5) = false := by simpa using hk5
  by_cases hk7 : kk = 7
  ·subst hk7
   rw [if_pos rfl] at hE2
   cases d with
   | zero =>
    simp only [] at hE2
    subst hE2
    obtain rfl : di = 0 := hdi.out
    go_wp2_with (go_at_call 111; (with_reducible refine (cst.out _ _ hL.out).mono ?_); rintro e w5 ⟨rfl, hL5, hS5⟩; replace hL := hi_ hL5; replace hR := hi_ (hS5.blk hneR hR.out); replace hS := hi_ (hS.out.trans hS5); replace l1 := hL.out.blk.cell 1; replace lv := hL.out.blk.frozen 1; replace p0 := hR.out.cell 0; replace f0 := hR.out.frozen 0; replace p1 := hR.out.cell 1; replace f1 := hR.out.frozen 1; replace p2 := hR.out.cell 2; replace f2 := hR.out.frozen 2; replace p3 := hR.out.cell 3; replace f3 := hR.out.frozen 3; replace p4 := hR.out.cell 4; replace f4 := hR.out.frozen 4; clear hL5 hS5)
    obtain ⟨Wf, hWf⟩ : ∃ W, W = ((((w5.setCell ⟨w.heap.size, 0, none⟩ (.int .i64 0)).setCell ⟨w.heap.size, 1, none⟩ (.int .i64 0)).setCell ⟨w.heap.size, 2, none⟩ (.slice none 0 0)).setCell ⟨w.heap.size, 3, none⟩ (.slice none 0 0)).setCell ⟨w.heap.size, 4, none⟩ (.slice none 0 0) := ⟨_, rfl⟩
    rw [← hWf]
    obtain ⟨hbf, hLf, hSf⟩ := whole_end hS.out hL.out hR.out (Nat.le_refl _) hneR.symm hAw.out hWf
    have u0 := hbf.cell 0
    have u1 := hbf.cell 1
    have u2 := hbf.cell 2
    have u3 := hbf.cell 3
    have u4 := hbf.cell 4
    replace hLf := hi_ hLf
    replace hSf := hi_ hSf
    replace hWf := hi_ hWf
    clear hbf
    exact bodyPost_ret (by simp [results, Tryz.results79, go_sem, u0, u1, u2, u3, u4]; try rfl) rfl ⟨by decide, rfl, hLf.out, hSf.out⟩
   | succ d' =>
    simp only [] at hE2
    have hdo := hdi.out
    have hd1 : di - 1 = (d' : Nat) := by omega
    have hd2 : decide (di < 1) = false := by simp only [decide_eq_false_iff_not]; omega
    have hd3 : 1 ≤ di := by omega
    have hd4 : di ≤ 1001 := by omega
    clear hdo
    replace hd1 := hi_ hd1
    have cv : Calls Tryz.prog 114 #[.pointer (some ⟨L, 0, none⟩), .int .i64 (d' : Nat)] w4 (ValE L A c bs D (.bool pl) w4 R) := by
     have c0 := rp_dict (ih.out d' rfl) (by omega) hL.out hsm
     rw [hE2]
     generalize dictS (valS pl d') (u.length + 1) [] [] u = X at c0 ⊢
     cases X <;> exact c0
    replace cv := hi_ cv
    clear hE2
    cases R with
    | err n v =>
     go_wp2_with (go_at_call 114; rw [hd1.out]; (with_reducible refine (cv.out).mono ?_); rintro e w5 ⟨hn0, rfl, hL5, hS5⟩; replace hL := hi_ hL5; replace hR := hi_ (hS5.blk hneR hR.out); replace hS := hi_ (hS.out.trans hS5); replace l1 := hL.out.blk.cell 1; replace lv := hL.out.blk.frozen 1; replace p0 := hR.out.cell 0; replace f0 := hR.out.frozen 0; replace p1 := hR.out.cell 1; replace f1 := hR.out.frozen 1; replace p2 := hR.out.cell 2; replace f2 := hR.out.frozen 2; replace p3 := hR.out.cell 3; replace f3 := hR.out.frozen 3; replace p4 := hR.out.cell 4; replace f4 := hR.out.frozen 4; clear hL5 hS5)
     obtain ⟨Wf, hWf⟩ : ∃ W, W = ((((w5.setCell ⟨w.heap.size, 0, none⟩ (.int .i64 0)).setCell ⟨w.heap.size, 1, none⟩ (.int .i64 0)).setCell ⟨w.heap.size, 2, none⟩ (.slice none 0 0)).setCell ⟨w.heap.size, 3, none⟩ (.slice none 0 0)).setCell ⟨w.heap.size, 4, none⟩ (.slice none 0 0) := ⟨_, rfl⟩
     rw [← hWf]
     obtain ⟨hbf, hLf, hSf⟩ := whole_end hS.out hL.out hR.out (Nat.le_refl _) hneR.symm hAw.out hWf
     have u0 := hbf.cell 0
     have u1 := hbf.cell 1
     have u2 := hbf.cell 2
     have u3 := hbf.cell 3
     have u4 := hbf.cell 4
     replace hLf := hi_ hLf
     replace hSf := hi_ hSf
     replace hWf := hi_ hWf
     replace hn0 := hi_ hn0
     clear hbf
     exact bodyPost_ret (by simp [results, Tryz.results79, go_sem, u0, u1, u2, u3, u4]; try rfl) rfl ⟨hn0.out, rfl, hLf.out, hSf.out⟩
    | ok o v =>
     go_wp2_with (go_at_call 114; rw [hd1.out]; (with_reducible refine (cv.out).mono ?_); rintro e w5 ⟨us, rfl, hI5, hL5, hS5⟩; obtain ⟨xk, xn, F1, F2, F3, fn1, fc1, fn2, fc2, fn3, fc3, hxs⟩ := five_ex hI5.ob; subst hxs; have hI := hi_ hI5; replace hL := hi_ hL5; replace hR := hi_ (hS5.blk hneR hR.out); replace hS := hi_ (hS.out.trans hS5); replace l1 := hL.out.blk.cell 1; replace lv := hL.out.blk.frozen 1; replace p0 := hR.out.cell 0; replace f0 := hR.out.frozen 0; replace p1 := hR.out.cell 1; replace f1 := hR.out.frozen 1; replace p2 := hR.out.cell 2; replace f2 := hR.out.frozen 2; replace p3 := hR.out.cell 3; replace f3 := hR.out.frozen 3; replace p4 := hR.out.cell 4; replace f4 := hR.out.frozen 4; clear hL5 hS5 hI5)
     obtain ⟨Wf, hWf⟩ : ∃ W, W = (((((w5.setCell ⟨w.heap.size, 0, none⟩ (.int .i64 xk)).setCell ⟨w.heap.size, 1, none⟩ (.int .i64 xn)).setCell ⟨w.heap.size, 2, none⟩ (.slice F1 fn1 fc1)).setCell ⟨w.heap.size, 3, none⟩ (.slice F2 fn2 fc2)).setCell ⟨w.heap.size, 4, none⟩ (.slice F3 fn3 fc3)) := ⟨_, rfl⟩
     rw [← hWf]
     obtain ⟨hbf, hIf, hLf, hSf⟩ := val_end hS.out hL.out hR.out hneR.symm hAw.out (hI.out) (by have := z1.out; omega) rfl hWf
     have u0 := hbf.cell 0
     have u1 := hbf.cell 1
     have u2 := hbf.cell 2
     have u3 := hbf.cell 3
     have u4 := hbf.cell 4
     replace hIf := hi_ hIf
     replace hLf := hi_ hLf
     replace hSf := hi_ hSf
     replace hWf := hi_ hWf
     clear hbf
     exact bodyPost_ret (by simp [results, Tryz.results79, go_sem, u0, u1, u2, u3, u4]; try rfl) rfl ⟨_, rfl, hIf.out, hLf.out, hSf.out⟩
  rw [if_neg hk7] at hE2
  have hn7 : (kk == 7) = false := by simpa using hk7
  subst hE2
  go_wp2_with (go_at_call 111; (with_reducible refine (cst.out _ _ hL.out).mono ?_); rintro e w5 ⟨rfl, hL5, hS5⟩; replace hL := hi_ hL5; replace hR := hi_ (hS5.blk hneR hR.out); replace hS := hi_ (hS.out.trans hS5); replace l1 := hL.out.blk.cell 1; replace lv := hL.out.blk.frozen 1; replace p0 := hR.out.cell 0; replace f0 := hR.out.frozen 0; replace p1 := hR.out.cell 1; replace f1 := hR.out.frozen 1; replace p2 := hR.out.cell 2; replace f2 := hR.out.frozen 2; replace p3 := hR.out.cell 3; replace f3 := hR.out.frozen 3; replace p4 := hR.out.cell 4; replace f4 := hR.out.frozen 4; clear hL5 hS5)
  obtain ⟨Wf, hWf⟩ : ∃ W, W = ((((w5.setCell ⟨w.heap.size, 0, none⟩ (.int .i64 0)).setCell ⟨w.heap.size, 1, none⟩ (.int .i64 0)).setCell ⟨w.heap.size, 2, none⟩ (.slice none 0 0)).setCell ⟨w.heap.size, 3, none⟩ (.slice none 0 0)).setCell ⟨w.heap.size, 4, none⟩ (.slice none 0 0) := ⟨_, rfl⟩
  rw [← hWf]
  obtain ⟨hbf, hLf, hSf⟩ := whole_end hS.out hL.out hR.out (Nat.le_refl _) hneR.symm hAw.out hWf
  have u0 := hbf.cell 0
  have u1 := hbf.cell 1
  have u2 := hbf.cell 2
  have u3 := hbf.cell 3
  have u4 := hbf.cell 4
  replace hLf := hi_ hLf
  replace hSf := hi_ hSf
  replace hWf := hi_ hWf
  clear hbf
  exact bodyPost_ret (by simp [results, Tryz.results79, go_sem, u0, u1, u2, u3, u4]; try rfl) rfl ⟨by decide, rfl, hLf.out, hSf.out⟩
theorem rp_value : ∀ (d : Nat), d ≤ 1001 → ∀ {pl : Bool}, ValC pl d
 | 0, hd, _ => value_step (fun d' e => by omega) hd
 | d + 1, hd, _ => value_step (fun d' e => by obtain rfl : d = d' := by omega
                                              exact rp_value d (by omega)) hd
end
end Go.Proofs.YthacnnmlephkhaaGreatDoor

/- The document's Value; the token that is wanted. No condition. -/
namespace Go.Rd
def wantW (s : Bs) (r : Bs) : Res Tok := match tokS r with
 | .err e u => .err e u
 | .ok t u => if t.k = 0 then .err 2 (blankM false r) else if t.k = 9 ∧ t.b = s then .ok t u else .err 4 (blankM false r)
def wantN (lo hi : Int) (r : Bs) : Res Tok := match tokS r with
 | .err e u => .err e u
 | .ok t u => if t.k = 0 then .err 2 (blankM false r) else if t.k = 1 ∧ lo ≤ t.n ∧ t.n ≤ hi then .ok t u else .err 4 (blankM false r)
end Go.Rd
namespace Go.Proofs.YthacnnmlephkhaaGreatDoor
open Go Go.RowKit Go.Wk Go.Rd Go.Fx
section
variable {L : Nat} {A : Option Addr} {c : Nat} {bs : Bs} {D P : Value} {w w' : World} {r r' u : Bs} {k : Tok}
theorem w_err {s : Bs} {n : Int} (h : tokS r = .err n u) : wantW s r = .err n u := by unfold wantW; rw [h]
theorem w_end {s : Bs} (h : tokS r = .ok k u) (hk : k.k = 0) : wantW s r = .err 2 (blankM false r) := by unfold wantW; rw [h]; simp only [if_pos hk]
theorem w_no {s : Bs} (h : tokS r = .ok k u) (hk : ¬ k.k = 0) (h2 : ¬ (k.k = 9 ∧ k.b = s)) : wantW s r = .err 4 (blankM false r) := by unfold wantW; rw [h]; simp only [if_neg hk, if_neg h2]
theorem w_yes {s : Bs} (h : tokS r = .ok k u) (h2 : k.k = 9 ∧ k.b = s) : wantW s r = .ok k u := by unfold wantW; rw [h]; simp only [if_pos h2]; rw [if_neg (by rw [h2.1]; decide)]
theorem n_err {lo hi n : Int} (h : tokS r = .err n u) : wantN lo hi r = .err n u := by unfold wantN; rw [h]
theorem n_end {lo hi : Int} (h : tokS r = .ok k u) (hk : k.k = 0) : wantN lo hi r = .err 2 (blankM false r) := by unfold wantN; rw [h]; simp only [if_pos hk]
theorem n_no {lo hi : Int} (h : tokS r = .ok k u) (hk : ¬ k.k = 0) (h2 : ¬ (k.k = 1 ∧ lo ≤ k.n ∧ k.n ≤ hi)) : wantN lo hi r = .err 4 (blankM false r) := by unfold wantN; rw [h]; simp only [if_neg hk, if_neg h2]
theorem n_yes {lo hi : Int} (h : tokS r = .ok k u) (h2 : k.k = 1 ∧ lo ≤ k.n ∧ k.n ≤ hi) : wantN lo hi r = .ok k u := by unfold wantN; rw [h]; simp only [if_pos h2]; rw [if_neg (by rw [h2.1]; decide)]
def WantE (L : Nat) (A : Option Addr) (c : Nat) (bs : Bs) (D P : Value) (w : World) (res : Res Tok) (e : Ending) (w' : World) : Prop := match res with
 | .ok t u => ∃ (a : Int) (Av : Option Addr) (nv cv : Nat), e = .returned (.tuple #[.agg #[.int .i64 t.k, .int .i64 a, .int .i64 t.n, .slice Av nv cv], .int .i64 0]) ∧ LX L A c bs D P w' u ∧ Save L w w'
 | .err n u => n ≠ 0 ∧ e = .returned (.tuple #[.agg #[.int .i64 0, .int .i64 0, .int .i64 0, .slice none 0 0], .int .i64 n]) ∧ LX L A c bs D P w' u ∧ Save L w w'
theorem tok_end {W Wf : World} {v0 v1 v2 v3 : Value} (hS : Save L w W) (hL : LX L A c bs D P W r) (hR : Blk W w.heap.size 99 #[.int .i64 0, .int .i64 0, .int .i64 0, .slice none 0 0]) (hne : L ≠ w.heap.size) (hAw : 0 < bs.length → ∀ x, A = some x → x.block < w.heap.size)
 (hWf : Wf = (((W.setCell ⟨w.heap.size, 0, none⟩ v0).setCell ⟨w.heap.size, 1, none⟩ v1).setCell ⟨w.heap.size, 2, none⟩ v2).setCell ⟨w.heap.size, 3, none⟩ v3) :
 Blk Wf w.heap.size 99 #[v0, v1, v2, v3] ∧ LX L A c bs D P Wf r ∧ Save L w Wf := by
 obtain ⟨hbf, hgf, hzf⟩ := set4 hR hWf
 exact ⟨hbf, hL.grown_ hgf hne (fun h0 x hx => by have := hAw h0 x hx; omega), hS.grown_ hgf (Nat.le_refl _)⟩
set_option maxHeartbeats 4000000 in
set_option maxRecDepth 100000 in
theorem rp_Value {pl : Bool} {d : Nat} (h : LX L A c bs (.int .i64 (d : Nat)) (.bool pl) w r) (hd : d ≤ 1001) (hsm : bs.length ≤ 60000000) : Calls Tryz.prog 54 #[.pointer (some ⟨L, 0, none⟩)] w (ValE L A c bs (.int .i64 (d : Nat)) (.bool pl) w (valS pl d r)) := by
 have hLw := h.lt
 have hAw := h.a_lt
 obtain ⟨di, hdi⟩ : ∃ i : Int, i = (d : Nat) := ⟨_, rfl⟩
 rw [← hdi] at h ⊢
 obtain ⟨W1, hW1⟩ : ∃ W, W = w.alloc (.cells #[.int .i64 0, .int .i64 0, .slice none 0 0, .slice none 0 0, .slice none 0 0] 26) := ⟨_, rfl⟩
 have b1 : Below w.heap.size w W1 := by rw [hW1]; exact (Below.refl _ _).alloc (Nat.le_refl _) _
 have z1 : W1.heap.size = w.heap.size + 1 := by rw [hW1, World.size_alloc]
 have hR := Blk.new w 26 #[.int .i64 0, .int .i64 0, .slice none 0 0, .slice none 0 0, .slice none 0 0]
 rw [← hW1] at hR
 have hL := h.below b1
 have hS := Save.of_below (L := L) b1
 have hneR : w.heap.size ≠ L := by omega
 have l2 := hL.blk.cell 2
 obtain ⟨R, hRe⟩ : ∃ R, R = valS pl d r := ⟨_, rfl⟩
 rw [← hRe]
 have cv := rp_value d hd (pl := pl) L A c bs (.int .i64 di) W1 r hL hsm
 rw [← hRe] at cv
 rw [← hdi] at cv
 replace cv := hi_ cv
 replace hdi := hi_ hdi
 replace hRe := hi_ hRe
 replace hAw := hi_ hAw
 replace hL := hi_ hL
 replace hR := hi_ hR
 replace hS := hi_ hS
 replace z1 := hi_ z1
 clear h b1
 go_enter Tryz.func54, Tryz.ntmps54
 go_upto_region 1 with (fail)
 rw [← hW1]
 replace hW1 := hi_ hW1
 cases R with
 | err n v =>
  go_wp2_with (go_at_call 79; (with_reducible refine (cv.out).mono ?_); rintro e w5 ⟨hn0, rfl, hL5, hS5⟩; replace hL := hi_ hL5; replace hR := hi_ (hS5.blk hneR hR.out); replace hS := hi_ (hS.out.trans hS5); have p0 := hR.out.cell 0; have f0 := hR.out.frozen 0; have p1 := hR.out.cell 1; have f1 := hR.out.frozen 1; have p2 := hR.out.cell 2; have f2 := hR.out.frozen 2; have p3 := hR.out.cell 3; have f3 := hR.out.frozen 3; have p4 := hR.out.cell 4; have f4 := hR.out.frozen 4; clear hL5 hS5)
  obtain ⟨Wf, hWf⟩ : ∃ W, W = ((((w5.setCell ⟨w.heap.size, 0, none⟩ (.int .i64 0)).setCell ⟨w.heap.size, 1, none⟩ (.int .i64 0)).setCell ⟨w.heap.size, 2, none⟩ (.slice none 0 0)).setCell ⟨w.heap.size, 3, none⟩ (.slice none 0 0)).setCell ⟨w.heap.size, 4, none⟩ (.slice none 0 0) := ⟨_, rfl⟩
  rw [← hWf]
  obtain ⟨hbf, hLf, hSf⟩ := whole_end hS.out hL.out hR.out (Nat.le_refl _) hneR.symm hAw.out hWf
  have u0 := hbf.cell 0
  have u1 := hbf.cell 1
  have u2 := hbf.cell 2
  have u3 := hbf.cell 3
  have u4 := hbf.cell 4
  replace hLf := hi_ hLf
  replace hSf := hi_ hSf
  replace hWf := hi_ hWf
  replace hn0 := hi_ hn0
  clear hbf
  exact bodyPost_ret (by simp [results, Tryz.results54, go_sem, u0, u1, u2, u3, u4]; try rfl) rfl ⟨hn0.out, rfl, hLf.out, hSf.out⟩
 | ok o v =>
  go_wp2_with (go_at_call 79; (with_reducible refine (cv.out).mono ?_); rintro e w5 ⟨us, rfl, hI5, hL5, hS5⟩; obtain ⟨xk, xn, F1, F2, F3, fn1, fc1, fn2, fc2, fn3, fc3, hxs⟩ := five_ex hI5.ob; subst hxs; have hI := hi_ hI5; replace hL := hi_ hL5; replace hR := hi_ (hS5.blk hneR hR.out); replace hS := hi_ (hS.out.trans hS5); have p0 := hR.out.cell 0; have f0 := hR.out.frozen 0; have p1 := hR.out.cell 1; have f1 := hR.out.frozen 1; have p2 := hR.out.cell 2; have f2 := hR.out.frozen 2; have p3 := hR.out.cell 3; have f3 := hR.out.frozen 3; have p4 := hR.out.cell 4; have f4 := hR.out.frozen 4; clear hL5 hS5 hI5)
  obtain ⟨Wf, hWf⟩ : ∃ W, W = (((((w5.setCell ⟨w.heap.size, 0, none⟩ (.int .i64 xk)).setCell ⟨w.heap.size, 1, none⟩ (.int .i64 xn)).setCell ⟨w.heap.size, 2, none⟩ (.slice F1 fn1 fc1)).setCell ⟨w.heap.size, 3, none⟩ (.slice F2 fn2 fc2)).setCell ⟨w.heap.size, 4, none⟩ (.slice F3 fn3 fc3)) := ⟨_, rfl⟩
  rw [← hWf]
  obtain ⟨hbf, hIf, hLf, hSf⟩ := val_end hS.out hL.out hR.out hneR.symm hAw.out (hI.out) (by have := z1.out; omega) rfl hWf
  have u0 := hbf.cell 0
  have u1 := hbf.cell 1
  have u2 := hbf.cell 2
  have u3 := hbf.cell 3
  have u4 := hbf.cell 4
  replace hIf := hi_ hIf
  replace hLf := hi_ hLf
  replace hSf := hi_ hSf
  replace hWf := hi_ hWf
  clear hbf
  exact bodyPost_ret (by simp [results, Tryz.results54, go_sem, u0, u1, u2, u3, u4]; try rfl) rfl ⟨_, rfl, hIf.out, hLf.out, hSf.out⟩
set_option maxHeartbeats 8000000 in
set_option maxRecDepth 100000 in
theorem rp_wantW {pl : Bool} {S : ByteArray} (lo hi : Int) (h : LX L A c bs D (.bool pl) w r) : Calls Tryz.prog 78 #[.pointer (some ⟨L, 0, none⟩), .int .i64 9, .string S, .int .i64 lo, .int .i64 hi] w (WantE L A c bs D (.bool pl) w (wantW S.data.toList r)) := by
 have hLw := h.lt
 have hAw := h.a_lt
 obtain ⟨W1, hW1⟩ : ∃ W, W = w.alloc (.cells #[.int .i64 0, .int .i64 0, .int .i64 0, .slice none 0 0] 99) := ⟨_, rfl⟩
 have b1 : Below w.heap.size w W1 := by rw [hW1]; exact (Below.refl _ _).alloc (Nat.le_refl _) _
 have z1 : W1.heap.size = w.heap.size + 1 := by rw [hW1, World.size_alloc]
 have hR := Blk.new w 99 #[.int .i64 0, .int .i64 0, .int .i64 0, .slice none 0 0]
 rw [← hW1] at hR
 have hL := h.below b1
 have hS := Save.of_below (L := L) b1
 have hneR : w.heap.size ≠ L := by omega
 have hsuf := h.suf
 have l1 := hL.blk.cell 1
 have lv := hL.blk.frozen 1
 have p0 := hR.cell 0
 have f0 := hR.frozen 0
 have p1 := hR.cell 1
 have f1 := hR.frozen 1
 have p2 := hR.cell 2
 have f2 := hR.frozen 2
 have p3 := hR.cell 3
 have f3 := hR.frozen 3
 replace hAw := hi_ hAw
 replace hL := hi_ hL
 replace hR := hi_ hR
 replace hS := hi_ hS
 replace z1 := hi_ z1
 clear h b1
 obtain ⟨R, hRe⟩ : ∃ R, R = wantW S.data.toList r := ⟨_, rfl⟩
 rw [← hRe]
 cases ht : tokS r with
 | err n u =>
  have hE2 : R = .err n u := hRe.trans (w_err ht)
  subst hE2
  obtain ⟨a1, ha1⟩ : ∃ a : Int, a = (pos bs (blankM false r) : Nat) := ⟨_, rfl⟩
  have ctok := fun W (h : LX L A c bs D (.bool pl) W r) => rx_err h ht ha1
  replace ctok := hi_ ctok
  clear ha1 ht hRe
  go_enter Tryz.func78, Tryz.ntmps78
  go_upto_region 2 with (fail)
  go_at_call 110
  rw [← hW1]
  replace hW1 := hi_ hW1
  (with_reducible refine (ctok.out _ hL.out).mono ?_)
  rintro e w3 ⟨hn0, rfl, hL3, hS3⟩
  obtain ⟨w4, hw4⟩ : ∃ W, W = w3.alloc (.cells #[.int .i64 0, .int .i64 a1, .int .i64 0, .slice none 0 0] 99) := ⟨_, rfl⟩
  have b4 : Below w3.heap.size w3 w4 := by rw [hw4]; exact (Below.refl _ _).alloc (Nat.le_refl _) _
  have hK4 : Blk w4 w3.heap.size 99 #[.int .i64 0, .int .i64 a1, .int .i64 0, .slice none 0 0] := by rw [hw4]; exact Blk.new w3 _ _
  have k40 := hK4.cell 0
  have k41c := hK4.cell 1
  have k42 := hK4.cell 2
  have k43 := hK4.cell 3
  have z4 : w.heap.size + 1 ≤ w4.heap.size := by have := hS3.size; have := b4.size; have := z1.out; omega
  replace hL := hi_ hL3
  replace hR := hi_ (hS3.blk hneR hR.out)
  replace hS := hi_ (hS.out.trans hS3)
  replace hL := hi_ (hL.out.below b4)
  replace hR := hi_ (hR.out.below b4 hR.out.lt)
  replace hS := hi_ (hS.out.then_ b4)
  replace l1 := hL.out.blk.cell 1
  replace lv := hL.out.blk.frozen 1
  replace p0 := hR.out.cell 0
  replace f0 := hR.out.frozen 0
  replace p1 := hR.out.cell 1
  replace f1 := hR.out.frozen 1
  replace p2 := hR.out.cell 2
  replace f2 := hR.out.frozen 2
  replace p3 := hR.out.cell 3
  replace f3 := hR.out.frozen 3
  go_upto_region 2 with (fail)
  rw [← hw4]
  replace hw4 := hi_ hw4
  clear b4 hS3 hL3
  have hnb : (n != 0) = true := by simpa using hn0
  go_wp2
  obtain ⟨Wf, hWf⟩ : ∃ W, W = ((((w4.setCell ⟨w.heap.size, 0, none⟩ (.int .i64 0)).setCell ⟨w.heap.size, 1, none⟩ (.int .i64 0)).setCell ⟨w.heap.size, 2, none⟩ (.int .i64 0)).setCell ⟨w.heap.size, 3, none⟩ (.slice none 0 0)) := ⟨_, rfl⟩
  rw [← hWf]
  obtain ⟨hbf, hLf, hSf⟩ := tok_end hS.out hL.out hR.out hneR.symm hAw.out hWf
  have u0 := hbf.cell 0
  have u1 := hbf.cell 1
  have u2 := hbf.cell 2
  have u3 := hbf.cell 3
  replace hLf := hi_ hLf
  replace hSf := hi_ hSf
  replace hWf := hi_ hWf
  replace hn0 := hi_ hn0
  clear hbf
  exact bodyPost_ret (by simp [results, Tryz.results78, go_sem, u0, u1, u2, u3]; try rfl) rfl ⟨hn0.out, rfl, hLf.out, hSf.out⟩
 | ok k u =>
  obtain ⟨a1, ha1⟩ : ∃ a : Int, a = (pos bs (blankM false r) : Nat) := ⟨_, rfl⟩
  have ctok := fun W (h : LX L A c bs D (.bool pl) W r) => rx_ok h ht ha1
  have hbsuf : blankM false r <:+ bs := (blank_suf false r).trans hsuf
  obtain ⟨kk, hkk⟩ : ∃ x, x = k.k := ⟨_, rfl⟩
  obtain ⟨nn, hnn⟩ : ∃ x, x = k.n := ⟨_, rfl⟩
  rw [← hkk, ← hnn] at ctok
  replace ctok := hi_ ctok
  replace hkk := hi_ hkk
  replace hnn := hi_ hnn
  replace ht := hi_ ht
  replace ha1 := hi_ ha1
  replace hbsuf := hi_ hbsuf
  replace hRe := hi_ hRe
  clear hsuf
  go_enter Tryz.func78, Tryz.ntmps78
  go_upto_region 2 with (fail)
  go_at_call 110
  rw [← hW1]
  replace hW1 := hi_ hW1
  (with_reducible refine (ctok.out _ hL.out).mono ?_)
  rintro e w3 ⟨A3, c3, rfl, hO3, hL3, hS3⟩
  obtain ⟨w4, hw4⟩ : ∃ W, W = w3.alloc (.cells #[.int .i64 kk, .int .i64 a1, .int .i64 nn, .slice A3 k.b.length c3] 99) := ⟨_, rfl⟩
  have b4 : Below w3.heap.size w3 w4 := by rw [hw4]; exact (Below.refl _ _).alloc (Nat.le_refl _) _
  have hK4 : Blk w4 w3.heap.size 99 #[.int .i64 kk, .int .i64 a1, .int .i64 nn, .slice A3 k.b.length c3] := by rw [hw4]; exact Blk.new w3 _ _
  have k40 := hK4.cell 0
  have k41c := hK4.cell 1
  have k42 := hK4.cell 2
  have k43 := hK4.cell 3
  have z4 : w.heap.size + 1 ≤ w4.heap.size := by have := hS3.size; have := b4.size; have := z1.out; omega
  replace hL := hi_ hL3
  replace hR := hi_ (hS3.blk hneR hR.out)
  replace hS := hi_ (hS.out.trans hS3)
  replace hL := hi_ (hL.out.below b4)
  replace hR := hi_ (hR.out.below b4 hR.out.lt)
  replace hS := hi_ (hS.out.then_ b4)
  replace l1 := hL.out.blk.cell 1
  replace lv := hL.out.blk.frozen 1
  replace p0 := hR.out.cell 0
  replace f0 := hR.out.frozen 0
  replace p1 := hR.out.cell 1
  replace f1 := hR.out.frozen 1
  replace p2 := hR.out.cell 2
  replace f2 := hR.out.frozen 2
  replace p3 := hR.out.cell 3
  replace f3 := hR.out.frozen 3
  have hOb4 := hO3.below b4
  obtain ⟨_, _, e3, hby4, hA3, _⟩ := hOb4.out2 hOb4.len
  cases e3
  have hcv := conv_any w4 A3 c3 k.b hby4
  replace hOb4 := hi_ hOb4
  clear hA3 hby4
  go_upto_region 2 with (fail)
  rw [← hw4]
  replace hw4 := hi_ hw4
  replace hK4 := hi_ hK4
  clear hO3 b4 hS3 hL3
  by_cases hk0 : kk = 0
  ·have hE2 : R = .err 2 (blankM false r) := hRe.out.trans (w_end ht.out (by rw [← hkk.out]; exact hk0))
   subst hE2
   subst hk0
   go_wp2
   obtain ⟨w5, hw5⟩ : ∃ W, W = w4.setCell ⟨L, 1, none⟩ (.int .i64 a1) := ⟨_, rfl⟩
   rw [← hw5]
   have hL5 : LX L A c bs D (.bool pl) w5 (blankM false r) := by rw [hw5, ha1.out]; exact hL.out.go hbsuf.out
   have hS5 : Save L w4 w5 := by rw [hw5]; exact (Save.refl L w4).store 1 _
   replace hw5 := hi_ hw5
   replace hL := hi_ hL5
   replace hR := hi_ (hS5.blk hneR hR.out)
   replace hS := hi_ (hS.out.trans hS5)
   clear hL5 hS5
   obtain ⟨Wf, hWf⟩ : ∃ W, W = ((((w5.setCell ⟨w.heap.size, 0, none⟩ (.int .i64 0)).setCell ⟨w.heap.size, 1, none⟩ (.int .i64 0)).setCell ⟨w.heap.size, 2, none⟩ (.int .i64 0)).setCell ⟨w.heap.size, 3, none⟩ (.slice none 0 0)) := ⟨_, rfl⟩
   rw [← hWf]
   obtain ⟨hbf, hLf, hSf⟩ := tok_end hS.out hL.out hR.out hneR.symm hAw.out hWf
   have u0 := hbf.cell 0
   have u1 := hbf.cell 1
   have u2 := hbf.cell 2
   have u3 := hbf.cell 3
   replace hLf := hi_ hLf
   replace hSf := hi_ hSf
   replace hWf := hi_ hWf
   clear hbf
   exact bodyPost_ret (by simp [results, Tryz.results78, go_sem, u0, u1, u2, u3]; try rfl) rfl ⟨by decide, rfl, hLf.out, hSf.out⟩
  have hk1 : (kk == 0) = false := by simpa using hk0
  have hq := word_eq k.b S.data.toList S rfl
  have hqn : ((bytes k.b).toList != S.toList) = !decide (k.b = S.data.toList) := by rw [bne, hq]
  by_cases hk9 : kk = 9
  ·by_cases hb : k.b = S.data.toList
   ·have hE2 : R = .ok k u := hRe.out.trans (w_yes ht.out ⟨by rw [← hkk.out]; exact hk9, hb⟩)
    have hfin : ∀ v : Value, Ending.returned (.tuple #[.agg #[.int .i64 kk, .int .i64 a1, .int .i64 nn, v], .int .i64 0]) = .returned (.tuple #[.agg #[.int .i64 k.k, .int .i64 a1, .int .i64 k.n, v], .int .i64 0]) := fun v => by rw [hkk.out, hnn.out]
    subst hE2
    rw [decide_eq_true hb] at hq hqn
    replace hfin := hi_ hfin
    subst hk9
    clear hb hk0
    go_wp2
    obtain ⟨Wf, hWf⟩ : ∃ W, W = ((((w4.setCell ⟨w.heap.size, 0, none⟩ (.int .i64 9)).setCell ⟨w.heap.size, 1, none⟩ (.int .i64 a1)).setCell ⟨w.heap.size, 2, none⟩ (.int .i64 nn)).setCell ⟨w.heap.size, 3, none⟩ (.slice A3 k.b.length c3)) := ⟨_, rfl⟩
    rw [← hWf]
    obtain ⟨hbf, hLf, hSf⟩ := tok_end hS.out hL.out hR.out hneR.symm hAw.out hWf
    have u0 := hbf.cell 0
    have u1 := hbf.cell 1
    have u2 := hbf.cell 2
    have u3 := hbf.cell 3
    replace hLf := hi_ hLf
    replace hSf := hi_ hSf
    replace hWf := hi_ hWf
    clear hbf
    exact bodyPost_ret (by simp [results, Tryz.results78, go_sem, u0, u1, u2, u3]; try rfl) rfl ⟨a1, A3, k.b.length, c3, hfin.out _, hLf.out, hSf.out⟩
   ·have hE2 : R = .err 4 (blankM false r) := hRe.out.trans (w_no ht.out (by rw [← hkk.out]; exact hk0) (fun h => hb h.2))
    subst hE2
    rw [decide_eq_false hb] at hq hqn
    subst hk9
    clear hb hk0
    go_wp2
    obtain ⟨w5, hw5⟩ : ∃ W, W = w4.setCell ⟨L, 1, none⟩ (.int .i64 a1) := ⟨_, rfl⟩
    rw [← hw5]
    have hL5 : LX L A c bs D (.bool pl) w5 (blankM false r) := by rw [hw5, ha1.out]; exact hL.out.go hbsuf.out
    have hS5 : Save L w4 w5 := by rw [hw5]; exact (Save.refl L w4).store 1 _
    replace hw5 := hi_ hw5
    replace hL := hi_ hL5
    replace hR := hi_ (hS5.blk hneR hR.out)
    replace hS := hi_ (hS.out.trans hS5)
    clear hL5 hS5
    obtain ⟨Wf, hWf⟩ : ∃ W, W = ((((w5.setCell ⟨w.heap.size, 0, none⟩ (.int .i64 0)).setCell ⟨w.heap.size, 1, none⟩ (.int .i64 0)).setCell ⟨w.heap.size, 2, none⟩ (.int .i64 0)).setCell ⟨w.heap.size, 3, none⟩ (.slice none 0 0)) := ⟨_, rfl⟩
    rw [← hWf]
    obtain ⟨hbf, hLf, hSf⟩ := tok_end hS.out hL.out hR.out hneR.symm hAw.out hWf
    have u0 := hbf.cell 0
    have u1 := hbf.cell 1
    have u2 := hbf.cell 2
    have u3 := hbf.cell 3
    replace hLf := hi_ hLf
    replace hSf := hi_ hSf
    replace hWf := hi_ hWf
    clear hbf
    exact bodyPost_ret (by simp [results, Tryz.results78, go_sem, u0, u1, u2, u3]; try rfl) rfl ⟨by decide, rfl, hLf.out, hSf.out⟩
  ·have hE2 : R = .err 4 (blankM false r) := hRe.out.trans (w_no ht.out (by rw [← hkk.out]; exact hk0) (fun h => hk9 (by rw [hkk.out]; exact h.1)))
   subst hE2
   have hk91 : (kk != 9) = true := by simpa using hk9
   clear hk0 hk9 hq hqn
   go_wp2
   obtain ⟨w5, hw5⟩ : ∃ W, W = w4.setCell ⟨L, 1, none⟩ (.int .i64 a1) := ⟨_, rfl⟩
   rw [← hw5]
   have hL5 : LX L A c bs D (.bool pl) w5 (blankM false r) := by rw [hw5, ha1.out]; exact hL.out.go hbsuf.out
   have hS5 : Save L w4 w5 := by rw [hw5]; exact (Save.refl L w4).store 1 _
   replace hw5 := hi_ hw5
   replace hL := hi_ hL5
   replace hR := hi_ (hS5.blk hneR hR.out)
   replace hS := hi_ (hS.out.trans hS5)
   clear hL5 hS5
   obtain ⟨Wf, hWf⟩ : ∃ W, W = ((((w5.setCell ⟨w.heap.size, 0, none⟩ (.int .i64 0)).setCell ⟨w.heap.size, 1, none⟩ (.int .i64 0)).setCell ⟨w.heap.size, 2, none⟩ (.int .i64 0)).setCell ⟨w.heap.size, 3, none⟩ (.slice none 0 0)) := ⟨_, rfl⟩
   rw [← hWf]
   obtain ⟨hbf, hLf, hSf⟩ := tok_end hS.out hL.out hR.out hneR.symm hAw.out hWf
   have u0 := hbf.cell 0
   have u1 := hbf.cell 1
   have u2 := hbf.cell 2
   have u3 := hbf.cell 3
   replace hLf := hi_ hLf
   replace hSf := hi_ hSf
   replace hWf := hi_ hWf
   clear hbf
   exact bodyPost_ret (by simp [results, Tryz.results78, go_sem, u0, u1, u2, u3]; try rfl) rfl ⟨by decide, rfl, hLf.out, hSf.out⟩
set_option maxHeartbeats 8000000 in
set_option maxRecDepth 100000 in
theorem rp_wantN {pl : Bool} {S : ByteArray} (lo hi : Int) (h : LX L A c bs D (.bool pl) w r) : Calls Tryz.prog 78 #[.pointer (some ⟨L, 0, none⟩), .int .i64 1, .string S, .int .i64 lo, .int .i64 hi] w (WantE L A c bs D (.bool pl) w (wantN lo hi r)) := by
 have hLw := h.lt
 have hAw := h.a_lt
 obtain ⟨W1, hW1⟩ : ∃ W, W = w.alloc (.cells #[.int .i64 0, .int .i64 0, .int .i64 0, .slice none 0 0] 99) := ⟨_, rfl⟩
 have b1 : Below w.heap.size w W1 := by rw [hW1]; exact (Below.refl _ _).alloc (Nat.le_refl _) _
 have z1 : W1.heap.size = w.heap.size + 1 := by rw [hW1, World.size_alloc]
 have hR := Blk.new w 99 #[.int .i64 0, .int .i64 0, .int .i64 0, .slice none 0 0]
 rw [← hW1] at hR
 have hL := h.below b1
 have hS := Save.of_below (L := L) b1
 have hneR : w.heap.size ≠ L := by omega
 have hsuf := h.suf
 have l1 := hL.blk.cell 1
 have lv := hL.blk.frozen 1
 have p0 := hR.cell 0
 have f0 := hR.frozen 0
 have p1 := hR.cell 1
 have f1 := hR.frozen 1
 have p2 := hR.cell 2
 have f2 := hR.frozen 2
 have p3 := hR.cell 3
 have f3 := hR.frozen 3
 replace hAw := hi_ hAw
 replace hL := hi_ hL
 replace hR := hi_ hR
 replace hS := hi_ hS
 replace z1 := hi_ z1
 clear h b1
 obtain ⟨R, hRe⟩ : ∃ R, R = wantN lo hi r := ⟨_, rfl⟩
 rw [← hRe]
 cases ht : tokS r with
 | err n u =>
  have hE2 : R = .err n u := hRe.trans (n_err ht)
  subst hE2
  obtain ⟨a1, ha1⟩ : ∃ a : Int, a = (pos bs (blankM false r) : Nat) := ⟨_, rfl⟩
  have ctok := fun W (h : LX L A c bs D (.bool pl) W r) => rx_err h ht ha1
  replace ctok := hi_ ctok
  clear ha1 ht hRe
  go_enter Tryz.func78, Tryz.ntmps78
  go_upto_region 2 with (fail)
  go_at_call 110
  rw [← hW1]
  replace hW1 := hi_ hW1
  (with_reducible refine (ctok.out _ hL.out).mono ?_)
  rintro e w3 ⟨hn0, rfl, hL3, hS3⟩
  obtain ⟨w4, hw4⟩ : ∃ W, W = w3.alloc (.cells #[.int .i64 0, .int .i64 a1, .int .i64 0, .slice none 0 0] 99) := ⟨_, rfl⟩
  have b4 : Below w3.heap.size w3 w4 := by rw [hw4]; exact (Below.refl _ _).alloc (Nat.le_refl _) _
  have hK4 : Blk w4 w3.heap.size 99 #[.int .i64 0, .int .i64 a1, .int .i64 0, .slice none 0 0] := by rw [hw4]; exact Blk.new w3 _ _
  have k40 := hK4.cell 0
  have k41c := hK4.cell 1
  have k42 := hK4.cell 2
  have k43 := hK4.cell 3
  have z4 : w.heap.size + 1 ≤ w4.heap.size := by have := hS3.size; have := b4.size; have := z1.out; omega
  replace hL := hi_ hL3
  replace hR := hi_ (hS3.blk hneR hR.out)
  replace hS := hi_ (hS.out.trans hS3)
  replace hL := hi_ (hL.out.below b4)
  replace hR := hi_ (hR.out.below b4 hR.out.lt)
  replace hS := hi_ (hS.out.then_ b4)
  replace l1 := hL.out.blk.cell 1
  replace lv := hL.out.blk.frozen 1
  replace p0 := hR.out.cell 0
  replace f0 := hR.out.frozen 0
  replace p1 := hR.out.cell 1
  replace f1 := hR.out.frozen 1
  replace p2 := hR.out.cell 2
  replace f2 := hR.out.frozen 2
  replace p3 := hR.out.cell 3
  replace f3 := hR.out.frozen 3
  go_upto_region 2 with (fail)
  rw [← hw4]
  replace hw4 := hi_ hw4
  clear b4 hS3 hL3
  have hnb : (n != 0) = true := by simpa using hn0
  go_wp2
  obtain ⟨Wf, hWf⟩ : ∃ W, W = ((((w4.setCell ⟨w.heap.size, 0, none⟩ (.int .i64 0)).setCell ⟨w.heap.size, 1, none⟩ (.int .i64 0)).setCell ⟨w.heap.size, 2, none⟩ (.int .i64 0)).setCell ⟨w.heap.size, 3, none⟩ (.slice none 0 0)) := ⟨_, rfl⟩
  rw [← hWf]
  obtain ⟨hbf, hLf, hSf⟩ := tok_end hS.out hL.out hR.out hneR.symm hAw.out hWf
  have u0 := hbf.cell 0
  have u1 := hbf.cell 1
  have u2 := hbf.cell 2
  have u3 := hbf.cell 3
  replace hLf := hi_ hLf
  replace hSf := hi_ hSf
  replace hWf := hi_ hWf
  replace hn0 := hi_ hn0
  clear hbf
  exact bodyPost_ret (by simp [results, Tryz.results78, go_sem, u0, u1, u2, u3]; try rfl) rfl ⟨hn0.out, rfl, hLf.out, hSf.out⟩
 | ok k u =>
  obtain ⟨a1, ha1⟩ : ∃ a : Int, a = (pos bs (blankM false r) : Nat) := ⟨_, rfl⟩
  have ctok := fun W (h : LX L A c bs D (.bool pl) W r) => rx_ok h ht ha1
  have hbsuf : blankM false r <:+ bs := (blank_suf false r).trans hsuf
  obtain ⟨kk, hkk⟩ : ∃ x, x = k.k := ⟨_, rfl⟩
  obtain ⟨nn, hnn⟩ : ∃ x, x = k.n := ⟨_, rfl⟩
  rw [← hkk, ← hnn] at ctok
  replace ctok := hi_ ctok
  replace hkk := hi_ hkk
  replace hnn := hi_ hnn
  replace ht := hi_ ht
  replace ha1 := hi_ ha1
  replace hbsuf := hi_ hbsuf
  replace hRe := hi_ hRe
  clear hsuf
  go_enter Tryz.func78, Tryz.ntmps78
  go_upto_region 2 with (fail)
  go_at_call 110
  rw [← hW1]
  replace hW1 := hi_ hW1
  (with_reducible refine (ctok.out _ hL.out).mono ?_)
  rintro e w3 ⟨A3, c3, rfl, hO3, hL3, hS3⟩
  obtain ⟨w4, hw4⟩ : ∃ W, W = w3.alloc (.cells #[.int .i64 kk, .int .i64 a1, .int .i64 nn, .slice A3 k.b.length c3] 99) := ⟨_, rfl⟩
  have b4 : Below w3.heap.size w3 w4 := by rw [hw4]; exact (Below.refl _ _).alloc (Nat.le_refl _) _
  have hK4 : Blk w4 w3.heap.size 99 #[.int .i64 kk, .int .i64 a1, .int .i64 nn, .slice A3 k.b.length c3] := by rw [hw4]; exact Blk.new w3 _ _
  have k40 := hK4.cell 0
  have k41c := hK4.cell 1
  have k42 := hK4.cell 2
  have k43 := hK4.cell 3
  have z4 : w.heap.size + 1 ≤ w4.heap.size := by have := hS3.size; have := b4.size; have := z1.out; omega
  replace hL := hi_ hL3
  replace hR := hi_ (hS3.blk hneR hR.out)
  replace hS := hi_ (hS.out.trans hS3)
  replace hL := hi_ (hL.out.below b4)
  replace hR := hi_ (hR.out.below b4 hR.out.lt)
  replace hS := hi_ (hS.out.then_ b4)
  replace l1 := hL.out.blk.cell 1
  replace lv := hL.out.blk.frozen 1
  replace p0 := hR.out.cell 0
  replace f0 := hR.out.frozen 0
  replace p1 := hR.out.cell 1
  replace f1 := hR.out.frozen 1
  replace p2 := hR.out.cell 2
  replace f2 := hR.out.frozen 2
  replace p3 := hR.out.cell 3
  replace f3 := hR.out.frozen 3
  have hOb4 := hO3.below b4
  obtain ⟨_, _, e3, hby4, hA3, _⟩ := hOb4.out2 hOb4.len
  cases e3
  have hcv := conv_any w4 A3 c3 k.b hby4
  replace hOb4 := hi_ hOb4
  clear hA3 hby4
  go_upto_region 2 with (fail)
  rw [← hw4]
  replace hw4 := hi_ hw4
  replace hK4 := hi_ hK4
  clear hO3 b4 hS3 hL3
  by_cases hk0 : kk = 0
  ·have hE2 : R = .err 2 (blankM false r) := hRe.out.trans (n_end ht.out (by rw [← hkk.out]; exact hk0))
   subst hE2
   subst hk0
   go_wp2
   obtain ⟨w5, hw5⟩ : ∃ W, W = w4.setCell ⟨L, 1, none⟩ (.int .i64 a1) := ⟨_, rfl⟩
   rw [← hw5]
   have hL5 : LX L A c bs D (.bool pl) w5 (blankM false r) := by rw [hw5, ha1.out]; exact hL.out.go hbsuf.out
   have hS5 : Save L w4 w5 := by rw [hw5]; exact (Save.refl L w4).store 1 _
   replace hw5 := hi_ hw5
   replace hL := hi_ hL5
   replace hR := hi_ (hS5.blk hneR hR.out)
   replace hS := hi_ (hS.out.trans hS5)
   clear hL5 hS5
   obtain ⟨Wf, hWf⟩ : ∃ W, W = ((((w5.setCell ⟨w.heap.size, 0, none⟩ (.int .i64 0)).setCell ⟨w.heap.size, 1, none⟩ (.int .i64 0)).setCell ⟨w.heap.size, 2, none⟩ (.int .i64 0)).setCell ⟨w.heap.size, 3, none⟩ (.slice none 0 0)) := ⟨_, rfl⟩
   rw [← hWf]
   obtain ⟨hbf, hLf, hSf⟩ := tok_end hS.out hL.out hR.out hneR.symm hAw.out hWf
   have u0 := hbf.cell 0
   have u1 := hbf.cell 1
   have u2 := hbf.cell 2
   have u3 := hbf.cell 3
   replace hLf := hi_ hLf
   replace hSf := hi_ hSf
   replace hWf := hi_ hWf
   clear hbf
   exact bodyPost_ret (by simp [results, Tryz.results78, go_sem, u0, u1, u2, u3]; try rfl) rfl ⟨by decide, rfl, hLf.out, hSf.out⟩
  have hk1 : (kk == 0) = false := by simpa using hk0
  by_cases hk9 : kk = 1
  ·rcases Int.lt_or_le nn lo with h1 | h1
   ·have hE2 : R = .err 4 (blankM false r) := hRe.out.trans (n_no ht.out (by rw [← hkk.out]; exact hk0) (fun h => by have := h.2.1; have := hnn.out; omega))
    subst hE2
    have hb1 : decide (nn < lo) = true := decide_eq_true h1
    subst hk9
    clear hk0
    go_wp2
    obtain ⟨w5, hw5⟩ : ∃ W, W = w4.setCell ⟨L, 1, none⟩ (.int .i64 a1) := ⟨_, rfl⟩
    rw [← hw5]
    have hL5 : LX L A c bs D (.bool pl) w5 (blankM false r) := by rw [hw5, ha1.out]; exact hL.out.go hbsuf.out
    have hS5 : Save L w4 w5 := by rw [hw5]; exact (Save.refl L w4).store 1 _
    replace hw5 := hi_ hw5
    replace hL := hi_ hL5
    replace hR := hi_ (hS5.blk hneR hR.out)
    replace hS := hi_ (hS.out.trans hS5)
    clear hL5 hS5
    obtain ⟨Wf, hWf⟩ : ∃ W, W = ((((w5.setCell ⟨w.heap.size, 0, none⟩ (.int .i64 0)).setCell ⟨w.heap.size, 1, none⟩ (.int .i64 0)).setCell ⟨w.heap.size, 2, none⟩ (.int .i64 0)).setCell ⟨w.heap.size, 3, none⟩ (.slice none 0 0)) := ⟨_, rfl⟩
    rw [← hWf]
    obtain ⟨hbf, hLf, hSf⟩ := tok_end hS.out hL.out hR.out hneR.symm hAw.out hWf
    have u0 := hbf.cell 0
    have u1 := hbf.cell 1
    have u2 := hbf.cell 2
    have u3 := hbf.cell 3
    replace hLf := hi_ hLf
    replace hSf := hi_ hSf
    replace hWf := hi_ hWf
    clear hbf
    exact bodyPost_ret (by simp [results, Tryz.results78, go_sem, u0, u1, u2, u3]; try rfl) rfl ⟨by decide, rfl, hLf.out, hSf.out⟩
   ·have hb1 : decide (nn < lo) = false := decide_eq_false (by omega)
    rcases Int.lt_or_le hi nn with h2 | h2
    ·have hE2 : R = .err 4 (blankM false r) := hRe.out.trans (n_no ht.out (by rw [← hkk.out]; exact hk0) (fun h => by have := h.2.2; have := hnn.out; omega))
     subst hE2
     have hb2 : decide (hi < nn) = true := decide_eq_true h2
     subst hk9
     clear hk0
     go_wp2
     obtain ⟨w5, hw5⟩ : ∃ W, W = w4.setCell ⟨L, 1, none⟩ (.int .i64 a1) := ⟨_, rfl⟩
     rw [← hw5]
     have hL5 : LX L A c bs D (.bool pl) w5 (blankM false r) := by rw [hw5, ha1.out]; exact hL.out.go hbsuf.out
     have hS5 : Save L w4 w5 := by rw [hw5]; exact (Save.refl L w4).store 1 _
     replace hw5 := hi_ hw5
     replace hL := hi_ hL5
     replace hR := hi_ (hS5.blk hneR hR.out)
     replace hS := hi_ (hS.out.trans hS5)
     clear hL5 hS5
     obtain ⟨Wf, hWf⟩ : ∃ W, W = ((((w5.setCell ⟨w.heap.size, 0, none⟩ (.int .i64 0)).setCell ⟨w.heap.size, 1, none⟩ (.int .i64 0)).setCell ⟨w.heap.size, 2, none⟩ (.int .i64 0)).setCell ⟨w.heap.size, 3, none⟩ (.slice none 0 0)) := ⟨_, rfl⟩
     rw [← hWf]
     obtain ⟨hbf, hLf, hSf⟩ := tok_end hS.out hL.out hR.out hneR.symm hAw.out hWf
     have u0 := hbf.cell 0
     have u1 := hbf.cell 1
     have u2 := hbf.cell 2
     have u3 := hbf.cell 3
     replace hLf := hi_ hLf
     replace hSf := hi_ hSf
     replace hWf := hi_ hWf
     clear hbf
     exact bodyPost_ret (by simp [results, Tryz.results78, go_sem, u0, u1, u2, u3]; try rfl) rfl ⟨by decide, rfl, hLf.out, hSf.out⟩
    ·have hE2 : R = .ok k u := hRe.out.trans (n_yes ht.out ⟨by rw [← hkk.out]; exact hk9, by rw [← hnn.out]; exact h1, by rw [← hnn.out]; exact h2⟩)
     have hfin : ∀ v : Value, Ending.returned (.tuple #[.agg #[.int .i64 kk, .int .i64 a1, .int .i64 nn, v], .int .i64 0]) = .returned (.tuple #[.agg #[.int .i64 k.k, .int .i64 a1, .int .i64 k.n, v], .int .i64 0]) := fun v => by rw [hkk.out, hnn.out]
     subst hE2
     have hb2 : decide (hi < nn) = false := decide_eq_false (by omega)
     replace hfin := hi_ hfin
     subst hk9
     clear hk0
     go_wp2
     obtain ⟨Wf, hWf⟩ : ∃ W, W = ((((w4.setCell ⟨w.heap.size, 0, none⟩ (.int .i64 1)).setCell ⟨w.heap.size, 1, none⟩ (.int .i64 a1)).setCell ⟨w.heap.size, 2, none⟩ (.int .i64 nn)).setCell ⟨w.heap.size, 3, none⟩ (.slice A3 k.b.length c3)) := ⟨_, rfl⟩
     rw [← hWf]
     obtain ⟨hbf, hLf, hSf⟩ := tok_end hS.out hL.out hR.out hneR.symm hAw.out hWf
     have u0 := hbf.cell 0
     have u1 := hbf.cell 1
     have u2 := hbf.cell 2
     have u3 := hbf.cell 3
     replace hLf := hi_ hLf
     replace hSf := hi_ hSf
     replace hWf := hi_ hWf
     clear hbf
     exact bodyPost_ret (by simp [results, Tryz.results78, go_sem, u0, u1, u2, u3]; try rfl) rfl ⟨a1, A3, k.b.length, c3, hfin.out _, hLf.out, hSf.out⟩
  ·have hE2 : R = .err 4 (blankM false r) := hRe.out.trans (n_no ht.out (by rw [← hkk.out]; exact hk0) (fun h => hk9 (by rw [hkk.out]; exact h.1)))
   subst hE2
   have hk91 : (kk != 1) = true := by simpa using hk9
   clear hk0 hk9
   go_wp2
   obtain ⟨w5, hw5⟩ : ∃ W, W = w4.setCell ⟨L, 1, none⟩ (.int .i64 a1) := ⟨_, rfl⟩
   rw [← hw5]
   have hL5 : LX L A c bs D (.bool pl) w5 (blankM false r) := by rw [hw5, ha1.out]; exact hL.out.go hbsuf.out
   have hS5 : Save L w4 w5 := by rw [hw5]; exact (Save.refl L w4).store 1 _
   replace hw5 := hi_ hw5
   replace hL := hi_ hL5
   replace hR := hi_ (hS5.blk hneR hR.out)
   replace hS := hi_ (hS.out.trans hS5)
   clear hL5 hS5
   obtain ⟨Wf, hWf⟩ : ∃ W, W = ((((w5.setCell ⟨w.heap.size, 0, none⟩ (.int .i64 0)).setCell ⟨w.heap.size, 1, none⟩ (.int .i64 0)).setCell ⟨w.heap.size, 2, none⟩ (.int .i64 0)).setCell ⟨w.heap.size, 3, none⟩ (.slice none 0 0)) := ⟨_, rfl⟩
   rw [← hWf]
   obtain ⟨hbf, hLf, hSf⟩ := tok_end hS.out hL.out hR.out hneR.symm hAw.out hWf
   have u0 := hbf.cell 0
   have u1 := hbf.cell 1
   have u2 := hbf.cell 2
   have u3 := hbf.cell 3
   replace hLf := hi_ hLf
   replace hSf := hi_ hSf
   replace hWf := hi_ hWf
   clear hbf
   exact bodyPost_ret (by simp [results, Tryz.results78, go_sem, u0, u1, u2, u3]; try rfl) rfl ⟨by decide, rfl, hLf.out, hSf.out⟩
end
end Go.Proofs.YthacnnmlephkhaaGreatDoor

/- The document's Want, WantWhole, Stands, Keyword. No condition. -/
namespace Go.Proofs.YthacnnmlephkhaaGreatDoor
open Go Go.RowKit Go.Wk Go.Rd Go.Fx
section
variable {L : Nat} {A : Option Addr} {c : Nat} {bs : Bs} {D P : Value} {w w' : World} {r r' u : Bs} {k : Tok}
def kwS (s : Bs) (r : Bs) : Bool := (s == (blankM false r).take s.length) && !regP ((blankM false r).drop s.length)
set_option maxHeartbeats 4000000 in
set_option maxRecDepth 100000 in
theorem rp_Want {pl : Bool} {S : ByteArray} (h : LX L A c bs D (.bool pl) w r) : Calls Tryz.prog 53 #[.pointer (some ⟨L, 0, none⟩), .string S] w fun e w' => match wantW S.data.toList r with
 | .ok _ u => e = .returned (.int .i64 0) ∧ LX L A c bs D (.bool pl) w' u ∧ Save L w w'
 | .err n u => n ≠ 0 ∧ e = .returned (.int .i64 n) ∧ LX L A c bs D (.bool pl) w' u ∧ Save L w w' := by
 have cw := rp_wantW (S := S) 0 0 h
 obtain ⟨R, hR⟩ : ∃ R, R = wantW S.data.toList r := ⟨_, rfl⟩
 rw [← hR] at cw ⊢
 replace cw := hi_ cw
 replace hR := hi_ hR
 replace h := hi_ h
 go_enter Tryz.func53, Tryz.ntmps53
 cases R with
 | err n v =>
  go_wp2_with (go_at_call 78; (with_reducible refine (cw.out).mono ?_); rintro e w5 ⟨hn0, rfl, hL5, hS5⟩; replace hL5 := hi_ hL5; replace hS5 := hi_ hS5; replace hn0 := hi_ hn0)
  go_ret
  exact ⟨hn0.out, rfl, hL5.out.below ((Below.refl _ _).alloc (Nat.le_refl _) _), hS5.out.then_ ((Below.refl _ _).alloc (Nat.le_refl _) _)⟩
 | ok t v =>
  go_upto_region 2 with (go_at_call 78; (with_reducible refine (cw.out).mono ?_); rintro e w5 ⟨a5, A5, n5, c5, rfl, hL5, hS5⟩; replace hL5 := hi_ hL5; replace hS5 := hi_ hS5)
  go_wp2
  go_ret
  exact ⟨rfl, hL5.out.below ((Below.refl _ _).alloc (Nat.le_refl _) _), hS5.out.then_ ((Below.refl _ _).alloc (Nat.le_refl _) _)⟩
set_option maxHeartbeats 4000000 in
set_option maxRecDepth 100000 in
theorem rp_WantWhole {pl : Bool} (lo hi : Int) (h : LX L A c bs D (.bool pl) w r) : Calls Tryz.prog 52 #[.pointer (some ⟨L, 0, none⟩), .int .i64 lo, .int .i64 hi] w fun e w' => match wantN lo hi r with
 | .ok t u => e = .returned (.tuple #[.int .i64 t.n, .int .i64 0]) ∧ LX L A c bs D (.bool pl) w' u ∧ Save L w w'
 | .err n u => n ≠ 0 ∧ e = .returned (.tuple #[.int .i64 0, .int .i64 n]) ∧ LX L A c bs D (.bool pl) w' u ∧ Save L w w' := by
 have cw := rp_wantN (S := ⟨#[]⟩) lo hi h
 obtain ⟨R, hR⟩ : ∃ R, R = wantN lo hi r := ⟨_, rfl⟩
 rw [← hR] at cw ⊢
 replace cw := hi_ cw
 replace hR := hi_ hR
 replace h := hi_ h
 go_enter Tryz.func52, Tryz.ntmps52
 cases R with
 | err n v =>
  go_upto_region 2 with (go_at_call 78; (with_reducible refine (cw.out).mono ?_); rintro e w5 ⟨hn0, rfl, hL5, hS5⟩; replace hL5 := hi_ hL5; replace hS5 := hi_ hS5; replace hn0 := hi_ hn0)
  have bl := Blk.new w5 99 #[.int .i64 0, .int .i64 0, .int .i64 0, .slice none 0 0]
  have b5 : Below w5.heap.size w5 (w5.alloc (.cells #[.int .i64 0, .int .i64 0, .int .i64 0, .slice none 0 0] 99)) := (Below.refl _ _).alloc (Nat.le_refl _) _
  have t2 := bl.cell 2
  replace b5 := hi_ b5
  clear bl
  go_wp2
  exact bodyPost_ret (by simp [results, Tryz.results52, go_sem]; try rfl) rfl ⟨hn0.out, rfl, hL5.out.below b5.out, hS5.out.then_ b5.out⟩
 | ok t v =>
  go_upto_region 2 with (go_at_call 78; (with_reducible refine (cw.out).mono ?_); rintro e w5 ⟨a5, A5, n5, c5, rfl, hL5, hS5⟩; replace hL5 := hi_ hL5; replace hS5 := hi_ hS5)
  have bl := Blk.new w5 99 #[.int .i64 t.k, .int .i64 a5, .int .i64 t.n, .slice A5 n5 c5]
  have b5 : Below w5.heap.size w5 (w5.alloc (.cells #[.int .i64 t.k, .int .i64 a5, .int .i64 t.n, .slice A5 n5 c5] 99)) := (Below.refl _ _).alloc (Nat.le_refl _) _
  have t2 := bl.cell 2
  replace b5 := hi_ b5
  clear bl
  go_wp2
  exact bodyPost_ret (by simp [results, Tryz.results52, go_sem]; try rfl) rfl ⟨rfl, hL5.out.below b5.out, hS5.out.then_ b5.out⟩
theorem stands_no {s : Bs} (h : r.length < s.length) : (s == r.take s.length) = false := by
 rw [beq_eq_false_iff_ne]
 intro e
 have := congrArg List.length e
 rw [List.length_take] at this
 omega
set_option maxHeartbeats 4000000 in
set_option maxRecDepth 100000 in
theorem rf_Stands (hby : Byt w A bs) (hcap : bs.length ≤ c) (hsm : bs.length ≤ 1000000000) (hs : r <:+ bs) (S : ByteArray) (hS0 : 0 < S.size) (hS1 : S.size ≤ 100) : Calls Tryz.prog 81 #[.slice A bs.length c, .int .i64 (pos bs r : Nat), .string S] w fun e w' => e = .returned (.bool (S.data.toList == r.take S.data.toList.length)) ∧ w = w' := by
 have hsl : S.data.toList.length = S.size := by rw [Array.length_toList]; rfl
 have hpl := pos_len hs
 have hple := pos_le bs r
 obtain ⟨p, hp⟩ : ∃ p, p = pos bs r := ⟨_, rfl⟩
 rw [← hp] at hpl hple ⊢
 obtain ⟨R, hR⟩ : ∃ R, R = (S.data.toList == r.take S.data.toList.length) := ⟨_, rfl⟩
 rw [← hR]
 by_cases hlen : r.length < S.size
 ·obtain rfl : R = false := hR.trans (stands_no (by rw [hsl]; exact hlen))
  obtain ⟨N, hN⟩ : ∃ N, N = bs.length := ⟨_, rfl⟩
  obtain ⟨m, hm⟩ : ∃ m, m = S.size := ⟨_, rfl⟩
  rw [← hN] at hpl hple hsm ⊢
  rw [← hm] at hlen hS0 hS1
  have hf : N < m ∨ (m ≤ N ∧ (N : Int) - (m : Int) < (p : Int)) := by omega
  replace hp := hi_ hp
  replace hR := hi_ hR
  replace hN := hi_ hN
  have hm2 : S.size = m := hm.symm
  replace hm := hi_ hm
  replace hsl := hi_ hsl
  replace hlen := hi_ hlen
  replace hby := hi_ hby
  replace hpl := hi_ hpl
  rcases hf with hf | ⟨hf1, hf2⟩
  ·go_enter Tryz.func81, Tryz.ntmps81
   go_wp2
   go_ret
   exact ⟨rfl, rfl⟩
  ·go_enter Tryz.func81, Tryz.ntmps81
   go_wp2
   go_ret
   exact ⟨rfl, rfl⟩
 ·obtain ⟨b, o, hAe, hcell⟩ := hby.2 (by omega)
  subst hAe
  have htl : (r.take S.size).length = S.size := by rw [List.length_take]; omega
  have hb2 : Byt w (some ⟨b, o + p, none⟩) (r.take S.size) := ⟨by rw [htl]; unfold maxLen; omega, fun h1 => ⟨b, o + p, rfl, fun i hi => by
   have hi2 : i < S.size := by omega
   have h9 := hcell (p + i) (by omega)
   rw [Nat.add_assoc, h9]
   have e3 : (r.take S.size)[i]? = bs[p + i]? := by rw [List.getElem?_take_of_lt hi2, hp, suf_at hs]
   rw [List.getElem?_eq_getElem hi, List.getElem?_eq_getElem (by omega)] at e3
   injection e3 with e3
   rw [e3]⟩⟩
  have hcv := conv_any w (some ⟨b, o + p, none⟩) (c - p) (r.take S.size) hb2
  rw [htl] at hcv
  have hq := word_eq (r.take S.size) S.data.toList S rfl
  have hRe : decide (r.take S.size = S.data.toList) = R := by
   rw [hR, hsl, Bool.eq_iff_iff]
   simp only [decide_eq_true_eq, beq_iff_eq]
   exact ⟨fun h => h.symm, fun h => h.symm⟩
  rw [hRe] at hq
  obtain ⟨N, hN⟩ : ∃ N, N = bs.length := ⟨_, rfl⟩
  obtain ⟨m, hm⟩ : ∃ m, m = S.size := ⟨_, rfl⟩
  rw [← hN] at hpl hple hsm hcap ⊢
  rw [← hm] at hlen hS0 hS1 hcv hq
  have hf1 : m ≤ N := by omega
  have hf2 : (p : Int) ≤ (N : Int) - (m : Int) := by omega
  have hpm : p + m ≤ c := by omega
  replace hp := hi_ hp
  replace hR := hi_ hR
  replace hRe := hi_ hRe
  replace hN := hi_ hN
  have hm2 : S.size = m := hm.symm
  replace hm := hi_ hm
  replace hsl := hi_ hsl
  replace hlen := hi_ hlen
  replace hby := hi_ hby
  replace hb2 := hi_ hb2
  replace hcell := hi_ hcell
  replace htl := hi_ htl
  go_enter Tryz.func81, Tryz.ntmps81
  go_wp2
  go_ret
  exact ⟨rfl, rfl⟩
theorem pk_drop (r : Bs) (m : Nat) : pk r m = pk (r.drop m) 0 := by unfold pk; rw [List.getElem?_drop, Nat.add_zero]
set_option maxHeartbeats 4000000 in
set_option maxRecDepth 100000 in
theorem rx_Keyword (h : LX L A c bs D P w r) (S : ByteArray) (hS0 : 0 < S.size) (hS1 : S.size ≤ 100) : Calls Tryz.prog 55 #[.pointer (some ⟨L, 0, none⟩), .string S] w fun e w' => e = .returned (.bool (kwS S.data.toList r)) ∧ LX L A c bs D P w' (if kwS S.data.toList r then (blankM false r).drop S.size else r) ∧ Save L w w' := by
 have hsl : S.data.toList.length = S.size := by rw [Array.length_toList]; rfl
 have cb := rx_Blank h
 have hsuf := h.suf
 obtain ⟨q, hq, hq0, hq1⟩ := h.pos_i
 have l1 := h.blk.cell 1
 rw [← hq] at l1
 obtain ⟨B, hB⟩ : ∃ B, B = blankM false r := ⟨_, rfl⟩
 have hkw : kwS S.data.toList r = ((S.data.toList == B.take S.data.toList.length) && !regP (B.drop S.size)) := by unfold kwS; rw [← hB, hsl]
 rw [← hB] at cb ⊢
 obtain ⟨st, hst⟩ : ∃ x, x = (S.data.toList == B.take S.data.toList.length) := ⟨_, rfl⟩
 obtain ⟨rg, hrg⟩ : ∃ x, x = regP (B.drop S.size) := ⟨_, rfl⟩
 obtain ⟨m, hm⟩ : ∃ m, m = S.size := ⟨_, rfl⟩
 have hlm : st = true → m ≤ B.length := fun e => by
  rw [hm]
  rcases Nat.lt_or_ge B.length S.size with h9 | h9
  ·rw [hst, stands_no (by rw [hsl]; exact h9)] at e; cases e
  ·exact h9
 obtain ⟨KB, hKB⟩ : ∃ x, x = kwS S.data.toList r := ⟨_, rfl⟩
 rw [hkw, ← hst, ← hrg] at hKB
 obtain ⟨RR, hRR⟩ : ∃ x, x = (if KB then B.drop S.size else r) := ⟨_, rfl⟩
 rw [hkw, ← hst, ← hrg, ← hKB, ← hRR]
 replace cb := hi_ cb
 replace h := hi_ h
 replace hB := hi_ hB
 replace hsl := hi_ hsl
 replace hkw := hi_ hkw
 replace hlm := hi_ hlm
 replace hq := hi_ hq
 replace hsuf := hi_ hsuf
 go_enter Tryz.func55, Tryz.ntmps55
 go_upto_region 3 with (go_at_call 80; (with_reducible refine (cb.out).mono ?_); rintro e w1 ⟨rfl, hL, hS⟩; replace hL := hi_ hL; replace hS := hi_ hS)
 obtain ⟨q2, hq2, hq20, hq21⟩ := hL.out.pos_i
 have hLd := hL.out.below (Below.refl _ _).drew
 have hSd := hS.out.then_ (Below.refl _ _).drew
 have n0 := hL.out.blk.cell 0
 have n1 := hL.out.blk.cell 1
 rw [← hq2] at n1
 have d1 := hLd.blk.cell 1
 have dv1 := hLd.blk.frozen 1
 rw [← hq2] at d1
 have d0 := hLd.blk.cell 0
 have cs := fun W (hW : Below w1.heap.size w1 W) => rf_Stands (hL.out.byt.below hW) hL.out.cap hL.out.small hL.out.suf S hS0 hS1
 have cp := fun W (h : LX L A c bs D P W B) => rx_peek h m (by omega)
 have cr := fun W => r10_Regular (w := W) (pk B m) (pk_range _ _)
 rw [pk_drop B m, reg_pk, hm, ← hrg] at cr
 rw [pk_drop B m, hm] at cp
 rw [← hst, ← hq2] at cs
 rw [← hm] at cr cp
 obtain ⟨X, hX⟩ : ∃ X, X = pk (B.drop m) 0 := ⟨_, rfl⟩
 rw [← hX] at cp cr
 replace cs := hi_ cs
 replace cp := hi_ cp
 replace cr := hi_ cr
 replace hX := hi_ hX
 replace hq2 := hi_ hq2
 replace hrg := hi_ hrg
 replace hst := hi_ hst
 have hm2 : S.size = m := hm.symm
 replace hm := hi_ hm
 replace hLd := hi_ hLd
 replace hSd := hi_ hSd
 cases st with
 | false =>
  have hK0 : KB = false := hKB.trans (by simp)
  rw [hK0] at hRR
  have hR0 : RR = r := hRR.trans (by simp)
  clear hRR hKB
  replace hKB := hi_ hK0
  replace hRR := hi_ hR0
  clear hK0 hR0
  first | go_region_with (first
   | (go_at_call 81; (with_reducible refine (cs.out _ (by first | exact (Below.refl _ _).drew | exact Below.refl _ _)).mono ?_); rintro e w2 ⟨rfl, rfl⟩)
   | (go_at_call 82; (with_reducible refine (cp.out _ (by first | exact hLd.out | exact hL.out)).mono ?_); rintro e w3 ⟨rfl, hB3⟩; have hL3 := hLd.out.below hB3; replace d1 := hL3.blk.cell 1; rw [← hq2.out] at d1; replace dv1 := hL3.blk.frozen 1; clear hL3; replace hB3 := hi_ hB3)
   | (go_at_call 36; (with_reducible refine (cr.out _).mono ?_); rintro e w4 ⟨rfl, rfl⟩)) | fail
  all_goals go_wp2
  all_goals go_ret
  all_goals (
   have hgo := hLd.out.go hsuf.out
   rw [← hq.out, ← hRR.out] at hgo
   exact ⟨by rw [hKB.out]; rfl, hgo, hSd.out.store 1 _⟩)
 | true =>
  have hml := hlm.out rfl
  cases rg with
  | true =>
   have hK0 : KB = false := hKB.trans (by simp)
   rw [hK0] at hRR
   have hR0 : RR = r := hRR.trans (by simp)
   clear hRR hKB
   replace hKB := hi_ hK0
   replace hRR := hi_ hR0
   clear hK0 hR0
   first | go_region_with (first
   | (go_at_call 81; (with_reducible refine (cs.out _ (by first | exact (Below.refl _ _).drew | exact Below.refl _ _)).mono ?_); rintro e w2 ⟨rfl, rfl⟩)
   | (go_at_call 82; (with_reducible refine (cp.out _ (by first | exact hLd.out | exact hL.out)).mono ?_); rintro e w3 ⟨rfl, hB3⟩; have hL3 := hLd.out.below hB3; replace d1 := hL3.blk.cell 1; rw [← hq2.out] at d1; replace dv1 := hL3.blk.frozen 1; clear hL3; replace hB3 := hi_ hB3)
   | (go_at_call 36; (with_reducible refine (cr.out _).mono ?_); rintro e w4 ⟨rfl, rfl⟩)) | fail
   all_goals go_wp2
   all_goals go_ret
   all_goals (
    have hgo := (hLd.out.below hB3.out).go hsuf.out
    rw [← hq.out, ← hRR.out] at hgo
    exact ⟨by rw [hKB.out]; rfl, hgo, (hSd.out.then_ hB3.out).store 1 _⟩)
  | false =>
   have hK0 : KB = true := hKB.trans (by simp)
   rw [hK0] at hRR
   have hR0 : RR = B.drop m := hRR.trans (by simp [hm2])
   clear hRR hKB
   replace hKB := hi_ hK0
   replace hRR := hi_ hR0
   clear hK0 hR0
   first | go_region_with (first
   | (go_at_call 81; (with_reducible refine (cs.out _ (by first | exact (Below.refl _ _).drew | exact Below.refl _ _)).mono ?_); rintro e w2 ⟨rfl, rfl⟩)
   | (go_at_call 82; (with_reducible refine (cp.out _ (by first | exact hLd.out | exact hL.out)).mono ?_); rintro e w3 ⟨rfl, hB3⟩; have hL3 := hLd.out.below hB3; replace d1 := hL3.blk.cell 1; rw [← hq2.out] at d1; replace dv1 := hL3.blk.frozen 1; clear hL3; replace hB3 := hi_ hB3)
   | (go_at_call 36; (with_reducible refine (cr.out _).mono ?_); rintro e w4 ⟨rfl, rfl⟩)) | fail
   all_goals go_wp2
   all_goals go_ret
   all_goals (
    have hgo := (hLd.out.below hB3.out).go (suf_dropn (hLd.out.suf) m)
    rw [pos_drop hLd.out.suf m hml, Int.natCast_add, ← hq2.out, ← hRR.out] at hgo
    exact ⟨by rw [hKB.out]; rfl, hgo, (hSd.out.then_ hB3.out).store 1 _⟩)
end

/- The document's Drop: an object without one key. No condition. -/
theorem RowG.toA {kb : Nat} {e : TypeId} {sz B : Nat} {w : World} {v : Value} {l : List (Bs × Ob)} {rss : List (List Value)} (h : RowG EnI e sz B w v l rss) (hk : w.heap.size ≤ kb) : RowG (EnA kb) e sz B w v l rss :=
 ⟨h.len, h.row, fun i hi => by obtain ⟨lo, hi', h1, h2, h3⟩ := h.it i hi; exact ⟨lo, hi', h1, h2, h3, .inr (Nat.le_trans (en_law.top h3) hk)⟩⟩
theorem null_At (w : World) : ObAt w (.mk 0 0 [] [] []) [.int .i64 0, .int .i64 0, .slice none 0 0, .slice none 0 0, .slice none 0 0] :=
 (built (tb := 5) (tO := 26) (tE := 53) (B := w.heap.size) (by omega) (by omega) (by omega) (by omega) (Own.nil _ w).row (by simp [maxLen]) (RowG.nil _ _ _ _ _) (RowG.nil _ _ _ _ _)).ob
set_option maxHeartbeats 16000000 in
set_option maxRecDepth 100000 in
theorem ref_Drop (k n : Int) (b : List UInt8) (l : List Ob) (d : List (List UInt8 × Ob)) (vs : List Value) (w : World) (h : ObAt w (.mk k n b l d) vs) (hbk : (Ob.mk k n b l d).bulk ≤ 100000000) (hh : hasI k = true)
 (gl : Nat) (KB : ByteArray) (hcl : w.cell? ⟨gl, 0, none⟩ = some (.string KB)) (hKl : KB.data.toList.length ≤ maxLen) :
 Calls Tryz.prog 83 #[.agg vs.toArray, .slice (some ⟨gl, 0, none⟩) 1 1] w (CpyE w k n b l (putE KB.data.toList (.mk 0 0 [] [] []) d)) := by
 obtain ⟨en, E1, E2, E3, en1, ec1, en2, ec2, en3, ec3, hys⟩ := ob_five2 h
 have hkd : (Ob.mk k n b l d).kind = k := rfl
 rw [hkd] at hys
 subst hys
 have zd := bulkD_len d
 have zk : b.length + bulkL l + bulkD d + 1 ≤ 100000000 := hbk
 obtain ⟨W1, hW1⟩ : ∃ W, W = w.alloc (.cells #[.int .i64 k, .int .i64 en, .slice E1 en1 ec1, .slice E2 en2 ec2, .slice E3 en3 ec3] 26) := ⟨_, rfl⟩
 obtain ⟨W2, hW2⟩ : ∃ W, W = W1.alloc (.cells #[.int .i64 0, .int .i64 0, .slice none 0 0, .slice none 0 0, .slice none 0 0] 26) := ⟨_, rfl⟩
 have hb1 : Below w.heap.size w W1 := by rw [hW1]; exact (Below.refl _ _).alloc (Nat.le_refl _) _
 have z1 : W1.heap.size = w.heap.size + 1 := by rw [hW1, World.size_alloc]
 have hb12 : Below W1.heap.size W1 W2 := by rw [hW2]; exact (Below.refl _ _).alloc (Nat.le_refl _) _
 have hb2 : Below w.heap.size w W2 := bthen hb1 hb12
 have z2 : W2.heap.size = w.heap.size + 2 := by rw [hW2, World.size_alloc, z1]
 have f := five_kept (five_cells hW1) hb12
 have hR2 : Blk W2 (w.heap.size + 1) 26 #[.int .i64 0, .int .i64 0, .slice none 0 0, .slice none 0 0, .slice none 0 0] := by rw [hW2, ← z1]; exact Blk.new W1 26 _
 have hrange := ObAt.range h
 have c66 := rcopy_D 100000000 (by omega) k n b l d _ W2 (h.kept hb2) hbk
 have c65 := fun W => ref_Has k (.int .i64 en) (.slice E1 en1 ec1) (.slice E2 en2 ec2) (.slice E3 en3 ec3) W
 rw [hh] at c65
 obtain ⟨f0, f1, f2, f3, f4⟩ := id f
 have hcl2 := (hb2.cell (cell_lt hcl)).trans hcl
 have hgl := cell_lt hcl
 replace f := hi_ f
 replace hb1 := hi_ hb1
 replace hb12 := hi_ hb12
 replace hb2 := hi_ hb2
 replace hR2 := hi_ hR2
 replace hKl := hi_ hKl
 replace c65 := hi_ c65
 replace hrange := hi_ hrange
 replace hcl2 := hi_ hcl2
 clear h hcl hbk hh hkd
 go_enter Tryz.func83, Tryz.ntmps83
 go_upto_region 1 with (fail)
 rw [← hW1, ← hW2]
 replace hW1 := hi_ hW1
 replace hW2 := hi_ hW2
 go_upto_region 2 with (go_at_call 51; (with_reducible refine c66.mono ?_); rintro e' w3 ⟨vB, vL, vD, rl, rd, rfl, hO3, hG3, hD3, hB3⟩; obtain ⟨A', c', rfl, _⟩ := hO3.out2 hO3.len; obtain ⟨AL', cL', gL', rfl, _⟩ := hG3.out ob_law (by omega); obtain ⟨AD', cD', gD', rfl, _⟩ := hD3.out en_law (by omega); obtain ⟨lb, hlb⟩ : ∃ x, x = b.length := ⟨_, rfl⟩; obtain ⟨ll, hll⟩ : ∃ x, x = l.length := ⟨_, rfl⟩; obtain ⟨m, hm⟩ : ∃ m, m = d.length := ⟨_, rfl⟩; rw [← hlb] at hO3 ⊢; rw [← hll] at hG3 ⊢; rw [← hm] at hD3 ⊢; replace hO3 := hi_ hO3; replace hG3 := hi_ hG3; replace hD3 := hi_ hD3; replace hB3 := hi_ hB3; replace hlb := hi_ hlb; replace hll := hi_ hll; replace hm := hi_ hm; clear c66)
 obtain ⟨W4, hW4⟩ : ∃ W, W = w3.alloc (.cells #[.int .i64 k, .int .i64 n, .slice A' lb c', .slice AL' ll cL', .slice AD' m cD'] 26) := ⟨_, rfl⟩
 rw [← hW4]
 have hb4 : Below w3.heap.size w3 W4 := by rw [hW4]; exact (Below.refl _ _).alloc (Nat.le_refl _) _
 have hD4 : Below W2.heap.size W2 W4 := bthen hB3.out hb4
 have hP4 : Blk W4 w3.heap.size 26 #[.int .i64 k, .int .i64 n, .slice A' lb c', .slice AL' ll cL', .slice AD' m cD'] := by rw [hW4]; exact Blk.new w3 26 _
 replace hP4 := hi_ hP4
 have z3 := hB3.out.size
 have z4 : W4.heap.size = w3.heap.size + 1 := by rw [hW4, World.size_alloc]
 obtain ⟨g0, g1, g2, g3, g4⟩ := five_kept f.out hD4
 have d65 := c65.out W4
 replace hb4 := hi_ hb4
 replace hD4 := hi_ hD4
 replace hW4 := hi_ hW4
 clear f0 f1 f2 f3 f4
 go_upto_region 3 with (go_at_call 50; (with_reducible refine d65.mono ?_); rintro e' w5 ⟨rfl, hB5⟩; have hD5 := bthen hD4.out hB5; have z5 := hB5.size; replace hB5 := hi_ hB5; replace hD5 := hi_ hD5; clear d65)
 clear g0 g1 g2 g3 g4
 have hP5 := hP4.out.below hB5.out (by omega)
 have hBd : Below w3.heap.size w3 w5.drew := bthen hb4.out (bthen hB5.out (Below.refl _ _).drew)
 have hP6 := hP5.below (Below.refl _ _).drew hP5.lt
 have p4 := hP6.cell 4
 have v4 := hP6.frozen 4
 have kc : w5.drew.cell? ⟨gl, 0, none⟩ = some (.string KB) := by
  have h1 := (hD5.out.drew.cell (cell_lt hcl2.out)).trans hcl2.out
  exact h1
 have cw := ref_withG w3.heap.size w5.drew (by show _ < w5.heap.size; omega) W2.heap.size _ d rd ((RowG.toA hD3.out (Nat.le_refl _)).below (ena_law _) hBd) (by show _ ≤ w5.heap.size; omega) KB (.mk 0 0 [] [] []) _ (by omega) (null_At _) (by decide) hKl.out
 replace cw := hi_ cw
 replace hP5 := hi_ hP5
 replace hP6 := hi_ hP6
 replace hBd := hi_ hBd
 go_wp2
 refine wp_loop_rounds 2 ?_; rw [rounds_succ]
 go_upto_region 6 with (fail)
 first | go_region_with (go_at_call 57; (with_reducible refine (cw.out).mono ?_); rintro e w8 ⟨v8, rd8, rfl, hG8, hge8, hB8⟩; obtain ⟨A8, c8, rfl⟩ : ∃ A c, v8 = .slice A (putE KB.data.toList (.mk 0 0 [] [] []) d).length c := (by obtain ⟨A, c, g, e, _⟩ := hG8.out (ena_law _) (by omega); exact ⟨A, c, e⟩); obtain ⟨n8, hn8⟩ : ∃ n, n = (putE KB.data.toList (.mk 0 0 [] [] []) d).length := ⟨_, rfl⟩; rw [← hn8] at hG8 hge8 ⊢; have hP8 := hP6.out.below hB8 hP6.out.lt; replace p4 := hP8.cell 4; replace v4 := hP8.frozen 4; replace hP8 := hi_ hP8; replace hn8 := hi_ hn8; replace hG8 := hi_ hG8; replace hge8 := hi_ hge8; replace hB8 := hi_ hB8) | fail
 all_goals (
  obtain ⟨W9, hW9⟩ : ∃ W, W = w8.setCell ⟨w3.heap.size, 4, none⟩ (.slice A8 n8 c8) := ⟨_, rfl⟩
  rw [← hW9]
  have z8 : w5.heap.size ≤ w8.heap.size := hB8.out.size
  have hz9 : W9.heap.size = w8.heap.size := by rw [hW9]; simp [World.setCell]
  have hg9 : w8.grownBy W9 (some w3.heap.size) := by rw [hW9]; exact set_grown w8 w3.heap.size 4 _
  have hP9 : Blk W9 w3.heap.size 26 #[.int .i64 k, .int .i64 n, .slice A' lb c', .slice AL' ll cL', .slice A8 n8 c8] := by rw [hW9]; exact hP8.out.set_ 4 _
  have hR9 : Blk W9 (w.heap.size + 1) 26 #[.int .i64 0, .int .i64 0, .slice none 0 0, .slice none 0 0, .slice none 0 0] := by rw [hW9]; exact ((hR2.out.below hD5.out (by omega)).below (bthen (Below.refl _ _).drew hB8.out) (by omega)).far (by show _ ≠ w3.heap.size; omega) _
  have hB9 : Below w3.heap.size w3 W9 := by
   rw [hW9]
   exact (bthen hBd.out hB8.out).grown (set_grown _ _ _ _) (by omega) (fun q hq => by injection hq with hq; omega)
  have hG9 := RowG.spared hG8.out hg9 (fun e => by have := hge8.out _ e; have hz : w5.drew.heap.size = w5.heap.size := rfl; omega)
  have p0 := hP9.cell 0
  have p1 := hP9.cell 1
  have p2 := hP9.cell 2
  have p3 := hP9.cell 3
  clear p4 v4
  have p4 := hP9.cell 4
  have r0 := hR9.cell 0
  have r1 := hR9.cell 1
  have r2 := hR9.cell 2
  have r3 := hR9.cell 3
  have r4 := hR9.cell 4
  have v0 := hR9.frozen 0
  have v1 := hR9.frozen 1
  have v2 := hR9.frozen 2
  have v3 := hR9.frozen 3
  have v4 := hR9.frozen 4
  replace hP9 := hi_ hP9
  replace hR9 := hi_ hR9
  replace hB9 := hi_ hB9
  replace hG9 := hi_ hG9
  replace hg9 := hi_ hg9
  replace hW9 := hi_ hW9
  replace hz9 := hi_ hz9
  go_wp2
  rw [rounds_succ]
  go_wp2
  obtain ⟨Wf, hWf⟩ : ∃ W, W = ((((W9.setCell ⟨w.heap.size + 1, 0, none⟩ (.int .i64 k)).setCell ⟨w.heap.size + 1, 1, none⟩ (.int .i64 n)).setCell ⟨w.heap.size + 1, 2, none⟩ (.slice A' lb c')).setCell ⟨w.heap.size + 1, 3, none⟩ (.slice AL' ll cL')).setCell ⟨w.heap.size + 1, 4, none⟩ (.slice A8 n8 c8) := ⟨_, rfl⟩
  rw [← hWf]
  obtain ⟨hbf, hgf, hzf⟩ := set_five hR9.out hWf
  have u0 := hbf.cell 0
  have u1 := hbf.cell 1
  have u2 := hbf.cell 2
  have u3 := hbf.cell 3
  have u4 := hbf.cell 4
  have hz9' := hz9.out
  have hzw9 := hB9.out.size
  have hkeep : ∀ q, W2.heap.size ≤ q → q < w3.heap.size → Wf.heap[q]? = w3.heap[q]? := fun q h1 h2 => (hgf.block q (by omega) (fun e => by injection e with e; omega)).trans (hB9.out.block q h2)
  have hOf : Own w.heap.size Wf (.slice A' lb c') b := Own.base ⟨own_far hO3.out.row hkeep⟩ (by omega)
  have hLf := RowG.base (B' := w.heap.size) (hG3.out.far ob_law hkeep (by omega)) (by omega)
  have hDf := RowG.base (B' := w.heap.size) ((RowG.en hG9.out).far en_law (fun q h1 h2 => hgf.block q h2 (fun e => by injection e with e; omega)) (by omega)) (by omega)
  have hBf : Below w.heap.size w Wf := (bthen hb2.out (bthen hB3.out hB9.out)).grown hgf (by omega) (fun q hq => by injection hq with hq; omega)
  replace hOf := hi_ hOf
  replace hLf := hi_ hLf
  replace hDf := hi_ hDf
  replace hBf := hi_ hBf
  clear hbf hgf hkeep
  replace hWf := hi_ hWf
  exact bodyPost_ret (by simp [results, Tryz.results83, go_sem, u0, u1, u2, u3, u4]; try rfl) rfl ⟨_, _, _, _, _, rfl, hOf.out, hLf.out, hDf.out, hBf.out⟩)

/- What stands behind the word stream. No condition. -/
section
variable {L : Nat} {A : Option Addr} {c : Nat} {bs : Bs} {D P : Value} {w w' : World} {r r' u : Bs} {k : Tok}
theorem num_shape {w : World} {k n : Int} {us : List Value} (h : ObAt w (.mk k n [] [] []) us) : ∃ A1 A2 A3 c1 c2 c3, us = [.int .i64 k, .int .i64 n, .slice A1 0 c1, .slice A2 0 c2, .slice A3 0 c3] := by
 cases h with
 | mk k n b l d A AL AD c cL cD gL oL gD oD vl vd => exact ⟨_, _, _, _, _, _, rfl⟩
theorem below_drewN (w : World) (n : Nat) : Below w.heap.size w (w.drewN n) := ⟨rfl, rfl, rfl, Nat.le_refl _, fun _ _ => rfl⟩
theorem cell_far {w : World} {p q : Addr} {u : Value} (h : q.block ≠ p.block) : (w.setCell p u).cell? q = w.cell? q := World.cell?_of_block (w := w) (Below.heap_setCell _ _ _ _ h)
def lengB : Bs := [76, 101, 110, 103, 116, 104]
set_option maxHeartbeats 16000000 in
set_option maxRecDepth 100000 in
theorem rp_data {pl : Bool} {n : Int} {b : Bs} {l : List Ob} {d : List (Bs × Ob)} {vs : List Value} {x t : Bs} {lo hi : Nat} (h : LX L A c bs D (.bool pl) w (10 :: (x ++ t))) (hI : ObI lo hi w (.mk 7 n b l d) vs) (hlo : L < lo) (hbk : (Ob.mk 7 n b l d).bulk ≤ 100000000) (hget : Ob.get lengB (.mk 7 n b l d) = .mk 2 x.length [] [] []) (ht : 0 < t.length) :
 Calls Tryz.prog 56 #[.pointer (some ⟨L, 0, none⟩), .agg vs.toArray] w fun e w' => ∃ us, e = .returned (.tuple #[.agg (List.toArray us), .int .i64 0]) ∧ ObI w.heap.size w'.heap.size w' (.mk 8 n x l (putE lengB (.mk 0 0 [] [] []) d)) us ∧ LX L A c bs D (.bool pl) w' (eolR t).2 ∧ Save L w w' := by
 obtain ⟨d', hd'⟩ : ∃ e, e = putE lengB (.mk 0 0 [] [] []) d := ⟨_, rfl⟩
 rw [← hd']
 replace hd' := hi_ hd'
 have hLw := h.lt
 have hAw := h.a_lt
 have hbl := h.suf.length_le
 obtain ⟨ab, ao, hAe, _⟩ := h.byt.2 (by simp only [List.length_cons] at hbl; omega)
 subst hAe
 have hxl : x.length ≤ 1000000000 := by have := h.small; simp only [List.length_cons, List.length_append] at hbl; omega
 have hrange := ObAt.range hI.ob
 obtain ⟨en, E1, E2, E3, en1, ec1, en2, ec2, en3, ec3, hys⟩ := ob_five2 hI.ob
 have hkd : (Ob.mk 7 n b l d).kind = 7 := rfl
 rw [hkd] at hys
 subst hys
 obtain ⟨W1, hW1⟩ : ∃ W, W = w.alloc (.cells #[.int .i64 7, .int .i64 en, .slice E1 en1 ec1, .slice E2 en2 ec2, .slice E3 en3 ec3] 26) := ⟨_, rfl⟩
 obtain ⟨W2, hW2⟩ : ∃ W, W = W1.alloc (.cells #[.int .i64 0, .int .i64 0, .slice none 0 0, .slice none 0 0, .slice none 0 0] 26) := ⟨_, rfl⟩
 have b1 : Below w.heap.size w W1 := by rw [hW1]; exact (Below.refl _ _).alloc (Nat.le_refl _) _
 have z1 : W1.heap.size = w.heap.size + 1 := by rw [hW1, World.size_alloc]
 have b12 : Below W1.heap.size W1 W2 := by rw [hW2]; exact (Below.refl _ _).alloc (Nat.le_refl _) _
 have b2 : Below w.heap.size w W2 := bthen b1 b12
 have z2 : W2.heap.size = w.heap.size + 2 := by rw [hW2, World.size_alloc, z1]
 have hF := Blk.new w 26 #[.int .i64 7, .int .i64 en, .slice E1 en1 ec1, .slice E2 en2 ec2, .slice E3 en3 ec3]
 rw [← hW1] at hF
 replace hF := hF.below b12 hF.lt
 have hR : Blk W2 (w.heap.size + 1) 26 #[.int .i64 0, .int .i64 0, .slice none 0 0, .slice none 0 0, .slice none 0 0] := by rw [hW2, ← z1]; exact Blk.new W1 26 _
 have hL := h.below b2
 have hS := Save.of_below (L := L) b2
 have hneR : w.heap.size + 1 ≠ L := by omega
 have hneF : w.heap.size ≠ L := by omega
 obtain ⟨q, hq⟩ : ∃ q : Int, q = (pos bs (10 :: (x ++ t)) : Nat) := ⟨_, rfl⟩
 have hpk : pk (10 :: (x ++ t)) 0 = 10 := rfl
 have cp := fun W (h : LX L (some ⟨ab, ao, none⟩) c bs D (.bool pl) W (10 :: (x ++ t))) => rx_pk0 W h
 rw [hpk] at cp
 have hq0 : 0 ≤ q := by omega
 have hq1 : q ≤ 1000000000 := by have := pos_le bs (10 :: (x ++ t)); have := h.small; omega
 have hsuf := h.suf
 have l0 := hL.blk.cell 0
 have l1 := hL.blk.cell 1
 rw [← hq] at l1
 have lv := hL.blk.frozen 1
 have f0 := hF.cell 0
 have f1 := hF.cell 1
 have f2 := hF.cell 2
 have f3 := hF.cell 3
 have f4 := hF.cell 4
 replace hrange := hi_ hrange
 replace hAw := hi_ hAw
 replace hL := hi_ hL
 replace hR := hi_ hR
 replace hF := hi_ hF
 replace hS := hi_ hS
 replace z2 := hi_ z2
 replace hq := hi_ hq
 replace cp := hi_ cp
 replace hI := hi_ hI
 replace hsuf := hi_ hsuf
 replace hget := hi_ hget
 replace hbk := hi_ hbk
 replace hbl := hi_ hbl
 clear h b1 b2 b12 z1 hpk hkd
 go_enter Tryz.func56, Tryz.ntmps56
 go_upto_region 2 with (fail)
 rw [← hW1, ← hW2]
 replace hW1 := hi_ hW1
 replace hW2 := hi_ hW2
 go_upto_region 8 with (go_at_call 82; (with_reducible refine (cp.out _ hL.out).mono ?_); rintro e w4 ⟨rfl, hB4⟩; replace hL := hi_ (hL.out.below hB4); replace hR := hi_ (hR.out.below hB4 hR.out.lt); replace hF := hi_ (hF.out.below hB4 hF.out.lt); replace hS := hi_ (hS.out.then_ hB4); replace l0 := hL.out.blk.cell 0; replace l1 := hL.out.blk.cell 1; replace lv := hL.out.blk.frozen 1; replace f0 := hF.out.cell 0; replace f1 := hF.out.cell 1; replace f2 := hF.out.cell 2; replace f3 := hF.out.cell 3; replace f4 := hF.out.cell 4; rw [← hq.out] at l1; clear hB4)
 obtain ⟨w5, hw5⟩ : ∃ W, W = w4.setCell ⟨L, 1, none⟩ (.int .i64 (q + 1)) := ⟨_, rfl⟩
 rw [← hw5]
 have hL5 : LX L (some ⟨ab, ao, none⟩) c bs D (.bool pl) w5 (x ++ t) := by rw [hw5]; exact hL.out.next1 (by simp) hq.out
 have hS5 : Save L w w5 := by rw [hw5]; exact hS.out.store 1 _
 have hF5 : Blk w5 w.heap.size 26 #[.int .i64 7, .int .i64 en, .slice E1 en1 ec1, .slice E2 en2 ec2, .slice E3 en3 ec3] := by rw [hw5]; exact hF.out.far (p := ⟨L, 1, none⟩) hneF _
 have hR5 : Blk w5 (w.heap.size + 1) 26 #[.int .i64 0, .int .i64 0, .slice none 0 0, .slice none 0 0, .slice none 0 0] := by rw [hw5]; exact hR.out.far (p := ⟨L, 1, none⟩) hneR _
 replace hw5 := hi_ hw5
 replace hL := hi_ hL5
 replace hS := hi_ hS5
 replace hF := hi_ hF5
 replace hR := hi_ hR5
 have hI5 := hS5.obI hlo hI.out
 have cg := ref_GetB _ _ w5 hI5.ob hbk.out ⟨#[76, 101, 110, 103, 116, 104]⟩
 have hge : Ob.get (ByteArray.data ⟨#[76, 101, 110, 103, 116, 104]⟩).toList (.mk 7 n b l d) = .mk 2 x.length [] [] [] := hget.out
 rw [hge] at cg
 replace cg := hi_ cg
 replace hI := hi_ hI5
 obtain ⟨q2, hq2⟩ : ∃ q : Nat, q = pos bs (x ++ t) := ⟨_, rfl⟩
 replace l0 := hL.out.blk.cell 0
 replace l1 := hL.out.blk.cell 1
 replace lv := hL.out.blk.frozen 1
 replace f0 := hF.out.cell 0
 replace f1 := hF.out.cell 1
 replace f2 := hF.out.cell 2
 replace f3 := hF.out.cell 3
 replace f4 := hF.out.cell 4
 rw [← hq2] at l1
 have hq21 : q2 ≤ 1000000000 := by have := pos_le bs (x ++ t); have := hL5.small; omega
 have hql : q2 + x.length < bs.length := by
  have h1 := pos_len hL5.suf
  have h2 := pos_le bs (x ++ t)
  rw [List.length_append] at h1
  omega
 clear hL5 hS5 hF5 hR5 hge hI5 cp
 obtain ⟨xl, hxe⟩ : ∃ m, m = x.length := ⟨_, rfl⟩
 rw [← hxe] at hxl hql cg
 replace hxe := hi_ hxe
 replace hq2 := hi_ hq2
 go_upto_region 9 with (go_at_call 20; (with_reducible refine cg.out.mono ?_); rintro e w6 ⟨us, rfl, hI6, hB6⟩; obtain ⟨G1, G2, G3, d1, d2, d3, hus⟩ := num_shape hI6.ob; subst hus; replace hB6 := hi_ hB6; clear hI6)
 obtain ⟨w7, hw7⟩ : ∃ W, W = w6.alloc (.cells #[.int .i64 2, .int .i64 (xl : Nat), .slice G1 0 d1, .slice G2 0 d2, .slice G3 0 d3] 26) := ⟨_, rfl⟩
 rw [← hw7]
 have b67 : Below w6.heap.size w6 w7 := by rw [hw7]; exact (Below.refl _ _).alloc (Nat.le_refl _) _
 have b7 : Below w5.heap.size w5 w7 := bthen hB6.out b67
 have z67 : w6.heap.size < w7.heap.size := by rw [hw7, World.size_alloc]; omega
 have z56 := hB6.out.size
 have z25 : w.heap.size + 2 ≤ w5.heap.size := by have := (Save.size hS.out); have := hR.out.lt; omega
 have hN : Blk w7 w6.heap.size 26 #[.int .i64 2, .int .i64 (xl : Nat), .slice G1 0 d1, .slice G2 0 d2, .slice G3 0 d3] := by rw [hw7]; exact Blk.new w6 26 _
 replace hL := hi_ (hL.out.below b7)
 replace hR := hi_ (hR.out.below b7 hR.out.lt)
 replace hF := hi_ (hF.out.below b7 hF.out.lt)
 replace hS := hi_ (hS.out.then_ b7)
 replace l0 := hL.out.blk.cell 0
 replace l1 := hL.out.blk.cell 1
 replace lv := hL.out.blk.frozen 1
 replace f0 := hF.out.cell 0
 replace f1 := hF.out.cell 1
 replace f2 := hF.out.cell 2
 replace f3 := hF.out.cell 3
 replace f4 := hF.out.cell 4
 rw [← hq2.out] at l1
 have hI7 := obI_below hI.out b7
 replace hI := hi_ hI7
 have n0 := hN.cell 0
 have n1 := hN.cell 1
 replace hN := hi_ hN
 replace hw7 := hi_ hw7
 obtain ⟨NB, hNB⟩ : ∃ m, m = bs.length := ⟨_, rfl⟩
 have hNs := hL.out.small
 rw [← hNB] at hql l0 hNs
 replace hNB := hi_ hNB
 clear b7 b67 hI7
 go_upto_region 11 with (fail)
 go_quiet (fail)
 obtain ⟨w8, hw8⟩ : ∃ W, W = w7.drewN nq := ⟨_, rfl⟩
 have b8 : Below w7.heap.size w7 w8 := by rw [hw8]; exact below_drewN _ _
 have z8 : w7.heap.size ≤ w8.heap.size := b8.size
 rw [← hw8]
 replace hw8 := hi_ hw8
 have hN8 := hN.out.below b8 hN.out.lt
 replace hN := hi_ hN8
 replace hL := hi_ (hL.out.below b8)
 replace hR := hi_ (hR.out.below b8 hR.out.lt)
 replace hF := hi_ (hF.out.below b8 hF.out.lt)
 replace hS := hi_ (hS.out.then_ b8)
 replace l0 := hL.out.blk.cell 0
 replace l1 := hL.out.blk.cell 1
 replace lv := hL.out.blk.frozen 1
 replace f0 := hF.out.cell 0
 replace f1 := hF.out.cell 1
 replace f2 := hF.out.cell 2
 replace f3 := hF.out.cell 3
 replace f4 := hF.out.cell 4
 rw [← hq2.out] at l1
 rw [← hNB.out] at l0
 have hI8 := obI_below hI.out b8
 replace hI := hi_ hI8
 obtain ⟨wK, hwK⟩ : ∃ W, W = w8.alloc (.cells #[.string ⟨#[76, 101, 110, 103, 116, 104]⟩] 9) := ⟨_, rfl⟩
 have bK : Below w8.heap.size w8 wK := by rw [hwK]; exact (Below.refl _ _).alloc (Nat.le_refl _) _
 have zK : w8.heap.size < wK.heap.size := by rw [hwK, World.size_alloc]; omega
 have hcK : wK.cell? ⟨w8.heap.size, 0, none⟩ = some (.string ⟨#[76, 101, 110, 103, 116, 104]⟩) := by rw [hwK]; exact (Blk.new w8 9 #[.string ⟨#[76, 101, 110, 103, 116, 104]⟩]).cell 0
 have cd := ref_Drop 7 n b l d _ wK (obI_below hI.out bK).ob hbk.out rfl w8.heap.size ⟨#[76, 101, 110, 103, 116, 104]⟩ hcK (by decide)
 have hdl : (ByteArray.data ⟨#[76, 101, 110, 103, 116, 104]⟩).toList = lengB := rfl
 rw [hdl] at cd
 rw [← hd'.out] at cd
 replace cd := hi_ cd
 have hNK := hN8.below bK hN8.lt
 replace hN := hi_ hNK
 replace hL := hi_ (hL.out.below bK)
 replace hR := hi_ (hR.out.below bK hR.out.lt)
 replace hF := hi_ (hF.out.below bK hF.out.lt)
 replace hS := hi_ (hS.out.then_ bK)
 clear n0 n1 b8 bK hNK hI8 hN8 hdl hcK
 go_upto_region 14 with (go_at_call 83; rw [← hwK]; replace hwK := hi_ hwK; (with_reducible refine cd.out.mono ?_); rintro e w9 ⟨vB, vL, vD, rl, rd, rfl, hO9, hG9, hD9, hB9⟩; obtain ⟨A', c', rfl, _⟩ := hO9.out2 hO9.len; obtain ⟨AL', cL', gL', rfl, _⟩ := hG9.out ob_law (by omega); obtain ⟨AD', cD', gD', rfl, _⟩ := hD9.out en_law (by omega); obtain ⟨lb, hlb⟩ : ∃ y, y = b.length := ⟨_, rfl⟩; obtain ⟨ll, hll⟩ : ∃ y, y = l.length := ⟨_, rfl⟩; obtain ⟨m, hm⟩ : ∃ m, m = d'.length := ⟨_, rfl⟩; rw [← hlb] at hO9 ⊢; rw [← hll] at hG9 ⊢; rw [← hm] at hD9 ⊢; replace hO9 := hi_ hO9; replace hG9 := hi_ hG9; replace hD9 := hi_ hD9; replace hB9 := hi_ hB9; replace hlb := hi_ hlb; replace hll := hi_ hll; replace hm := hi_ hm; clear cd)
 have hP0 := Blk.new w9 26 #[.int .i64 7, .int .i64 n, .slice A' lb c', .slice AL' ll cL', .slice AD' m cD']
 obtain ⟨wP, hwP⟩ : ∃ W, W = w9.alloc (.cells #[.int .i64 7, .int .i64 n, .slice A' lb c', .slice AL' ll cL', .slice AD' m cD'] 26) := ⟨_, rfl⟩
 rw [← hwP] at hP0 ⊢
 have b9P : Below w9.heap.size w9 wP := by rw [hwP]; exact (Below.refl _ _).alloc (Nat.le_refl _) _
 have bKP : Below wK.heap.size wK wP := bthen hB9.out b9P
 have zP : w9.heap.size < wP.heap.size := by rw [hwP, World.size_alloc]; omega
 have z9 := hB9.out.size
 have hKP := hN.out.below bKP hN.out.lt
 replace hN := hi_ hKP
 replace hL := hi_ (hL.out.below bKP)
 replace hR := hi_ (hR.out.below bKP hR.out.lt)
 replace hF := hi_ (hF.out.below bKP hF.out.lt)
 replace hS := hi_ (hS.out.then_ bKP)
 have hS9 : Save L w9 wP := Save.of_below b9P
 replace hS9 := hi_ hS9
 replace hwP := hi_ hwP
 have pv0 := hP0.frozen 0
 have hneP : w9.heap.size ≠ L := by omega
 have hneN : w6.heap.size ≠ L := by omega
 have hnPN : w6.heap.size ≠ w9.heap.size := by omega
 have hnPF : w.heap.size ≠ w9.heap.size := by omega
 have hnPR : w.heap.size + 1 ≠ w9.heap.size := by omega
 have pc0 := hP0.cell 0
 replace hP0 := hi_ hP0
 clear b9P bKP hKP
 go_upto_region 15 with (fail)
 obtain ⟨w10, hw10⟩ : ∃ W, W = wP.setCell ⟨w9.heap.size, 0, none⟩ (.int .i64 8) := ⟨_, rfl⟩
 rw [← hw10]
 have hP1 : Blk w10 w9.heap.size 26 #[.int .i64 8, .int .i64 n, .slice A' lb c', .slice AL' ll cL', .slice AD' m cD'] := by rw [hw10]; exact hP0.out.set_ 0 _
 have hN1 : Blk w10 w6.heap.size 26 #[.int .i64 2, .int .i64 (xl : Nat), .slice G1 0 d1, .slice G2 0 d2, .slice G3 0 d3] := by rw [hw10]; exact hN.out.far (p := ⟨w9.heap.size, 0, none⟩) hnPN _
 have hR1 : Blk w10 (w.heap.size + 1) 26 #[.int .i64 0, .int .i64 0, .slice none 0 0, .slice none 0 0, .slice none 0 0] := by rw [hw10]; exact hR.out.far (p := ⟨w9.heap.size, 0, none⟩) hnPR _
 have hL1 : LX L (some ⟨ab, ao, none⟩) c bs D (.bool pl) w10 (x ++ t) := by rw [hw10]; exact hL.out.far_ hneP.symm (fun h0 y hy => by have := hAw.out h0 y hy; omega)
 have hS1 : Save L w w10 := by rw [hw10]; exact hS.out.far_ (by omega)
 have hS91 : Save L w9 w10 := by rw [hw10]; exact hS9.out.far_ (Nat.le_refl _)
 have z10 : wP.heap.size ≤ w10.heap.size := by rw [hw10]; simp [World.setCell]
 replace hw10 := hi_ hw10
 have kp : ∀ W, Below w10.heap.size w10 W → W.cell? ⟨L, 0, none⟩ = some (.slice (some ⟨ab, ao, none⟩) NB c) ∧ W.cell? ⟨L, 1, none⟩ = some (.int .i64 (q2 : Nat)) ∧ W.cell? ⟨w6.heap.size, 1, none⟩ = some (.int .i64 (xl : Nat)) := fun W hW => by
  have g1 := (hL1.below hW).blk.cell 0
  have g2 := (hL1.below hW).blk.cell 1
  rw [← hNB.out] at g1
  rw [← hq2.out] at g2
  exact ⟨g1, g2, (hN1.below hW hN1.lt).cell 1⟩
 have pv2 := hP1.frozen 2
 have pc2 := hP1.cell 2
 replace kp := hi_ kp
 clear pc0 pv0 l0 l1 lv f0 f1 f2 f3 f4
 have hcap := hL1.cap
 rw [← hNB.out] at hcap
 have hqc : q2 < c := by omega
 have hqd : q2 + xl ≤ c := by omega
 have hby : ∀ W, Below w10.heap.size w10 W → Byt W (some ⟨ab, ao + q2, none⟩) x := fun W hW => by
  have hby1 := (hL1.below hW).byt
  refine ⟨by rw [← hxe.out]; unfold maxLen; omega, fun h1 => ⟨ab, ao + q2, rfl, fun i hi => ?_⟩⟩
  obtain ⟨b', o', e, hc⟩ := hby1.2 (by have := hNB.out; have := hxe.out; omega)
  cases e
  have hi2 : i < xl := by rw [hxe.out]; exact hi
  have h9 := hc (q2 + i) (by have := hNB.out; omega)
  rw [Nat.add_assoc, h9]
  have e3 : x[i]? = bs[q2 + i]? := by
   rw [hq2.out, suf_at hL1.suf, List.getElem?_append_left hi]
  rw [List.getElem?_eq_getElem hi, List.getElem?_eq_getElem (by have := hNB.out; omega)] at e3
  injection e3 with e3
  rw [e3]
 have cc := fun W (hW : Below w10.heap.size w10 W) => rf_Copy (some ⟨ab, ao + q2, none⟩) (c - q2) x W (hby W hW) (by rw [← hxe.out]; exact hxl)
 rw [← hxe.out] at cc
 replace cc := hi_ cc
 replace hP1 := hi_ hP1
 replace hN1 := hi_ hN1
 replace hR1 := hi_ hR1
 replace hL1 := hi_ hL1
 replace hS1 := hi_ hS1
 replace hS91 := hi_ hS91
 clear hby
 have hwr1 : IntKind.i64.wrap ((q2 : Int) + (xl : Int)) = ((q2 + xl : Nat) : Int) := by rw [IntWalk.i64_in _ (by omega)]; omega
 go_region_held (fun w' => w'.cell? ⟨L, 0, none⟩ = some (.slice (some ⟨ab, ao, none⟩) NB c) ∧ w'.cell? ⟨L, 1, none⟩ = some (.int .i64 (q2 : Nat)) ∧ w'.cell? ⟨w6.heap.size, 1, none⟩ = some (.int .i64 (xl : Nat)))
  (first | (exact kp.out _ (Below.refl _ _).drew) | (exact kp.out _ hBc.out) | (exact ⟨(cell_far (show L ≠ w9.heap.size from hneP.symm)).trans (kp.out _ hBc.out).1, (cell_far (show L ≠ w9.heap.size from hneP.symm)).trans (kp.out _ hBc.out).2.1, (cell_far (show w6.heap.size ≠ w9.heap.size from hnPN)).trans (kp.out _ hBc.out).2.2⟩) | go_keep)
  (first | (go_at_call 39; (with_reducible refine (cc.out _ (by first | exact (Below.refl _ _).drew | exact Below.refl _ _)).mono ?_); rintro e w12 ⟨v12, rfl, hO12, hB12⟩; have hBc : Below w10.heap.size w10 w12 := bthen (Below.refl _ _).drew hB12; obtain ⟨A12, c12, rfl, _⟩ := hO12.out2 hO12.len; rw [← hxe.out]; have hP12 := hP1.out.below hBc hP1.out.lt; replace pc2 := hP12.cell 2; replace pv2 := hP12.frozen 2; replace hP12 := hi_ hP12; replace hO12 := hi_ hO12; replace hBc := hi_ hBc; clear hB12))
 obtain ⟨w13, hw13⟩ : ∃ W, W = w12.setCell ⟨w9.heap.size, 2, none⟩ (.slice A12 xl c12) := ⟨_, rfl⟩
 rw [← hw13]
 have hP12' := hP1.out.below hBc.out hP1.out.lt
 have hN12 := hN1.out.below hBc.out hN1.out.lt
 have hR12 := hR1.out.below hBc.out hR1.out.lt
 have hL12 := hL1.out.below hBc.out
 have hS12 := hS1.out.then_ hBc.out
 have hS92 := hS91.out.then_ hBc.out
 have zc := hBc.out.size
 have hP13 : Blk w13 w9.heap.size 26 #[.int .i64 8, .int .i64 n, .slice A12 xl c12, .slice AL' ll cL', .slice AD' m cD'] := by rw [hw13]; exact hP12'.set_ 2 _
 have hN13 : Blk w13 w6.heap.size 26 #[.int .i64 2, .int .i64 (xl : Nat), .slice G1 0 d1, .slice G2 0 d2, .slice G3 0 d3] := by rw [hw13]; exact hN12.far (p := ⟨w9.heap.size, 2, none⟩) hnPN _
 have hR13 : Blk w13 (w.heap.size + 1) 26 #[.int .i64 0, .int .i64 0, .slice none 0 0, .slice none 0 0, .slice none 0 0] := by rw [hw13]; exact hR12.far (p := ⟨w9.heap.size, 2, none⟩) hnPR _
 have hL13 : LX L (some ⟨ab, ao, none⟩) c bs D (.bool pl) w13 (x ++ t) := by rw [hw13]; exact hL12.far_ hneP.symm (fun h0 y hy => by have := hAw.out h0 y hy; omega)
 have hS13 : Save L w w13 := by rw [hw13]; exact hS12.far_ (by omega)
 have hS93 : Save L w9 w13 := by rw [hw13]; exact hS92.far_ (Nat.le_refl _)
 have hO13 : Own w10.heap.size w13 (.slice A12 xl c12) x := by
  have h0 := hO12.out
  rw [← hxe.out] at h0
  rw [hw13]
  exact ⟨own_far h0.row fun g h1 h2 => Below.heap_setCell _ _ _ _ (by show g ≠ w9.heap.size; have hz : w10.drew.heap.size = w10.heap.size := rfl; omega)⟩
 have z13 : w12.heap.size ≤ w13.heap.size := by rw [hw13]; simp [World.setCell]
 have l1 := hL13.blk.cell 1
 rw [← hq2.out] at l1
 have lv := hL13.blk.frozen 1
 have n1 := hN13.cell 1
 clear pc2 pv2 hP12' hN12 hR12 hL12 hS12 hS92
 replace hw13 := hi_ hw13
 replace hP13 := hi_ hP13
 replace hN13 := hi_ hN13
 replace hR13 := hi_ hR13
 replace hL13 := hi_ hL13
 replace hS13 := hi_ hS13
 replace hS93 := hi_ hS93
 replace hO13 := hi_ hO13
 go_upto_region 16 with (fail)
 go_region_with (fail)
 all_goals (
  obtain ⟨w14, hw14⟩ : ∃ W, W = (w13.setCell ⟨L, 1, none⟩ (.int .i64 ((q2 : Int) + (xl : Int)))).drew := ⟨_, rfl⟩
  rw [← hw14]
  have hL14 : LX L (some ⟨ab, ao, none⟩) c bs D (.bool pl) w14 t := by
   have hg := hL13.out.go ((List.suffix_append x t).trans hL13.out.suf)
   have hp := pos_drop hL13.out.suf x.length (by rw [List.length_append]; omega)
   rw [List.drop_left, ← hq2.out, ← hxe.out] at hp
   rw [hp, Int.natCast_add] at hg
   rw [hw14]
   exact hg.below (Below.refl _ _).drew
  have bd : Below (w13.setCell ⟨L, 1, none⟩ (.int .i64 ((q2 : Int) + (xl : Int)))).heap.size (w13.setCell ⟨L, 1, none⟩ (.int .i64 ((q2 : Int) + (xl : Int)))) w14 := by rw [hw14]; exact (Below.refl _ _).drew
  have hS14 : Save L w w14 := (hS13.out.store 1 _).then_ bd
  have hS94 : Save L w9 w14 := (hS93.out.store 1 _).then_ bd
  have hSx : Save L w13 w14 := ((Save.refl L w13).store 1 _).then_ bd
  have hP14 := hSx.blk hneP hP13.out
  have hR14 := hSx.blk hneR hR13.out
  have hO14 := hSx.own (by omega) hO13.out
  have ce := rx_eol hL14
  replace ce := hi_ ce
  replace hP14 := hi_ hP14
  replace hR14 := hi_ hR14
  replace hO14 := hi_ hO14
  replace hS14 := hi_ hS14
  replace hS94 := hi_ hS94
  replace hw14 := hi_ hw14
  clear hL14 bd hSx l1 lv n1
  go_upto_region 18 with (go_at_call 84; (with_reducible refine ce.out.mono ?_); rintro e w15 ⟨rfl, hL15, hS15⟩; replace hL15 := hi_ hL15; replace hS15 := hi_ hS15)
  have hP15 := hS15.out.blk hneP hP14.out
  have hR15 := hS15.out.blk hneR hR14.out
  have hO15 := hS15.out.own (by omega) hO14.out
  have hS95 := hS94.out.trans hS15.out
  have hSw := hS14.out.trans hS15.out
  have p0 := hP15.cell 0
  have p1 := hP15.cell 1
  have p2 := hP15.cell 2
  have p3 := hP15.cell 3
  have p4 := hP15.cell 4
  have r0 := hR15.cell 0
  have r1 := hR15.cell 1
  have r2 := hR15.cell 2
  have r3 := hR15.cell 3
  have r4 := hR15.cell 4
  have v0 := hR15.frozen 0
  have v1 := hR15.frozen 1
  have v2 := hR15.frozen 2
  have v3 := hR15.frozen 3
  have v4 := hR15.frozen 4
  replace hP15 := hi_ hP15
  replace hR15 := hi_ hR15
  replace hO15 := hi_ hO15
  replace hS95 := hi_ hS95
  replace hSw := hi_ hSw
  go_wp2
  obtain ⟨Wf, hWf⟩ : ∃ W, W = ((((w15.setCell ⟨w.heap.size + 1, 0, none⟩ (.int .i64 8)).setCell ⟨w.heap.size + 1, 1, none⟩ (.int .i64 n)).setCell ⟨w.heap.size + 1, 2, none⟩ (.slice A12 xl c12)).setCell ⟨w.heap.size + 1, 3, none⟩ (.slice AL' ll cL')).setCell ⟨w.heap.size + 1, 4, none⟩ (.slice AD' m cD') := ⟨_, rfl⟩
  rw [← hWf]
  obtain ⟨hbf, hgf, hzf⟩ := set_five hR15.out hWf
  have u0 := hbf.cell 0
  have u1 := hbf.cell 1
  have u2 := hbf.cell 2
  have u3 := hbf.cell 3
  have u4 := hbf.cell 4
  have hz95 := hS95.out.size
  have hkeep : ∀ g, wK.heap.size ≤ g → g < w9.heap.size → Wf.heap[g]? = w9.heap[g]? := fun g h1 h2 => (hgf.block g (by omega) (fun e => by injection e with e; omega)).trans (hS95.out.block g h2 (by omega))
  have hOf : Own w.heap.size Wf (.slice A12 xl c12) x := Own.base ⟨own_far hO15.out.row fun g h1 h2 => hgf.block g h2 (fun e => by injection e with e; omega)⟩ (by omega)
  have hLf := RowG.base (B' := w.heap.size) (hG9.out.far ob_law hkeep (by omega)) (by omega)
  have hDf := RowG.base (B' := w.heap.size) (hD9.out.far en_law hkeep (by omega)) (by omega)
  have hIf : ObI w.heap.size Wf.heap.size Wf (.mk 8 n x l d') [.int .i64 8, .int .i64 n, .slice A12 xl c12, .slice AL' ll cL', .slice AD' m cD'] :=
   built (by decide) (by decide) hrange.out.2.1 hrange.out.2.2 hOf.row hOf.len hLf hDf
  have hLXf := hL15.out.grown_ hgf hneR.symm (fun h0 y hy => by have := hAw.out h0 y hy; omega)
  have hSf := hSw.out.grown_ hgf (by omega)
  replace hIf := hi_ hIf
  replace hLXf := hi_ hLXf
  replace hSf := hi_ hSf
  clear hbf hgf hkeep hOf hLf hDf
  replace hWf := hi_ hWf
  exact bodyPost_ret (by simp [results, Tryz.results56, go_sem, u0, u1, u2, u3, u4]; try rfl) rfl ⟨_, rfl, hIf.out, hLXf.out, hSf.out⟩)
end
end Go.Proofs.YthacnnmlephkhaaGreatDoor

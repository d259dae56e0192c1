/- Walks and laws, joined: part H. No condition. -/
import Derived.Test.YthacnnmlephkhaaGreatDoorPrJG
import Derived.Test.YthacnnmlephkhaaGreatDoorPrJB
set_option linter.unusedSimpArgs false
set_option linter.unusedVariables false
/- The document's Token by cases; stop; a number or what it names. No condition. -/
namespace Go.Proofs.YthacnnmlephkhaaGreatDoor
open Go Go.RowKit Go.Wk Go.Rd Go.Fx
section
variable {L : Nat} {A : Option Addr} {c : Nat} {bs : Bs} {D P : Value} {w w' : World} {r r' u : Bs} {k : Tok}
theorem tok_code {n : Int} (h : tokS r = .err n u) : u = blankM false r := by
 unfold tokS at h
 have key : ∀ B : Bs, tokA B = .err n u → u = B := fun B h => by
  cases B with
  | nil => rw [tokA] at h; cases h
  | cons x t =>
   rw [tokA] at h
   have ht : ∀ k R, tokOf k (x :: t) R = .err n u → u = x :: t := fun k R h => by
    cases R with
    | ok b v => cases h
    | err e v => cases h; rfl
   unfold numS at h
   repeat' split at h
   all_goals first
    | (cases h; done)
    | (cases h; rfl)
    | exact ht _ _ h
 exact key _ h
theorem rx_ok (h : LX L A c bs D P w r) (ht : tokS r = .ok k u) {at' : Int} (ha : at' = (pos bs (blankM false r) : Nat)) : Calls Tryz.prog 110 #[.pointer (some ⟨L, 0, none⟩)] w fun e w' => ∃ Av cv, e = .returned (.tuple #[.agg #[.int .i64 k.k, .int .i64 at', .int .i64 k.n, .slice Av k.b.length cv], .int .i64 0]) ∧ Own w.heap.size w' (.slice Av k.b.length cv) k.b ∧ LX L A c bs D P w' u ∧ Save L w w' := by
 refine (rx_Token h).mono fun e w' hq => ?_
 unfold TokE at hq
 rw [ht] at hq
 obtain ⟨v, rfl, h1, h2, h3⟩ := hq
 obtain ⟨Av, cv, rfl, _⟩ := h1.out2 h1.len
 exact ⟨Av, cv, by rw [ha], h1, h2, h3⟩
theorem rx_err {n : Int} (h : LX L A c bs D P w r) (ht : tokS r = .err n u) {at' : Int} (ha : at' = (pos bs (blankM false r) : Nat)) : Calls Tryz.prog 110 #[.pointer (some ⟨L, 0, none⟩)] w fun e w' => n ≠ 0 ∧ e = .returned (.tuple #[.agg #[.int .i64 0, .int .i64 at', .int .i64 0, .slice none 0 0], .int .i64 n]) ∧ LX L A c bs D P w' u ∧ Save L w w' := by
 have hu := tok_code ht
 refine (rx_Token h).mono fun e w' hq => ?_
 unfold TokE at hq
 rw [ht] at hq
 obtain ⟨h0, rfl, h2, h3⟩ := hq
 exact ⟨h0, by rw [ha], by rw [hu]; exact h2, h3⟩
set_option maxHeartbeats 4000000 in
set_option maxRecDepth 100000 in
theorem rp_stop (h : LX L A c bs D P w r) (hr : r' <:+ bs) {at' : Int} (ha : at' = (pos bs r' : Nat)) (n : Int) : Calls Tryz.prog 111 #[.pointer (some ⟨L, 0, none⟩), .int .i64 at', .int .i64 n] w fun e w' => e = .returned (.tuple #[.agg #[.int .i64 0, .int .i64 0, .slice none 0 0, .slice none 0 0, .slice none 0 0], .int .i64 n]) ∧ LX L A c bs D P w' r' ∧ Save L w w' := by
 have hLw := h.lt
 have hAw := h.a_lt
 obtain ⟨W1, hW1⟩ : ∃ W, W = w.alloc (.cells #[.int .i64 0, .int .i64 0, .slice none 0 0, .slice none 0 0, .slice none 0 0] 26) := ⟨_, rfl⟩
 have b1 : Below w.heap.size w W1 := by rw [hW1]; exact (Below.refl _ _).alloc (Nat.le_refl _) _
 have hR1 : Blk W1 w.heap.size 26 #[.int .i64 0, .int .i64 0, .slice none 0 0, .slice none 0 0, .slice none 0 0] := by rw [hW1]; exact Blk.new w _ _
 have hL1 := h.below b1
 have l1 := hL1.blk.cell 1
 have v1 := hL1.blk.frozen 1
 have hne : w.heap.size ≠ L := by omega
 have p0 := hR1.cell 0
 have p1 := hR1.cell 1
 have p2 := hR1.cell 2
 have p3 := hR1.cell 3
 have p4 := hR1.cell 4
 have f0 := hR1.frozen 0
 have f1 := hR1.frozen 1
 have f2 := hR1.frozen 2
 have f3 := hR1.frozen 3
 have f4 := hR1.frozen 4
 replace h := hi_ h
 replace hL1 := hi_ hL1
 replace b1 := hi_ b1
 replace hR1 := hi_ hR1
 replace ha := hi_ ha
 replace hAw := hi_ hAw
 go_enter Tryz.func111, Tryz.ntmps111
 go_upto_region 1 with (fail)
 rw [← hW1]
 replace hW1 := hi_ hW1
 go_wp2
 obtain ⟨W2, hW2⟩ : ∃ W, W = W1.setCell ⟨L, 1, none⟩ (.int .i64 at') := ⟨_, rfl⟩
 rw [← hW2]
 have hL2 : LX L A c bs D P W2 r' := by rw [hW2, ha.out]; exact hL1.out.go hr
 have hS2 : Save L w W2 := by rw [hW2]; exact (Save.of_below b1.out).store 1 _
 have hR2 : Blk W2 w.heap.size 26 #[.int .i64 0, .int .i64 0, .slice none 0 0, .slice none 0 0, .slice none 0 0] := by rw [hW2]; exact hR1.out.far (p := ⟨L, 1, none⟩) hne _
 obtain ⟨Wf, hWf⟩ : ∃ W, W = ((((W2.setCell ⟨w.heap.size, 0, none⟩ (.int .i64 0)).setCell ⟨w.heap.size, 1, none⟩ (.int .i64 0)).setCell ⟨w.heap.size, 2, none⟩ (.slice none 0 0)).setCell ⟨w.heap.size, 3, none⟩ (.slice none 0 0)).setCell ⟨w.heap.size, 4, none⟩ (.slice none 0 0) := ⟨_, rfl⟩
 rw [← hWf]
 obtain ⟨hbf, hgf, hzf⟩ := set_five hR2 hWf
 have u0 := hbf.cell 0
 have u1 := hbf.cell 1
 have u2 := hbf.cell 2
 have u3 := hbf.cell 3
 have u4 := hbf.cell 4
 have hLf := hL2.grown_ hgf hne.symm (fun h0 x hx => by have := hAw.out h0 x hx; omega)
 have hSf := hS2.grown_ hgf (Nat.le_refl _)
 replace hLf := hi_ hLf
 replace hSf := hi_ hSf
 replace hWf := hi_ hWf
 clear hbf hgf
 exact bodyPost_ret (by simp [results, Tryz.results111, go_sem, u0, u1, u2, u3, u4]; try rfl) rfl ⟨rfl, hLf.out, hSf.out⟩
theorem whole_no {n : Int} (h : ¬ (1 ≤ n ∧ n ≤ 8388607)) (pl : Bool) : wholeS pl n r = (.mk 2 n [] [] [], r) := by unfold wholeS; rw [if_neg (fun h' => h ⟨h'.1, h'.2.1⟩)]
theorem whole_pl {n : Int} : wholeS true n r = (.mk 2 n [] [] [], r) := by unfold wholeS; rw [if_neg (fun h' => by cases h'.2.2)]
theorem whole_e1 {n e : Int} (h : tokS r = .err e u) : wholeS false n r = (.mk 2 n [] [] [], r) := by unfold wholeS; rw [h]; split <;> rfl
theorem whole_n1 {n : Int} (h : tokS r = .ok k u) (hk : ¬ (k.k = 1 ∧ k.n = 0)) : wholeS false n r = (.mk 2 n [] [] [], r) := by unfold wholeS; rw [h]; simp only [if_neg hk]; split <;> rfl
theorem whole_e2 {n e : Int} {v : Bs} (h : tokS r = .ok k u) (h2 : tokS u = .err e v) : wholeS false n r = (.mk 2 n [] [] [], r) := by unfold wholeS; rw [h]; simp only [h2]; split <;> (try split) <;> rfl
theorem whole_n2 {n : Int} {v : Bs} {s : Tok} (h : tokS r = .ok k u) (h2 : tokS u = .ok s v) (hs : ¬ (s.k = 9 ∧ s.b = [82])) : wholeS false n r = (.mk 2 n [] [] [], r) := by unfold wholeS; rw [h]; simp only [h2, if_neg hs]; split <;> (try split) <;> rfl
theorem whole_ref {n : Int} {v : Bs} {s : Tok} (hn : 1 ≤ n ∧ n ≤ 8388607) (h : tokS r = .ok k u) (hk : k.k = 1 ∧ k.n = 0) (h2 : tokS u = .ok s v) (hs : s.k = 9 ∧ s.b = [82]) : wholeS false n r = (.mk 9 n [] [] [], v) := by unfold wholeS; rw [if_pos ⟨hn.1, hn.2, rfl⟩, h]; simp only [if_pos hk, h2, if_pos hs]
theorem whole_end {rb : Nat} {W Wf : World} {kk n : Int} (hS : Save L w W) (hL : LX L A c bs D P W r) (hR : Blk W rb 26 #[.int .i64 0, .int .i64 0, .slice none 0 0, .slice none 0 0, .slice none 0 0]) (hrb : w.heap.size ≤ rb) (hne : L ≠ rb) (hAw : 0 < bs.length → ∀ x, A = some x → x.block < w.heap.size)
 (hWf : Wf = ((((W.setCell ⟨rb, 0, none⟩ (.int .i64 kk)).setCell ⟨rb, 1, none⟩ (.int .i64 n)).setCell ⟨rb, 2, none⟩ (.slice none 0 0)).setCell ⟨rb, 3, none⟩ (.slice none 0 0)).setCell ⟨rb, 4, none⟩ (.slice none 0 0)) :
 Blk Wf rb 26 #[.int .i64 kk, .int .i64 n, .slice none 0 0, .slice none 0 0, .slice none 0 0] ∧ LX L A c bs D P Wf r ∧ Save L w Wf := by
 obtain ⟨hbf, hgf, hzf⟩ := set_five hR hWf
 exact ⟨hbf, hL.grown_ hgf hne (fun h0 x hx => by have := hAw h0 x hx; omega), hS.grown_ hgf hrb⟩
set_option maxHeartbeats 8000000 in
set_option maxRecDepth 100000 in
theorem wh_lo {pl : Bool} {kk n : Int} {at1 v1 : Value} (hn : n < 1) (h : LX L A c bs D (.bool pl) w r) : Calls Tryz.prog 112 #[.pointer (some ⟨L, 0, none⟩), .agg #[.int .i64 kk, at1, .int .i64 n, v1]] w fun e w' => ∃ k', e = .returned (.agg #[.int .i64 k', .int .i64 n, .slice none 0 0, .slice none 0 0, .slice none 0 0]) ∧ k' = 2 ∧ LX L A c bs D (.bool pl) w' r ∧ Save L w w' := by
 have hLw := h.lt
 have hAw := h.a_lt
 obtain ⟨W1, hW1⟩ : ∃ W, W = (w.alloc (.cells #[.int .i64 kk, at1, .int .i64 n, v1] 99)).alloc (.cells #[.int .i64 0, .int .i64 0, .slice none 0 0, .slice none 0 0, .slice none 0 0] 26) := ⟨_, rfl⟩
 have b1 : Below w.heap.size w W1 := by rw [hW1]; exact ((Below.refl _ _).alloc (Nat.le_refl _) _).alloc (by rw [World.size_alloc]; omega) _
 have hT1 : Blk W1 w.heap.size 99 #[.int .i64 kk, at1, .int .i64 n, v1] := by rw [hW1]; exact (Blk.new w _ _).alloc _
 have hR1 : Blk W1 (w.heap.size + 1) 26 #[.int .i64 0, .int .i64 0, .slice none 0 0, .slice none 0 0, .slice none 0 0] := by
  rw [hW1, show w.heap.size + 1 = (w.alloc (.cells #[.int .i64 kk, at1, .int .i64 n, v1] 99)).heap.size from (World.size_alloc _ _).symm]; exact Blk.new _ _ _
 have hL1 := h.below b1
 have hS1 : Save L w W1 := Save.of_below b1
 obtain ⟨q, hq⟩ : ∃ q : Int, q = (pos bs r : Nat) := ⟨_, rfl⟩
 have hneT : w.heap.size ≠ L := by omega
 have hneR : w.heap.size + 1 ≠ L := by omega
 have hsuf := h.suf
 obtain ⟨hL, hS, hT, hR⟩ : Hid (LX L A c bs D (.bool pl) W1 r) ∧ Hid (Save L w W1) ∧ Hid (Blk W1 w.heap.size 99 #[.int .i64 kk, at1, .int .i64 n, v1]) ∧ Hid (Blk W1 (w.heap.size + 1) 26 #[.int .i64 0, .int .i64 0, .slice none 0 0, .slice none 0 0, .slice none 0 0]) := ⟨Lib.hid hL1, Lib.hid hS1, Lib.hid hT1, Lib.hid hR1⟩
 have l1 := hL1.blk.cell 1
 rw [← hq] at l1
 have l3 := hL1.blk.cell 3
 have lv := hL1.blk.frozen 1
 have t2 := hT1.cell 2
 have p0 := hR1.cell 0
 have f0 := hR1.frozen 0
 have p1 := hR1.cell 1
 have f1 := hR1.frozen 1
 have p2 := hR1.cell 2
 have f2 := hR1.frozen 2
 have p3 := hR1.cell 3
 have f3 := hR1.frozen 3
 have p4 := hR1.cell 4
 have f4 := hR1.frozen 4
 replace h := hi_ h
 replace hq := hi_ hq
 replace hsuf := hi_ hsuf
 clear hL1 hS1 hT1 hR1 b1
 go_enter Tryz.func112, Tryz.ntmps112
 go_upto_region 1 with (fail)
 rw [← hW1]
 replace hW1 := hi_ hW1
 go_wp2
 obtain ⟨W8, hW8⟩ : ∃ W, W = W1.setCell ⟨L, 1, none⟩ (.int .i64 q) := ⟨_, rfl⟩
 rw [← hW8]
 have hL8 : LX L A c bs D (.bool pl) W8 r := by rw [hW8, hq.out]; exact hL.out.go hsuf.out
 have hS8 : Save L w W8 := by rw [hW8]; exact hS.out.store 1 _
 have hR8 : Blk W8 (w.heap.size + 1) 26 #[.int .i64 0, .int .i64 0, .slice none 0 0, .slice none 0 0, .slice none 0 0] := by rw [hW8]; exact hR.out.far (p := ⟨L, 1, none⟩) hneR _
 obtain ⟨Wf, hWf⟩ : ∃ W, W = ((((W8.setCell ⟨w.heap.size + 1, 0, none⟩ (.int .i64 2)).setCell ⟨w.heap.size + 1, 1, none⟩ (.int .i64 n)).setCell ⟨w.heap.size + 1, 2, none⟩ (.slice none 0 0)).setCell ⟨w.heap.size + 1, 3, none⟩ (.slice none 0 0)).setCell ⟨w.heap.size + 1, 4, none⟩ (.slice none 0 0) := ⟨_, rfl⟩
 rw [← hWf]
 obtain ⟨hbf, hLf, hSf⟩ := whole_end hS8 hL8 hR8 (by omega) hneR.symm hAw hWf
 have u0 := hbf.cell 0
 have u1 := hbf.cell 1
 have u2 := hbf.cell 2
 have u3 := hbf.cell 3
 have u4 := hbf.cell 4
 replace hLf := hi_ hLf
 replace hSf := hi_ hSf
 replace hWf := hi_ hWf
 clear hbf
 exact bodyPost_ret (by simp [results, Tryz.results112, go_sem, u0, u1, u2, u3, u4]; try rfl) rfl ⟨_, rfl, rfl, hLf.out, hSf.out⟩
set_option maxHeartbeats 8000000 in
set_option maxRecDepth 100000 in
theorem wh_hi {pl : Bool} {kk n : Int} {at1 v1 : Value} (hn : 8388607 < n) (h : LX L A c bs D (.bool pl) w r) : Calls Tryz.prog 112 #[.pointer (some ⟨L, 0, none⟩), .agg #[.int .i64 kk, at1, .int .i64 n, v1]] w fun e w' => ∃ k', e = .returned (.agg #[.int .i64 k', .int .i64 n, .slice none 0 0, .slice none 0 0, .slice none 0 0]) ∧ k' = 2 ∧ LX L A c bs D (.bool pl) w' r ∧ Save L w w' := by
 have hLw := h.lt
 have hAw := h.a_lt
 obtain ⟨W1, hW1⟩ : ∃ W, W = (w.alloc (.cells #[.int .i64 kk, at1, .int .i64 n, v1] 99)).alloc (.cells #[.int .i64 0, .int .i64 0, .slice none 0 0, .slice none 0 0, .slice none 0 0] 26) := ⟨_, rfl⟩
 have b1 : Below w.heap.size w W1 := by rw [hW1]; exact ((Below.refl _ _).alloc (Nat.le_refl _) _).alloc (by rw [World.size_alloc]; omega) _
 have hT1 : Blk W1 w.heap.size 99 #[.int .i64 kk, at1, .int .i64 n, v1] := by rw [hW1]; exact (Blk.new w _ _).alloc _
 have hR1 : Blk W1 (w.heap.size + 1) 26 #[.int .i64 0, .int .i64 0, .slice none 0 0, .slice none 0 0, .slice none 0 0] := by
  rw [hW1, show w.heap.size + 1 = (w.alloc (.cells #[.int .i64 kk, at1, .int .i64 n, v1] 99)).heap.size from (World.size_alloc _ _).symm]; exact Blk.new _ _ _
 have hL1 := h.below b1
 have hS1 : Save L w W1 := Save.of_below b1
 obtain ⟨q, hq⟩ : ∃ q : Int, q = (pos bs r : Nat) := ⟨_, rfl⟩
 have hneT : w.heap.size ≠ L := by omega
 have hneR : w.heap.size + 1 ≠ L := by omega
 have hsuf := h.suf
 obtain ⟨hL, hS, hT, hR⟩ : Hid (LX L A c bs D (.bool pl) W1 r) ∧ Hid (Save L w W1) ∧ Hid (Blk W1 w.heap.size 99 #[.int .i64 kk, at1, .int .i64 n, v1]) ∧ Hid (Blk W1 (w.heap.size + 1) 26 #[.int .i64 0, .int .i64 0, .slice none 0 0, .slice none 0 0, .slice none 0 0]) := ⟨Lib.hid hL1, Lib.hid hS1, Lib.hid hT1, Lib.hid hR1⟩
 have l1 := hL1.blk.cell 1
 rw [← hq] at l1
 have l3 := hL1.blk.cell 3
 have lv := hL1.blk.frozen 1
 have t2 := hT1.cell 2
 have p0 := hR1.cell 0
 have f0 := hR1.frozen 0
 have p1 := hR1.cell 1
 have f1 := hR1.frozen 1
 have p2 := hR1.cell 2
 have f2 := hR1.frozen 2
 have p3 := hR1.cell 3
 have f3 := hR1.frozen 3
 have p4 := hR1.cell 4
 have f4 := hR1.frozen 4
 replace h := hi_ h
 replace hq := hi_ hq
 replace hsuf := hi_ hsuf
 clear hL1 hS1 hT1 hR1 b1
 go_enter Tryz.func112, Tryz.ntmps112
 go_upto_region 1 with (fail)
 rw [← hW1]
 replace hW1 := hi_ hW1
 go_wp2
 obtain ⟨W8, hW8⟩ : ∃ W, W = W1.setCell ⟨L, 1, none⟩ (.int .i64 q) := ⟨_, rfl⟩
 rw [← hW8]
 have hL8 : LX L A c bs D (.bool pl) W8 r := by rw [hW8, hq.out]; exact hL.out.go hsuf.out
 have hS8 : Save L w W8 := by rw [hW8]; exact hS.out.store 1 _
 have hR8 : Blk W8 (w.heap.size + 1) 26 #[.int .i64 0, .int .i64 0, .slice none 0 0, .slice none 0 0, .slice none 0 0] := by rw [hW8]; exact hR.out.far (p := ⟨L, 1, none⟩) hneR _
 obtain ⟨Wf, hWf⟩ : ∃ W, W = ((((W8.setCell ⟨w.heap.size + 1, 0, none⟩ (.int .i64 2)).setCell ⟨w.heap.size + 1, 1, none⟩ (.int .i64 n)).setCell ⟨w.heap.size + 1, 2, none⟩ (.slice none 0 0)).setCell ⟨w.heap.size + 1, 3, none⟩ (.slice none 0 0)).setCell ⟨w.heap.size + 1, 4, none⟩ (.slice none 0 0) := ⟨_, rfl⟩
 rw [← hWf]
 obtain ⟨hbf, hLf, hSf⟩ := whole_end hS8 hL8 hR8 (by omega) hneR.symm hAw hWf
 have u0 := hbf.cell 0
 have u1 := hbf.cell 1
 have u2 := hbf.cell 2
 have u3 := hbf.cell 3
 have u4 := hbf.cell 4
 replace hLf := hi_ hLf
 replace hSf := hi_ hSf
 replace hWf := hi_ hWf
 clear hbf
 exact bodyPost_ret (by simp [results, Tryz.results112, go_sem, u0, u1, u2, u3, u4]; try rfl) rfl ⟨_, rfl, rfl, hLf.out, hSf.out⟩
set_option maxHeartbeats 8000000 in
set_option maxRecDepth 100000 in
theorem wh_pl {kk n : Int} {at1 v1 : Value} (hn : 1 ≤ n) (hn2 : n ≤ 8388607) (h : LX L A c bs D (.bool true) w r) : Calls Tryz.prog 112 #[.pointer (some ⟨L, 0, none⟩), .agg #[.int .i64 kk, at1, .int .i64 n, v1]] w fun e w' => ∃ k', e = .returned (.agg #[.int .i64 k', .int .i64 n, .slice none 0 0, .slice none 0 0, .slice none 0 0]) ∧ k' = 2 ∧ LX L A c bs D (.bool true) w' r ∧ Save L w w' := by
 have hLw := h.lt
 have hAw := h.a_lt
 obtain ⟨W1, hW1⟩ : ∃ W, W = (w.alloc (.cells #[.int .i64 kk, at1, .int .i64 n, v1] 99)).alloc (.cells #[.int .i64 0, .int .i64 0, .slice none 0 0, .slice none 0 0, .slice none 0 0] 26) := ⟨_, rfl⟩
 have b1 : Below w.heap.size w W1 := by rw [hW1]; exact ((Below.refl _ _).alloc (Nat.le_refl _) _).alloc (by rw [World.size_alloc]; omega) _
 have hT1 : Blk W1 w.heap.size 99 #[.int .i64 kk, at1, .int .i64 n, v1] := by rw [hW1]; exact (Blk.new w _ _).alloc _
 have hR1 : Blk W1 (w.heap.size + 1) 26 #[.int .i64 0, .int .i64 0, .slice none 0 0, .slice none 0 0, .slice none 0 0] := by
  rw [hW1, show w.heap.size + 1 = (w.alloc (.cells #[.int .i64 kk, at1, .int .i64 n, v1] 99)).heap.size from (World.size_alloc _ _).symm]; exact Blk.new _ _ _
 have hL1 := h.below b1
 have hS1 : Save L w W1 := Save.of_below b1
 obtain ⟨q, hq⟩ : ∃ q : Int, q = (pos bs r : Nat) := ⟨_, rfl⟩
 have hneT : w.heap.size ≠ L := by omega
 have hneR : w.heap.size + 1 ≠ L := by omega
 have hsuf := h.suf
 obtain ⟨hL, hS, hT, hR⟩ : Hid (LX L A c bs D (.bool true) W1 r) ∧ Hid (Save L w W1) ∧ Hid (Blk W1 w.heap.size 99 #[.int .i64 kk, at1, .int .i64 n, v1]) ∧ Hid (Blk W1 (w.heap.size + 1) 26 #[.int .i64 0, .int .i64 0, .slice none 0 0, .slice none 0 0, .slice none 0 0]) := ⟨Lib.hid hL1, Lib.hid hS1, Lib.hid hT1, Lib.hid hR1⟩
 have l1 := hL1.blk.cell 1
 rw [← hq] at l1
 have l3 := hL1.blk.cell 3
 have lv := hL1.blk.frozen 1
 have t2 := hT1.cell 2
 have p0 := hR1.cell 0
 have f0 := hR1.frozen 0
 have p1 := hR1.cell 1
 have f1 := hR1.frozen 1
 have p2 := hR1.cell 2
 have f2 := hR1.frozen 2
 have p3 := hR1.cell 3
 have f3 := hR1.frozen 3
 have p4 := hR1.cell 4
 have f4 := hR1.frozen 4
 replace h := hi_ h
 replace hq := hi_ hq
 replace hsuf := hi_ hsuf
 clear hL1 hS1 hT1 hR1 b1
 go_enter Tryz.func112, Tryz.ntmps112
 go_upto_region 1 with (fail)
 rw [← hW1]
 replace hW1 := hi_ hW1
 go_wp2
 obtain ⟨W8, hW8⟩ : ∃ W, W = W1.setCell ⟨L, 1, none⟩ (.int .i64 q) := ⟨_, rfl⟩
 rw [← hW8]
 have hL8 : LX L A c bs D (.bool true) W8 r := by rw [hW8, hq.out]; exact hL.out.go hsuf.out
 have hS8 : Save L w W8 := by rw [hW8]; exact hS.out.store 1 _
 have hR8 : Blk W8 (w.heap.size + 1) 26 #[.int .i64 0, .int .i64 0, .slice none 0 0, .slice none 0 0, .slice none 0 0] := by rw [hW8]; exact hR.out.far (p := ⟨L, 1, none⟩) hneR _
 obtain ⟨Wf, hWf⟩ : ∃ W, W = ((((W8.setCell ⟨w.heap.size + 1, 0, none⟩ (.int .i64 2)).setCell ⟨w.heap.size + 1, 1, none⟩ (.int .i64 n)).setCell ⟨w.heap.size + 1, 2, none⟩ (.slice none 0 0)).setCell ⟨w.heap.size + 1, 3, none⟩ (.slice none 0 0)).setCell ⟨w.heap.size + 1, 4, none⟩ (.slice none 0 0) := ⟨_, rfl⟩
 rw [← hWf]
 obtain ⟨hbf, hLf, hSf⟩ := whole_end hS8 hL8 hR8 (by omega) hneR.symm hAw hWf
 have u0 := hbf.cell 0
 have u1 := hbf.cell 1
 have u2 := hbf.cell 2
 have u3 := hbf.cell 3
 have u4 := hbf.cell 4
 replace hLf := hi_ hLf
 replace hSf := hi_ hSf
 replace hWf := hi_ hWf
 clear hbf
 exact bodyPost_ret (by simp [results, Tryz.results112, go_sem, u0, u1, u2, u3, u4]; try rfl) rfl ⟨_, rfl, rfl, hLf.out, hSf.out⟩
set_option maxHeartbeats 8000000 in
set_option maxRecDepth 100000 in
theorem wh_e1 {kk n : Int} {at1 v1 : Value} {er : Int} (hn : 1 ≤ n) (hn2 : n ≤ 8388607) (ht : tokS r = .err er u) (h : LX L A c bs D (.bool false) w r) : Calls Tryz.prog 112 #[.pointer (some ⟨L, 0, none⟩), .agg #[.int .i64 kk, at1, .int .i64 n, v1]] w fun e w' => ∃ k', e = .returned (.agg #[.int .i64 k', .int .i64 n, .slice none 0 0, .slice none 0 0, .slice none 0 0]) ∧ k' = 2 ∧ LX L A c bs D (.bool false) w' r ∧ Save L w w' := by
 have hLw := h.lt
 have hAw := h.a_lt
 obtain ⟨W1, hW1⟩ : ∃ W, W = (w.alloc (.cells #[.int .i64 kk, at1, .int .i64 n, v1] 99)).alloc (.cells #[.int .i64 0, .int .i64 0, .slice none 0 0, .slice none 0 0, .slice none 0 0] 26) := ⟨_, rfl⟩
 have b1 : Below w.heap.size w W1 := by rw [hW1]; exact ((Below.refl _ _).alloc (Nat.le_refl _) _).alloc (by rw [World.size_alloc]; omega) _
 have hT1 : Blk W1 w.heap.size 99 #[.int .i64 kk, at1, .int .i64 n, v1] := by rw [hW1]; exact (Blk.new w _ _).alloc _
 have hR1 : Blk W1 (w.heap.size + 1) 26 #[.int .i64 0, .int .i64 0, .slice none 0 0, .slice none 0 0, .slice none 0 0] := by
  rw [hW1, show w.heap.size + 1 = (w.alloc (.cells #[.int .i64 kk, at1, .int .i64 n, v1] 99)).heap.size from (World.size_alloc _ _).symm]; exact Blk.new _ _ _
 have hL1 := h.below b1
 have hS1 : Save L w W1 := Save.of_below b1
 obtain ⟨q, hq⟩ : ∃ q : Int, q = (pos bs r : Nat) := ⟨_, rfl⟩
 have hneT : w.heap.size ≠ L := by omega
 have hneR : w.heap.size + 1 ≠ L := by omega
 have hsuf := h.suf
 obtain ⟨hL, hS, hT, hR⟩ : Hid (LX L A c bs D (.bool false) W1 r) ∧ Hid (Save L w W1) ∧ Hid (Blk W1 w.heap.size 99 #[.int .i64 kk, at1, .int .i64 n, v1]) ∧ Hid (Blk W1 (w.heap.size + 1) 26 #[.int .i64 0, .int .i64 0, .slice none 0 0, .slice none 0 0, .slice none 0 0]) := ⟨Lib.hid hL1, Lib.hid hS1, Lib.hid hT1, Lib.hid hR1⟩
 have l1 := hL1.blk.cell 1
 rw [← hq] at l1
 have l3 := hL1.blk.cell 3
 have lv := hL1.blk.frozen 1
 have t2 := hT1.cell 2
 have p0 := hR1.cell 0
 have f0 := hR1.frozen 0
 have p1 := hR1.cell 1
 have f1 := hR1.frozen 1
 have p2 := hR1.cell 2
 have f2 := hR1.frozen 2
 have p3 := hR1.cell 3
 have f3 := hR1.frozen 3
 have p4 := hR1.cell 4
 have f4 := hR1.frozen 4
 replace h := hi_ h
 replace hq := hi_ hq
 replace hsuf := hi_ hsuf
 clear hL1 hS1 hT1 hR1 b1
 obtain ⟨a1, ha1⟩ : ∃ a : Int, a = (pos bs (blankM false r) : Nat) := ⟨_, rfl⟩
 have ctok := fun W (h : LX L A c bs D (.bool false) W r) => rx_err h ht ha1
 replace ctok := hi_ ctok
 clear ha1 ht
 go_enter Tryz.func112, Tryz.ntmps112
 go_upto_region 1 with (fail)
 rw [← hW1]
 replace hW1 := hi_ hW1
 go_upto_region 4 with (fail)
 go_at_call 110
 (with_reducible refine (ctok.out _ hL.out).mono ?_)
 rintro e w3 ⟨hn0, rfl, hL3, hS3⟩
 have hS9 := hS3
 replace hT := hi_ (hS9.blk hneT hT.out)
 replace hR := hi_ (hS9.blk hneR hR.out)
 replace hS := hi_ (hS.out.trans hS9)
 replace hL := hi_ hL3
 replace l1 := hL.out.blk.cell 1
 replace l3 := hL.out.blk.cell 3
 replace lv := hL.out.blk.frozen 1
 replace t2 := hT.out.cell 2
 replace p0 := hR.out.cell 0
 replace f0 := hR.out.frozen 0
 replace p1 := hR.out.cell 1
 replace f1 := hR.out.frozen 1
 replace p2 := hR.out.cell 2
 replace f2 := hR.out.frozen 2
 replace p3 := hR.out.cell 3
 replace f3 := hR.out.frozen 3
 replace p4 := hR.out.cell 4
 replace f4 := hR.out.frozen 4
 have he0 : (er == 0) = false := by simpa using hn0
 replace hn0 := hi_ hn0
 clear hS9 hS3 hL3
 go_upto_region 4 with (fail)
 obtain ⟨W4, hW4⟩ : ∃ W, W = w3.alloc (.cells #[.int .i64 0, .int .i64 a1, .int .i64 0, .slice none 0 0] 99) := ⟨_, rfl⟩
 rw [← hW4]
 have b4 : Below w3.heap.size w3 W4 := by rw [hW4]; exact (Below.refl _ _).alloc (Nat.le_refl _) _
 have hK4 : Blk W4 w3.heap.size 99 #[.int .i64 0, .int .i64 a1, .int .i64 0, .slice none 0 0] := by rw [hW4]; exact Blk.new w3 _ _
 have k40 := hK4.cell 0
 have k42 := hK4.cell 2
 have k43 := hK4.cell 3
 replace hT := hi_ (hT.out.below b4 hT.out.lt)
 replace hR := hi_ (hR.out.below b4 hR.out.lt)
 replace hS := hi_ (hS.out.then_ b4)
 replace hL := hi_ (hL.out.below b4)
 replace l1 := hL.out.blk.cell 1
 replace l3 := hL.out.blk.cell 3
 replace lv := hL.out.blk.frozen 1
 replace t2 := hT.out.cell 2
 replace p0 := hR.out.cell 0
 replace f0 := hR.out.frozen 0
 replace p1 := hR.out.cell 1
 replace f1 := hR.out.frozen 1
 replace p2 := hR.out.cell 2
 replace f2 := hR.out.frozen 2
 replace p3 := hR.out.cell 3
 replace f3 := hR.out.frozen 3
 replace p4 := hR.out.cell 4
 replace f4 := hR.out.frozen 4
 replace hW4 := hi_ hW4
 go_wp2
 obtain ⟨W8, hW8⟩ : ∃ W, W = W4.setCell ⟨L, 1, none⟩ (.int .i64 q) := ⟨_, rfl⟩
 rw [← hW8]
 have hL8 : LX L A c bs D (.bool false) W8 r := by rw [hW8, hq.out]; exact hL.out.go hsuf.out
 have hS8 : Save L w W8 := by rw [hW8]; exact hS.out.store 1 _
 have hR8 : Blk W8 (w.heap.size + 1) 26 #[.int .i64 0, .int .i64 0, .slice none 0 0, .slice none 0 0, .slice none 0 0] := by rw [hW8]; exact hR.out.far (p := ⟨L, 1, none⟩) hneR _
 obtain ⟨Wf, hWf⟩ : ∃ W, W = ((((W8.setCell ⟨w.heap.size + 1, 0, none⟩ (.int .i64 2)).setCell ⟨w.heap.size + 1, 1, none⟩ (.int .i64 n)).setCell ⟨w.heap.size + 1, 2, none⟩ (.slice none 0 0)).setCell ⟨w.heap.size + 1, 3, none⟩ (.slice none 0 0)).setCell ⟨w.heap.size + 1, 4, none⟩ (.slice none 0 0) := ⟨_, rfl⟩
 rw [← hWf]
 obtain ⟨hbf, hLf, hSf⟩ := whole_end hS8 hL8 hR8 (by omega) hneR.symm hAw hWf
 have u0 := hbf.cell 0
 have u1 := hbf.cell 1
 have u2 := hbf.cell 2
 have u3 := hbf.cell 3
 have u4 := hbf.cell 4
 replace hLf := hi_ hLf
 replace hSf := hi_ hSf
 replace hWf := hi_ hWf
 clear hbf
 exact bodyPost_ret (by simp [results, Tryz.results112, go_sem, u0, u1, u2, u3, u4]; try rfl) rfl ⟨_, rfl, rfl, hLf.out, hSf.out⟩
set_option maxHeartbeats 8000000 in
set_option maxRecDepth 100000 in
theorem wh_n1a {kk n : Int} {at1 v1 : Value} (hn : 1 ≤ n) (hn2 : n ≤ 8388607) (ht : tokS r = .ok k u) (hk : k.k ≠ 1) (h : LX L A c bs D (.bool false) w r) : Calls Tryz.prog 112 #[.pointer (some ⟨L, 0, none⟩), .agg #[.int .i64 kk, at1, .int .i64 n, v1]] w fun e w' => ∃ k', e = .returned (.agg #[.int .i64 k', .int .i64 n, .slice none 0 0, .slice none 0 0, .slice none 0 0]) ∧ k' = 2 ∧ LX L A c bs D (.bool false) w' r ∧ Save L w w' := by
 have hLw := h.lt
 have hAw := h.a_lt
 obtain ⟨W1, hW1⟩ : ∃ W, W = (w.alloc (.cells #[.int .i64 kk, at1, .int .i64 n, v1] 99)).alloc (.cells #[.int .i64 0, .int .i64 0, .slice none 0 0, .slice none 0 0, .slice none 0 0] 26) := ⟨_, rfl⟩
 have b1 : Below w.heap.size w W1 := by rw [hW1]; exact ((Below.refl _ _).alloc (Nat.le_refl _) _).alloc (by rw [World.size_alloc]; omega) _
 have hT1 : Blk W1 w.heap.size 99 #[.int .i64 kk, at1, .int .i64 n, v1] := by rw [hW1]; exact (Blk.new w _ _).alloc _
 have hR1 : Blk W1 (w.heap.size + 1) 26 #[.int .i64 0, .int .i64 0, .slice none 0 0, .slice none 0 0, .slice none 0 0] := by
  rw [hW1, show w.heap.size + 1 = (w.alloc (.cells #[.int .i64 kk, at1, .int .i64 n, v1] 99)).heap.size from (World.size_alloc _ _).symm]; exact Blk.new _ _ _
 have hL1 := h.below b1
 have hS1 : Save L w W1 := Save.of_below b1
 obtain ⟨q, hq⟩ : ∃ q : Int, q = (pos bs r : Nat) := ⟨_, rfl⟩
 have hneT : w.heap.size ≠ L := by omega
 have hneR : w.heap.size + 1 ≠ L := by omega
 have hsuf := h.suf
 obtain ⟨hL, hS, hT, hR⟩ : Hid (LX L A c bs D (.bool false) W1 r) ∧ Hid (Save L w W1) ∧ Hid (Blk W1 w.heap.size 99 #[.int .i64 kk, at1, .int .i64 n, v1]) ∧ Hid (Blk W1 (w.heap.size + 1) 26 #[.int .i64 0, .int .i64 0, .slice none 0 0, .slice none 0 0, .slice none 0 0]) := ⟨Lib.hid hL1, Lib.hid hS1, Lib.hid hT1, Lib.hid hR1⟩
 have l1 := hL1.blk.cell 1
 rw [← hq] at l1
 have l3 := hL1.blk.cell 3
 have lv := hL1.blk.frozen 1
 have t2 := hT1.cell 2
 have p0 := hR1.cell 0
 have f0 := hR1.frozen 0
 have p1 := hR1.cell 1
 have f1 := hR1.frozen 1
 have p2 := hR1.cell 2
 have f2 := hR1.frozen 2
 have p3 := hR1.cell 3
 have f3 := hR1.frozen 3
 have p4 := hR1.cell 4
 have f4 := hR1.frozen 4
 replace h := hi_ h
 replace hq := hi_ hq
 replace hsuf := hi_ hsuf
 clear hL1 hS1 hT1 hR1 b1
 obtain ⟨a1, ha1⟩ : ∃ a : Int, a = (pos bs (blankM false r) : Nat) := ⟨_, rfl⟩
 have ctok := fun W (h : LX L A c bs D (.bool false) W r) => rx_ok h ht ha1
 replace ctok := hi_ ctok
 clear ha1 ht
 have hk1 : (k.k == 1) = false := by simpa using hk
 clear hk
 go_enter Tryz.func112, Tryz.ntmps112
 go_upto_region 1 with (fail)
 rw [← hW1]
 replace hW1 := hi_ hW1
 go_upto_region 4 with (go_at_call 110; (with_reducible refine (ctok.out _ hL.out).mono ?_); rintro e w3 ⟨A3, c3, rfl, hO3, hL3, hS3⟩; have hS9 := hS3; replace hT := hi_ (hS9.blk hneT hT.out); replace hR := hi_ (hS9.blk hneR hR.out); replace hS := hi_ (hS.out.trans hS9); replace hL := hi_ hL3; replace l1 := hL.out.blk.cell 1; replace l3 := hL.out.blk.cell 3; replace lv := hL.out.blk.frozen 1; replace t2 := hT.out.cell 2; replace p0 := hR.out.cell 0; replace f0 := hR.out.frozen 0; replace p1 := hR.out.cell 1; replace f1 := hR.out.frozen 1; replace p2 := hR.out.cell 2; replace f2 := hR.out.frozen 2; replace p3 := hR.out.cell 3; replace f3 := hR.out.frozen 3; replace p4 := hR.out.cell 4; replace f4 := hR.out.frozen 4; clear hO3; clear hS9 hS3 hL3)
 obtain ⟨W4, hW4⟩ : ∃ W, W = w3.alloc (.cells #[.int .i64 k.k, .int .i64 a1, .int .i64 k.n, .slice A3 k.b.length c3] 99) := ⟨_, rfl⟩
 rw [← hW4]
 have b4 : Below w3.heap.size w3 W4 := by rw [hW4]; exact (Below.refl _ _).alloc (Nat.le_refl _) _
 have hK4 : Blk W4 w3.heap.size 99 #[.int .i64 k.k, .int .i64 a1, .int .i64 k.n, .slice A3 k.b.length c3] := by rw [hW4]; exact Blk.new w3 _ _
 have k40 := hK4.cell 0
 have k42 := hK4.cell 2
 have k43 := hK4.cell 3
 replace hT := hi_ (hT.out.below b4 hT.out.lt)
 replace hR := hi_ (hR.out.below b4 hR.out.lt)
 replace hS := hi_ (hS.out.then_ b4)
 replace hL := hi_ (hL.out.below b4)
 replace l1 := hL.out.blk.cell 1
 replace l3 := hL.out.blk.cell 3
 replace lv := hL.out.blk.frozen 1
 replace t2 := hT.out.cell 2
 replace p0 := hR.out.cell 0
 replace f0 := hR.out.frozen 0
 replace p1 := hR.out.cell 1
 replace f1 := hR.out.frozen 1
 replace p2 := hR.out.cell 2
 replace f2 := hR.out.frozen 2
 replace p3 := hR.out.cell 3
 replace f3 := hR.out.frozen 3
 replace p4 := hR.out.cell 4
 replace f4 := hR.out.frozen 4
 replace hW4 := hi_ hW4
 go_wp2
 obtain ⟨W8, hW8⟩ : ∃ W, W = W4.setCell ⟨L, 1, none⟩ (.int .i64 q) := ⟨_, rfl⟩
 rw [← hW8]
 have hL8 : LX L A c bs D (.bool false) W8 r := by rw [hW8, hq.out]; exact hL.out.go hsuf.out
 have hS8 : Save L w W8 := by rw [hW8]; exact hS.out.store 1 _
 have hR8 : Blk W8 (w.heap.size + 1) 26 #[.int .i64 0, .int .i64 0, .slice none 0 0, .slice none 0 0, .slice none 0 0] := by rw [hW8]; exact hR.out.far (p := ⟨L, 1, none⟩) hneR _
 obtain ⟨Wf, hWf⟩ : ∃ W, W = ((((W8.setCell ⟨w.heap.size + 1, 0, none⟩ (.int .i64 2)).setCell ⟨w.heap.size + 1, 1, none⟩ (.int .i64 n)).setCell ⟨w.heap.size + 1, 2, none⟩ (.slice none 0 0)).setCell ⟨w.heap.size + 1, 3, none⟩ (.slice none 0 0)).setCell ⟨w.heap.size + 1, 4, none⟩ (.slice none 0 0) := ⟨_, rfl⟩
 rw [← hWf]
 obtain ⟨hbf, hLf, hSf⟩ := whole_end hS8 hL8 hR8 (by omega) hneR.symm hAw hWf
 have u0 := hbf.cell 0
 have u1 := hbf.cell 1
 have u2 := hbf.cell 2
 have u3 := hbf.cell 3
 have u4 := hbf.cell 4
 replace hLf := hi_ hLf
 replace hSf := hi_ hSf
 replace hWf := hi_ hWf
 clear hbf
 exact bodyPost_ret (by simp [results, Tryz.results112, go_sem, u0, u1, u2, u3, u4]; try rfl) rfl ⟨_, rfl, rfl, hLf.out, hSf.out⟩
set_option maxHeartbeats 8000000 in
set_option maxRecDepth 100000 in
theorem wh_n1b {kk n : Int} {at1 v1 : Value} (hn : 1 ≤ n) (hn2 : n ≤ 8388607) (ht : tokS r = .ok k u) (hk : k.k = 1) (hk0 : k.n ≠ 0) (h : LX L A c bs D (.bool false) w r) : Calls Tryz.prog 112 #[.pointer (some ⟨L, 0, none⟩), .agg #[.int .i64 kk, at1, .int .i64 n, v1]] w fun e w' => ∃ k', e = .returned (.agg #[.int .i64 k', .int .i64 n, .slice none 0 0, .slice none 0 0, .slice none 0 0]) ∧ k' = 2 ∧ LX L A c bs D (.bool false) w' r ∧ Save L w w' := by
 have hLw := h.lt
 have hAw := h.a_lt
 obtain ⟨W1, hW1⟩ : ∃ W, W = (w.alloc (.cells #[.int .i64 kk, at1, .int .i64 n, v1] 99)).alloc (.cells #[.int .i64 0, .int .i64 0, .slice none 0 0, .slice none 0 0, .slice none 0 0] 26) := ⟨_, rfl⟩
 have b1 : Below w.heap.size w W1 := by rw [hW1]; exact ((Below.refl _ _).alloc (Nat.le_refl _) _).alloc (by rw [World.size_alloc]; omega) _
 have hT1 : Blk W1 w.heap.size 99 #[.int .i64 kk, at1, .int .i64 n, v1] := by rw [hW1]; exact (Blk.new w _ _).alloc _
 have hR1 : Blk W1 (w.heap.size + 1) 26 #[.int .i64 0, .int .i64 0, .slice none 0 0, .slice none 0 0, .slice none 0 0] := by
  rw [hW1, show w.heap.size + 1 = (w.alloc (.cells #[.int .i64 kk, at1, .int .i64 n, v1] 99)).heap.size from (World.size_alloc _ _).symm]; exact Blk.new _ _ _
 have hL1 := h.below b1
 have hS1 : Save L w W1 := Save.of_below b1
 obtain ⟨q, hq⟩ : ∃ q : Int, q = (pos bs r : Nat) := ⟨_, rfl⟩
 have hneT : w.heap.size ≠ L := by omega
 have hneR : w.heap.size + 1 ≠ L := by omega
 have hsuf := h.suf
 obtain ⟨hL, hS, hT, hR⟩ : Hid (LX L A c bs D (.bool false) W1 r) ∧ Hid (Save L w W1) ∧ Hid (Blk W1 w.heap.size 99 #[.int .i64 kk, at1, .int .i64 n, v1]) ∧ Hid (Blk W1 (w.heap.size + 1) 26 #[.int .i64 0, .int .i64 0, .slice none 0 0, .slice none 0 0, .slice none 0 0]) := ⟨Lib.hid hL1, Lib.hid hS1, Lib.hid hT1, Lib.hid hR1⟩
 have l1 := hL1.blk.cell 1
 rw [← hq] at l1
 have l3 := hL1.blk.cell 3
 have lv := hL1.blk.frozen 1
 have t2 := hT1.cell 2
 have p0 := hR1.cell 0
 have f0 := hR1.frozen 0
 have p1 := hR1.cell 1
 have f1 := hR1.frozen 1
 have p2 := hR1.cell 2
 have f2 := hR1.frozen 2
 have p3 := hR1.cell 3
 have f3 := hR1.frozen 3
 have p4 := hR1.cell 4
 have f4 := hR1.frozen 4
 replace h := hi_ h
 replace hq := hi_ hq
 replace hsuf := hi_ hsuf
 clear hL1 hS1 hT1 hR1 b1
 obtain ⟨a1, ha1⟩ : ∃ a : Int, a = (pos bs (blankM false r) : Nat) := ⟨_, rfl⟩
 have ctok := fun W (h : LX L A c bs D (.bool false) W r) => rx_ok h ht ha1
 replace ctok := hi_ ctok
 clear ha1 ht
 have hk1 : (k.k == 1) = true := by simpa using hk
 have hk2 : (k.n == 0) = false := by simpa using hk0
 clear hk hk0
 go_enter Tryz.func112, Tryz.ntmps112
 go_upto_region 1 with (fail)
 rw [← hW1]
 replace hW1 := hi_ hW1
 go_upto_region 4 with (go_at_call 110; (with_reducible refine (ctok.out _ hL.out).mono ?_); rintro e w3 ⟨A3, c3, rfl, hO3, hL3, hS3⟩; have hS9 := hS3; replace hT := hi_ (hS9.blk hneT hT.out); replace hR := hi_ (hS9.blk hneR hR.out); replace hS := hi_ (hS.out.trans hS9); replace hL := hi_ hL3; replace l1 := hL.out.blk.cell 1; replace l3 := hL.out.blk.cell 3; replace lv := hL.out.blk.frozen 1; replace t2 := hT.out.cell 2; replace p0 := hR.out.cell 0; replace f0 := hR.out.frozen 0; replace p1 := hR.out.cell 1; replace f1 := hR.out.frozen 1; replace p2 := hR.out.cell 2; replace f2 := hR.out.frozen 2; replace p3 := hR.out.cell 3; replace f3 := hR.out.frozen 3; replace p4 := hR.out.cell 4; replace f4 := hR.out.frozen 4; clear hO3; clear hS9 hS3 hL3)
 obtain ⟨W4, hW4⟩ : ∃ W, W = w3.alloc (.cells #[.int .i64 k.k, .int .i64 a1, .int .i64 k.n, .slice A3 k.b.length c3] 99) := ⟨_, rfl⟩
 rw [← hW4]
 have b4 : Below w3.heap.size w3 W4 := by rw [hW4]; exact (Below.refl _ _).alloc (Nat.le_refl _) _
 have hK4 : Blk W4 w3.heap.size 99 #[.int .i64 k.k, .int .i64 a1, .int .i64 k.n, .slice A3 k.b.length c3] := by rw [hW4]; exact Blk.new w3 _ _
 have k40 := hK4.cell 0
 have k42 := hK4.cell 2
 have k43 := hK4.cell 3
 replace hT := hi_ (hT.out.below b4 hT.out.lt)
 replace hR := hi_ (hR.out.below b4 hR.out.lt)
 replace hS := hi_ (hS.out.then_ b4)
 replace hL := hi_ (hL.out.below b4)
 replace l1 := hL.out.blk.cell 1
 replace l3 := hL.out.blk.cell 3
 replace lv := hL.out.blk.frozen 1
 replace t2 := hT.out.cell 2
 replace p0 := hR.out.cell 0
 replace f0 := hR.out.frozen 0
 replace p1 := hR.out.cell 1
 replace f1 := hR.out.frozen 1
 replace p2 := hR.out.cell 2
 replace f2 := hR.out.frozen 2
 replace p3 := hR.out.cell 3
 replace f3 := hR.out.frozen 3
 replace p4 := hR.out.cell 4
 replace f4 := hR.out.frozen 4
 replace hW4 := hi_ hW4
 go_wp2
 obtain ⟨W8, hW8⟩ : ∃ W, W = W4.setCell ⟨L, 1, none⟩ (.int .i64 q) := ⟨_, rfl⟩
 rw [← hW8]
 have hL8 : LX L A c bs D (.bool false) W8 r := by rw [hW8, hq.out]; exact hL.out.go hsuf.out
 have hS8 : Save L w W8 := by rw [hW8]; exact hS.out.store 1 _
 have hR8 : Blk W8 (w.heap.size + 1) 26 #[.int .i64 0, .int .i64 0, .slice none 0 0, .slice none 0 0, .slice none 0 0] := by rw [hW8]; exact hR.out.far (p := ⟨L, 1, none⟩) hneR _
 obtain ⟨Wf, hWf⟩ : ∃ W, W = ((((W8.setCell ⟨w.heap.size + 1, 0, none⟩ (.int .i64 2)).setCell ⟨w.heap.size + 1, 1, none⟩ (.int .i64 n)).setCell ⟨w.heap.size + 1, 2, none⟩ (.slice none 0 0)).setCell ⟨w.heap.size + 1, 3, none⟩ (.slice none 0 0)).setCell ⟨w.heap.size + 1, 4, none⟩ (.slice none 0 0) := ⟨_, rfl⟩
 rw [← hWf]
 obtain ⟨hbf, hLf, hSf⟩ := whole_end hS8 hL8 hR8 (by omega) hneR.symm hAw hWf
 have u0 := hbf.cell 0
 have u1 := hbf.cell 1
 have u2 := hbf.cell 2
 have u3 := hbf.cell 3
 have u4 := hbf.cell 4
 replace hLf := hi_ hLf
 replace hSf := hi_ hSf
 replace hWf := hi_ hWf
 clear hbf
 exact bodyPost_ret (by simp [results, Tryz.results112, go_sem, u0, u1, u2, u3, u4]; try rfl) rfl ⟨_, rfl, rfl, hLf.out, hSf.out⟩
set_option maxHeartbeats 8000000 in
set_option maxRecDepth 100000 in
theorem wh_e2 {kk n : Int} {at1 v1 : Value} (hn : 1 ≤ n) (hn2 : n ≤ 8388607) (ht : tokS r = .ok k u) {er : Int} {v : Bs} (hk : k.k = 1) (hk0 : k.n = 0) (ht2 : tokS u = .err er v) (h : LX L A c bs D (.bool false) w r) : Calls Tryz.prog 112 #[.pointer (some ⟨L, 0, none⟩), .agg #[.int .i64 kk, at1, .int .i64 n, v1]] w fun e w' => ∃ k', e = .returned (.agg #[.int .i64 k', .int .i64 n, .slice none 0 0, .slice none 0 0, .slice none 0 0]) ∧ k' = 2 ∧ LX L A c bs D (.bool false) w' r ∧ Save L w w' := by
 have hLw := h.lt
 have hAw := h.a_lt
 obtain ⟨W1, hW1⟩ : ∃ W, W = (w.alloc (.cells #[.int .i64 kk, at1, .int .i64 n, v1] 99)).alloc (.cells #[.int .i64 0, .int .i64 0, .slice none 0 0, .slice none 0 0, .slice none 0 0] 26) := ⟨_, rfl⟩
 have b1 : Below w.heap.size w W1 := by rw [hW1]; exact ((Below.refl _ _).alloc (Nat.le_refl _) _).alloc (by rw [World.size_alloc]; omega) _
 have hT1 : Blk W1 w.heap.size 99 #[.int .i64 kk, at1, .int .i64 n, v1] := by rw [hW1]; exact (Blk.new w _ _).alloc _
 have hR1 : Blk W1 (w.heap.size + 1) 26 #[.int .i64 0, .int .i64 0, .slice none 0 0, .slice none 0 0, .slice none 0 0] := by
  rw [hW1, show w.heap.size + 1 = (w.alloc (.cells #[.int .i64 kk, at1, .int .i64 n, v1] 99)).heap.size from (World.size_alloc _ _).symm]; exact Blk.new _ _ _
 have hL1 := h.below b1
 have hS1 : Save L w W1 := Save.of_below b1
 obtain ⟨q, hq⟩ : ∃ q : Int, q = (pos bs r : Nat) := ⟨_, rfl⟩
 have hneT : w.heap.size ≠ L := by omega
 have hneR : w.heap.size + 1 ≠ L := by omega
 have hsuf := h.suf
 obtain ⟨hL, hS, hT, hR⟩ : Hid (LX L A c bs D (.bool false) W1 r) ∧ Hid (Save L w W1) ∧ Hid (Blk W1 w.heap.size 99 #[.int .i64 kk, at1, .int .i64 n, v1]) ∧ Hid (Blk W1 (w.heap.size + 1) 26 #[.int .i64 0, .int .i64 0, .slice none 0 0, .slice none 0 0, .slice none 0 0]) := ⟨Lib.hid hL1, Lib.hid hS1, Lib.hid hT1, Lib.hid hR1⟩
 have l1 := hL1.blk.cell 1
 rw [← hq] at l1
 have l3 := hL1.blk.cell 3
 have lv := hL1.blk.frozen 1
 have t2 := hT1.cell 2
 have p0 := hR1.cell 0
 have f0 := hR1.frozen 0
 have p1 := hR1.cell 1
 have f1 := hR1.frozen 1
 have p2 := hR1.cell 2
 have f2 := hR1.frozen 2
 have p3 := hR1.cell 3
 have f3 := hR1.frozen 3
 have p4 := hR1.cell 4
 have f4 := hR1.frozen 4
 replace h := hi_ h
 replace hq := hi_ hq
 replace hsuf := hi_ hsuf
 clear hL1 hS1 hT1 hR1 b1
 obtain ⟨a1, ha1⟩ : ∃ a : Int, a = (pos bs (blankM false r) : Nat) := ⟨_, rfl⟩
 have ctok := fun W (h : LX L A c bs D (.bool false) W r) => rx_ok h ht ha1
 replace ctok := hi_ ctok
 clear ha1 ht
 obtain ⟨a2, ha2⟩ : ∃ a : Int, a = (pos bs (blankM false u) : Nat) := ⟨_, rfl⟩
 have ctok2 := fun W (h : LX L A c bs D (.bool false) W u) => rx_err h ht2 ha2
 replace ctok2 := hi_ ctok2
 clear ha2 ht2
 have hk1 : (k.k == 1) = true := by simpa using hk
 have hk2 : (k.n == 0) = true := by simpa using hk0
 clear hk hk0
 go_enter Tryz.func112, Tryz.ntmps112
 go_upto_region 1 with (fail)
 rw [← hW1]
 replace hW1 := hi_ hW1
 go_upto_region 4 with (go_at_call 110; (with_reducible refine (ctok.out _ hL.out).mono ?_); rintro e w3 ⟨A3, c3, rfl, hO3, hL3, hS3⟩; have hS9 := hS3; replace hT := hi_ (hS9.blk hneT hT.out); replace hR := hi_ (hS9.blk hneR hR.out); replace hS := hi_ (hS.out.trans hS9); replace hL := hi_ hL3; replace l1 := hL.out.blk.cell 1; replace l3 := hL.out.blk.cell 3; replace lv := hL.out.blk.frozen 1; replace t2 := hT.out.cell 2; replace p0 := hR.out.cell 0; replace f0 := hR.out.frozen 0; replace p1 := hR.out.cell 1; replace f1 := hR.out.frozen 1; replace p2 := hR.out.cell 2; replace f2 := hR.out.frozen 2; replace p3 := hR.out.cell 3; replace f3 := hR.out.frozen 3; replace p4 := hR.out.cell 4; replace f4 := hR.out.frozen 4; clear hO3; clear hS9 hS3 hL3)
 obtain ⟨W4, hW4⟩ : ∃ W, W = w3.alloc (.cells #[.int .i64 k.k, .int .i64 a1, .int .i64 k.n, .slice A3 k.b.length c3] 99) := ⟨_, rfl⟩
 rw [← hW4]
 have b4 : Below w3.heap.size w3 W4 := by rw [hW4]; exact (Below.refl _ _).alloc (Nat.le_refl _) _
 have hK4 : Blk W4 w3.heap.size 99 #[.int .i64 k.k, .int .i64 a1, .int .i64 k.n, .slice A3 k.b.length c3] := by rw [hW4]; exact Blk.new w3 _ _
 have k40 := hK4.cell 0
 have k42 := hK4.cell 2
 have k43 := hK4.cell 3
 replace hT := hi_ (hT.out.below b4 hT.out.lt)
 replace hR := hi_ (hR.out.below b4 hR.out.lt)
 replace hS := hi_ (hS.out.then_ b4)
 replace hL := hi_ (hL.out.below b4)
 replace l1 := hL.out.blk.cell 1
 replace l3 := hL.out.blk.cell 3
 replace lv := hL.out.blk.frozen 1
 replace t2 := hT.out.cell 2
 replace p0 := hR.out.cell 0
 replace f0 := hR.out.frozen 0
 replace p1 := hR.out.cell 1
 replace f1 := hR.out.frozen 1
 replace p2 := hR.out.cell 2
 replace f2 := hR.out.frozen 2
 replace p3 := hR.out.cell 3
 replace f3 := hR.out.frozen 3
 replace p4 := hR.out.cell 4
 replace f4 := hR.out.frozen 4
 replace hW4 := hi_ hW4
 go_upto_region 6 with (fail)
 go_at_call 110
 (with_reducible refine (ctok2.out _ hL.out).mono ?_)
 rintro e w3 ⟨hn0, rfl, hL3, hS3⟩
 have hS9 := hS3
 replace hT := hi_ (hS9.blk hneT hT.out)
 replace hR := hi_ (hS9.blk hneR hR.out)
 replace hS := hi_ (hS.out.trans hS9)
 replace hL := hi_ hL3
 replace l1 := hL.out.blk.cell 1
 replace l3 := hL.out.blk.cell 3
 replace lv := hL.out.blk.frozen 1
 replace t2 := hT.out.cell 2
 replace p0 := hR.out.cell 0
 replace f0 := hR.out.frozen 0
 replace p1 := hR.out.cell 1
 replace f1 := hR.out.frozen 1
 replace p2 := hR.out.cell 2
 replace f2 := hR.out.frozen 2
 replace p3 := hR.out.cell 3
 replace f3 := hR.out.frozen 3
 replace p4 := hR.out.cell 4
 replace f4 := hR.out.frozen 4
 have he0 : (er == 0) = false := by simpa using hn0
 replace hn0 := hi_ hn0
 clear hS9 hS3 hL3
 go_upto_region 6 with (fail)
 obtain ⟨W6, hW6⟩ : ∃ W, W = w3.alloc (.cells #[.int .i64 0, .int .i64 a2, .int .i64 0, .slice none 0 0] 99) := ⟨_, rfl⟩
 rw [← hW6]
 have b6 : Below w3.heap.size w3 W6 := by rw [hW6]; exact (Below.refl _ _).alloc (Nat.le_refl _) _
 have hK6 : Blk W6 w3.heap.size 99 #[.int .i64 0, .int .i64 a2, .int .i64 0, .slice none 0 0] := by rw [hW6]; exact Blk.new w3 _ _
 have k60 := hK6.cell 0
 have k62 := hK6.cell 2
 have k63 := hK6.cell 3
 replace hT := hi_ (hT.out.below b6 hT.out.lt)
 replace hR := hi_ (hR.out.below b6 hR.out.lt)
 replace hS := hi_ (hS.out.then_ b6)
 replace hL := hi_ (hL.out.below b6)
 replace l1 := hL.out.blk.cell 1
 replace l3 := hL.out.blk.cell 3
 replace lv := hL.out.blk.frozen 1
 replace t2 := hT.out.cell 2
 replace p0 := hR.out.cell 0
 replace f0 := hR.out.frozen 0
 replace p1 := hR.out.cell 1
 replace f1 := hR.out.frozen 1
 replace p2 := hR.out.cell 2
 replace f2 := hR.out.frozen 2
 replace p3 := hR.out.cell 3
 replace f3 := hR.out.frozen 3
 replace p4 := hR.out.cell 4
 replace f4 := hR.out.frozen 4
 replace hW6 := hi_ hW6
 go_wp2
 obtain ⟨W8, hW8⟩ : ∃ W, W = W6.setCell ⟨L, 1, none⟩ (.int .i64 q) := ⟨_, rfl⟩
 rw [← hW8]
 have hL8 : LX L A c bs D (.bool false) W8 r := by rw [hW8, hq.out]; exact hL.out.go hsuf.out
 have hS8 : Save L w W8 := by rw [hW8]; exact hS.out.store 1 _
 have hR8 : Blk W8 (w.heap.size + 1) 26 #[.int .i64 0, .int .i64 0, .slice none 0 0, .slice none 0 0, .slice none 0 0] := by rw [hW8]; exact hR.out.far (p := ⟨L, 1, none⟩) hneR _
 obtain ⟨Wf, hWf⟩ : ∃ W, W = ((((W8.setCell ⟨w.heap.size + 1, 0, none⟩ (.int .i64 2)).setCell ⟨w.heap.size + 1, 1, none⟩ (.int .i64 n)).setCell ⟨w.heap.size + 1, 2, none⟩ (.slice none 0 0)).setCell ⟨w.heap.size + 1, 3, none⟩ (.slice none 0 0)).setCell ⟨w.heap.size + 1, 4, none⟩ (.slice none 0 0) := ⟨_, rfl⟩
 rw [← hWf]
 obtain ⟨hbf, hLf, hSf⟩ := whole_end hS8 hL8 hR8 (by omega) hneR.symm hAw hWf
 have u0 := hbf.cell 0
 have u1 := hbf.cell 1
 have u2 := hbf.cell 2
 have u3 := hbf.cell 3
 have u4 := hbf.cell 4
 replace hLf := hi_ hLf
 replace hSf := hi_ hSf
 replace hWf := hi_ hWf
 clear hbf
 exact bodyPost_ret (by simp [results, Tryz.results112, go_sem, u0, u1, u2, u3, u4]; try rfl) rfl ⟨_, rfl, rfl, hLf.out, hSf.out⟩
set_option maxHeartbeats 8000000 in
set_option maxRecDepth 100000 in
theorem wh_n2a {kk n : Int} {at1 v1 : Value} (hn : 1 ≤ n) (hn2 : n ≤ 8388607) (ht : tokS r = .ok k u) {s : Tok} {v : Bs} (hk : k.k = 1) (hk0 : k.n = 0) (ht2 : tokS u = .ok s v) (hs : s.k ≠ 9) (h : LX L A c bs D (.bool false) w r) : Calls Tryz.prog 112 #[.pointer (some ⟨L, 0, none⟩), .agg #[.int .i64 kk, at1, .int .i64 n, v1]] w fun e w' => ∃ k', e = .returned (.agg #[.int .i64 k', .int .i64 n, .slice none 0 0, .slice none 0 0, .slice none 0 0]) ∧ k' = 2 ∧ LX L A c bs D (.bool false) w' r ∧ Save L w w' := by
 have hLw := h.lt
 have hAw := h.a_lt
 obtain ⟨W1, hW1⟩ : ∃ W, W = (w.alloc (.cells #[.int .i64 kk, at1, .int .i64 n, v1] 99)).alloc (.cells #[.int .i64 0, .int .i64 0, .slice none 0 0, .slice none 0 0, .slice none 0 0] 26) := ⟨_, rfl⟩
 have b1 : Below w.heap.size w W1 := by rw [hW1]; exact ((Below.refl _ _).alloc (Nat.le_refl _) _).alloc (by rw [World.size_alloc]; omega) _
 have hT1 : Blk W1 w.heap.size 99 #[.int .i64 kk, at1, .int .i64 n, v1] := by rw [hW1]; exact (Blk.new w _ _).alloc _
 have hR1 : Blk W1 (w.heap.size + 1) 26 #[.int .i64 0, .int .i64 0, .slice none 0 0, .slice none 0 0, .slice none 0 0] := by
  rw [hW1, show w.heap.size + 1 = (w.alloc (.cells #[.int .i64 kk, at1, .int .i64 n, v1] 99)).heap.size from (World.size_alloc _ _).symm]; exact Blk.new _ _ _
 have hL1 := h.below b1
 have hS1 : Save L w W1 := Save.of_below b1
 obtain ⟨q, hq⟩ : ∃ q : Int, q = (pos bs r : Nat) := ⟨_, rfl⟩
 have hneT : w.heap.size ≠ L := by omega
 have hneR : w.heap.size + 1 ≠ L := by omega
 have hsuf := h.suf
 obtain ⟨hL, hS, hT, hR⟩ : Hid (LX L A c bs D (.bool false) W1 r) ∧ Hid (Save L w W1) ∧ Hid (Blk W1 w.heap.size 99 #[.int .i64 kk, at1, .int .i64 n, v1]) ∧ Hid (Blk W1 (w.heap.size + 1) 26 #[.int .i64 0, .int .i64 0, .slice none 0 0, .slice none 0 0, .slice none 0 0]) := ⟨Lib.hid hL1, Lib.hid hS1, Lib.hid hT1, Lib.hid hR1⟩
 have l1 := hL1.blk.cell 1
 rw [← hq] at l1
 have l3 := hL1.blk.cell 3
 have lv := hL1.blk.frozen 1
 have t2 := hT1.cell 2
 have p0 := hR1.cell 0
 have f0 := hR1.frozen 0
 have p1 := hR1.cell 1
 have f1 := hR1.frozen 1
 have p2 := hR1.cell 2
 have f2 := hR1.frozen 2
 have p3 := hR1.cell 3
 have f3 := hR1.frozen 3
 have p4 := hR1.cell 4
 have f4 := hR1.frozen 4
 replace h := hi_ h
 replace hq := hi_ hq
 replace hsuf := hi_ hsuf
 clear hL1 hS1 hT1 hR1 b1
 obtain ⟨a1, ha1⟩ : ∃ a : Int, a = (pos bs (blankM false r) : Nat) := ⟨_, rfl⟩
 have ctok := fun W (h : LX L A c bs D (.bool false) W r) => rx_ok h ht ha1
 replace ctok := hi_ ctok
 clear ha1 ht
 obtain ⟨a2, ha2⟩ : ∃ a : Int, a = (pos bs (blankM false u) : Nat) := ⟨_, rfl⟩
 have ctok2 := fun W (h : LX L A c bs D (.bool false) W u) => rx_ok h ht2 ha2
 replace ctok2 := hi_ ctok2
 clear ha2 ht2
 have hk1 : (k.k == 1) = true := by simpa using hk
 have hk2 : (k.n == 0) = true := by simpa using hk0
 clear hk hk0
 have hs1 : (s.k == 9) = false := by simpa using hs
 clear hs
 go_enter Tryz.func112, Tryz.ntmps112
 go_upto_region 1 with (fail)
 rw [← hW1]
 replace hW1 := hi_ hW1
 go_upto_region 4 with (go_at_call 110; (with_reducible refine (ctok.out _ hL.out).mono ?_); rintro e w3 ⟨A3, c3, rfl, hO3, hL3, hS3⟩; have hS9 := hS3; replace hT := hi_ (hS9.blk hneT hT.out); replace hR := hi_ (hS9.blk hneR hR.out); replace hS := hi_ (hS.out.trans hS9); replace hL := hi_ hL3; replace l1 := hL.out.blk.cell 1; replace l3 := hL.out.blk.cell 3; replace lv := hL.out.blk.frozen 1; replace t2 := hT.out.cell 2; replace p0 := hR.out.cell 0; replace f0 := hR.out.frozen 0; replace p1 := hR.out.cell 1; replace f1 := hR.out.frozen 1; replace p2 := hR.out.cell 2; replace f2 := hR.out.frozen 2; replace p3 := hR.out.cell 3; replace f3 := hR.out.frozen 3; replace p4 := hR.out.cell 4; replace f4 := hR.out.frozen 4; clear hO3; clear hS9 hS3 hL3)
 obtain ⟨W4, hW4⟩ : ∃ W, W = w3.alloc (.cells #[.int .i64 k.k, .int .i64 a1, .int .i64 k.n, .slice A3 k.b.length c3] 99) := ⟨_, rfl⟩
 rw [← hW4]
 have b4 : Below w3.heap.size w3 W4 := by rw [hW4]; exact (Below.refl _ _).alloc (Nat.le_refl _) _
 have hK4 : Blk W4 w3.heap.size 99 #[.int .i64 k.k, .int .i64 a1, .int .i64 k.n, .slice A3 k.b.length c3] := by rw [hW4]; exact Blk.new w3 _ _
 have k40 := hK4.cell 0
 have k42 := hK4.cell 2
 have k43 := hK4.cell 3
 replace hT := hi_ (hT.out.below b4 hT.out.lt)
 replace hR := hi_ (hR.out.below b4 hR.out.lt)
 replace hS := hi_ (hS.out.then_ b4)
 replace hL := hi_ (hL.out.below b4)
 replace l1 := hL.out.blk.cell 1
 replace l3 := hL.out.blk.cell 3
 replace lv := hL.out.blk.frozen 1
 replace t2 := hT.out.cell 2
 replace p0 := hR.out.cell 0
 replace f0 := hR.out.frozen 0
 replace p1 := hR.out.cell 1
 replace f1 := hR.out.frozen 1
 replace p2 := hR.out.cell 2
 replace f2 := hR.out.frozen 2
 replace p3 := hR.out.cell 3
 replace f3 := hR.out.frozen 3
 replace p4 := hR.out.cell 4
 replace f4 := hR.out.frozen 4
 replace hW4 := hi_ hW4
 go_upto_region 6 with (go_at_call 110; (with_reducible refine (ctok2.out _ hL.out).mono ?_); rintro e w3 ⟨A6, c6, rfl, hO6, hL3, hS3⟩; have hS9 := hS3; replace hT := hi_ (hS9.blk hneT hT.out); replace hR := hi_ (hS9.blk hneR hR.out); replace hS := hi_ (hS.out.trans hS9); replace hL := hi_ hL3; replace l1 := hL.out.blk.cell 1; replace l3 := hL.out.blk.cell 3; replace lv := hL.out.blk.frozen 1; replace t2 := hT.out.cell 2; replace p0 := hR.out.cell 0; replace f0 := hR.out.frozen 0; replace p1 := hR.out.cell 1; replace f1 := hR.out.frozen 1; replace p2 := hR.out.cell 2; replace f2 := hR.out.frozen 2; replace p3 := hR.out.cell 3; replace f3 := hR.out.frozen 3; replace p4 := hR.out.cell 4; replace f4 := hR.out.frozen 4; have hSo := hS3; replace hO6 := hi_ hO6; clear hSo; clear hS9 hS3 hL3)
 obtain ⟨W6, hW6⟩ : ∃ W, W = w3.alloc (.cells #[.int .i64 s.k, .int .i64 a2, .int .i64 s.n, .slice A6 s.b.length c6] 99) := ⟨_, rfl⟩
 rw [← hW6]
 have b6 : Below w3.heap.size w3 W6 := by rw [hW6]; exact (Below.refl _ _).alloc (Nat.le_refl _) _
 have hK6 : Blk W6 w3.heap.size 99 #[.int .i64 s.k, .int .i64 a2, .int .i64 s.n, .slice A6 s.b.length c6] := by rw [hW6]; exact Blk.new w3 _ _
 have k60 := hK6.cell 0
 have k62 := hK6.cell 2
 have k63 := hK6.cell 3
 replace hT := hi_ (hT.out.below b6 hT.out.lt)
 replace hR := hi_ (hR.out.below b6 hR.out.lt)
 replace hS := hi_ (hS.out.then_ b6)
 replace hL := hi_ (hL.out.below b6)
 replace l1 := hL.out.blk.cell 1
 replace l3 := hL.out.blk.cell 3
 replace lv := hL.out.blk.frozen 1
 replace t2 := hT.out.cell 2
 replace p0 := hR.out.cell 0
 replace f0 := hR.out.frozen 0
 replace p1 := hR.out.cell 1
 replace f1 := hR.out.frozen 1
 replace p2 := hR.out.cell 2
 replace f2 := hR.out.frozen 2
 replace p3 := hR.out.cell 3
 replace f3 := hR.out.frozen 3
 replace p4 := hR.out.cell 4
 replace f4 := hR.out.frozen 4
 replace hW6 := hi_ hW6
 go_wp2
 obtain ⟨W8, hW8⟩ : ∃ W, W = W6.setCell ⟨L, 1, none⟩ (.int .i64 q) := ⟨_, rfl⟩
 rw [← hW8]
 have hL8 : LX L A c bs D (.bool false) W8 r := by rw [hW8, hq.out]; exact hL.out.go hsuf.out
 have hS8 : Save L w W8 := by rw [hW8]; exact hS.out.store 1 _
 have hR8 : Blk W8 (w.heap.size + 1) 26 #[.int .i64 0, .int .i64 0, .slice none 0 0, .slice none 0 0, .slice none 0 0] := by rw [hW8]; exact hR.out.far (p := ⟨L, 1, none⟩) hneR _
 obtain ⟨Wf, hWf⟩ : ∃ W, W = ((((W8.setCell ⟨w.heap.size + 1, 0, none⟩ (.int .i64 2)).setCell ⟨w.heap.size + 1, 1, none⟩ (.int .i64 n)).setCell ⟨w.heap.size + 1, 2, none⟩ (.slice none 0 0)).setCell ⟨w.heap.size + 1, 3, none⟩ (.slice none 0 0)).setCell ⟨w.heap.size + 1, 4, none⟩ (.slice none 0 0) := ⟨_, rfl⟩
 rw [← hWf]
 obtain ⟨hbf, hLf, hSf⟩ := whole_end hS8 hL8 hR8 (by omega) hneR.symm hAw hWf
 have u0 := hbf.cell 0
 have u1 := hbf.cell 1
 have u2 := hbf.cell 2
 have u3 := hbf.cell 3
 have u4 := hbf.cell 4
 replace hLf := hi_ hLf
 replace hSf := hi_ hSf
 replace hWf := hi_ hWf
 clear hbf
 exact bodyPost_ret (by simp [results, Tryz.results112, go_sem, u0, u1, u2, u3, u4]; try rfl) rfl ⟨_, rfl, rfl, hLf.out, hSf.out⟩
set_option maxHeartbeats 8000000 in
set_option maxRecDepth 100000 in
theorem wh_n2b {kk n : Int} {at1 v1 : Value} (hn : 1 ≤ n) (hn2 : n ≤ 8388607) (ht : tokS r = .ok k u) {s : Tok} {v : Bs} (hk : k.k = 1) (hk0 : k.n = 0) (ht2 : tokS u = .ok s v) (hs : s.k = 9) (hs2 : s.b ≠ [82]) (h : LX L A c bs D (.bool false) w r) : Calls Tryz.prog 112 #[.pointer (some ⟨L, 0, none⟩), .agg #[.int .i64 kk, at1, .int .i64 n, v1]] w fun e w' => ∃ k', e = .returned (.agg #[.int .i64 k', .int .i64 n, .slice none 0 0, .slice none 0 0, .slice none 0 0]) ∧ k' = 2 ∧ LX L A c bs D (.bool false) w' r ∧ Save L w w' := by
 have hLw := h.lt
 have hAw := h.a_lt
 obtain ⟨W1, hW1⟩ : ∃ W, W = (w.alloc (.cells #[.int .i64 kk, at1, .int .i64 n, v1] 99)).alloc (.cells #[.int .i64 0, .int .i64 0, .slice none 0 0, .slice none 0 0, .slice none 0 0] 26) := ⟨_, rfl⟩
 have b1 : Below w.heap.size w W1 := by rw [hW1]; exact ((Below.refl _ _).alloc (Nat.le_refl _) _).alloc (by rw [World.size_alloc]; omega) _
 have hT1 : Blk W1 w.heap.size 99 #[.int .i64 kk, at1, .int .i64 n, v1] := by rw [hW1]; exact (Blk.new w _ _).alloc _
 have hR1 : Blk W1 (w.heap.size + 1) 26 #[.int .i64 0, .int .i64 0, .slice none 0 0, .slice none 0 0, .slice none 0 0] := by
  rw [hW1, show w.heap.size + 1 = (w.alloc (.cells #[.int .i64 kk, at1, .int .i64 n, v1] 99)).heap.size from (World.size_alloc _ _).symm]; exact Blk.new _ _ _
 have hL1 := h.below b1
 have hS1 : Save L w W1 := Save.of_below b1
 obtain ⟨q, hq⟩ : ∃ q : Int, q = (pos bs r : Nat) := ⟨_, rfl⟩
 have hneT : w.heap.size ≠ L := by omega
 have hneR : w.heap.size + 1 ≠ L := by omega
 have hsuf := h.suf
 obtain ⟨hL, hS, hT, hR⟩ : Hid (LX L A c bs D (.bool false) W1 r) ∧ Hid (Save L w W1) ∧ Hid (Blk W1 w.heap.size 99 #[.int .i64 kk, at1, .int .i64 n, v1]) ∧ Hid (Blk W1 (w.heap.size + 1) 26 #[.int .i64 0, .int .i64 0, .slice none 0 0, .slice none 0 0, .slice none 0 0]) := ⟨Lib.hid hL1, Lib.hid hS1, Lib.hid hT1, Lib.hid hR1⟩
 have l1 := hL1.blk.cell 1
 rw [← hq] at l1
 have l3 := hL1.blk.cell 3
 have lv := hL1.blk.frozen 1
 have t2 := hT1.cell 2
 have p0 := hR1.cell 0
 have f0 := hR1.frozen 0
 have p1 := hR1.cell 1
 have f1 := hR1.frozen 1
 have p2 := hR1.cell 2
 have f2 := hR1.frozen 2
 have p3 := hR1.cell 3
 have f3 := hR1.frozen 3
 have p4 := hR1.cell 4
 have f4 := hR1.frozen 4
 replace h := hi_ h
 replace hq := hi_ hq
 replace hsuf := hi_ hsuf
 clear hL1 hS1 hT1 hR1 b1
 obtain ⟨a1, ha1⟩ : ∃ a : Int, a = (pos bs (blankM false r) : Nat) := ⟨_, rfl⟩
 have ctok := fun W (h : LX L A c bs D (.bool false) W r) => rx_ok h ht ha1
 replace ctok := hi_ ctok
 clear ha1 ht
 obtain ⟨a2, ha2⟩ : ∃ a : Int, a = (pos bs (blankM false u) : Nat) := ⟨_, rfl⟩
 have ctok2 := fun W (h : LX L A c bs D (.bool false) W u) => rx_ok h ht2 ha2
 replace ctok2 := hi_ ctok2
 clear ha2 ht2
 have hk1 : (k.k == 1) = true := by simpa using hk
 have hk2 : (k.n == 0) = true := by simpa using hk0
 clear hk hk0
 have hs1 : (s.k == 9) = true := by simpa using hs
 clear hs
 replace hs2 := hi_ hs2
 go_enter Tryz.func112, Tryz.ntmps112
 go_upto_region 1 with (fail)
 rw [← hW1]
 replace hW1 := hi_ hW1
 go_upto_region 4 with (go_at_call 110; (with_reducible refine (ctok.out _ hL.out).mono ?_); rintro e w3 ⟨A3, c3, rfl, hO3, hL3, hS3⟩; have hS9 := hS3; replace hT := hi_ (hS9.blk hneT hT.out); replace hR := hi_ (hS9.blk hneR hR.out); replace hS := hi_ (hS.out.trans hS9); replace hL := hi_ hL3; replace l1 := hL.out.blk.cell 1; replace l3 := hL.out.blk.cell 3; replace lv := hL.out.blk.frozen 1; replace t2 := hT.out.cell 2; replace p0 := hR.out.cell 0; replace f0 := hR.out.frozen 0; replace p1 := hR.out.cell 1; replace f1 := hR.out.frozen 1; replace p2 := hR.out.cell 2; replace f2 := hR.out.frozen 2; replace p3 := hR.out.cell 3; replace f3 := hR.out.frozen 3; replace p4 := hR.out.cell 4; replace f4 := hR.out.frozen 4; clear hO3; clear hS9 hS3 hL3)
 obtain ⟨W4, hW4⟩ : ∃ W, W = w3.alloc (.cells #[.int .i64 k.k, .int .i64 a1, .int .i64 k.n, .slice A3 k.b.length c3] 99) := ⟨_, rfl⟩
 rw [← hW4]
 have b4 : Below w3.heap.size w3 W4 := by rw [hW4]; exact (Below.refl _ _).alloc (Nat.le_refl _) _
 have hK4 : Blk W4 w3.heap.size 99 #[.int .i64 k.k, .int .i64 a1, .int .i64 k.n, .slice A3 k.b.length c3] := by rw [hW4]; exact Blk.new w3 _ _
 have k40 := hK4.cell 0
 have k42 := hK4.cell 2
 have k43 := hK4.cell 3
 replace hT := hi_ (hT.out.below b4 hT.out.lt)
 replace hR := hi_ (hR.out.below b4 hR.out.lt)
 replace hS := hi_ (hS.out.then_ b4)
 replace hL := hi_ (hL.out.below b4)
 replace l1 := hL.out.blk.cell 1
 replace l3 := hL.out.blk.cell 3
 replace lv := hL.out.blk.frozen 1
 replace t2 := hT.out.cell 2
 replace p0 := hR.out.cell 0
 replace f0 := hR.out.frozen 0
 replace p1 := hR.out.cell 1
 replace f1 := hR.out.frozen 1
 replace p2 := hR.out.cell 2
 replace f2 := hR.out.frozen 2
 replace p3 := hR.out.cell 3
 replace f3 := hR.out.frozen 3
 replace p4 := hR.out.cell 4
 replace f4 := hR.out.frozen 4
 replace hW4 := hi_ hW4
 go_upto_region 6 with (go_at_call 110; (with_reducible refine (ctok2.out _ hL.out).mono ?_); rintro e w3 ⟨A6, c6, rfl, hO6, hL3, hS3⟩; have hS9 := hS3; replace hT := hi_ (hS9.blk hneT hT.out); replace hR := hi_ (hS9.blk hneR hR.out); replace hS := hi_ (hS.out.trans hS9); replace hL := hi_ hL3; replace l1 := hL.out.blk.cell 1; replace l3 := hL.out.blk.cell 3; replace lv := hL.out.blk.frozen 1; replace t2 := hT.out.cell 2; replace p0 := hR.out.cell 0; replace f0 := hR.out.frozen 0; replace p1 := hR.out.cell 1; replace f1 := hR.out.frozen 1; replace p2 := hR.out.cell 2; replace f2 := hR.out.frozen 2; replace p3 := hR.out.cell 3; replace f3 := hR.out.frozen 3; replace p4 := hR.out.cell 4; replace f4 := hR.out.frozen 4; have hSo := hS3; replace hO6 := hi_ hO6; clear hSo; clear hS9 hS3 hL3)
 obtain ⟨W6, hW6⟩ : ∃ W, W = w3.alloc (.cells #[.int .i64 s.k, .int .i64 a2, .int .i64 s.n, .slice A6 s.b.length c6] 99) := ⟨_, rfl⟩
 rw [← hW6]
 have b6 : Below w3.heap.size w3 W6 := by rw [hW6]; exact (Below.refl _ _).alloc (Nat.le_refl _) _
 have hK6 : Blk W6 w3.heap.size 99 #[.int .i64 s.k, .int .i64 a2, .int .i64 s.n, .slice A6 s.b.length c6] := by rw [hW6]; exact Blk.new w3 _ _
 have k60 := hK6.cell 0
 have k62 := hK6.cell 2
 have k63 := hK6.cell 3
 replace hT := hi_ (hT.out.below b6 hT.out.lt)
 replace hR := hi_ (hR.out.below b6 hR.out.lt)
 replace hS := hi_ (hS.out.then_ b6)
 replace hL := hi_ (hL.out.below b6)
 replace l1 := hL.out.blk.cell 1
 replace l3 := hL.out.blk.cell 3
 replace lv := hL.out.blk.frozen 1
 replace t2 := hT.out.cell 2
 replace p0 := hR.out.cell 0
 replace f0 := hR.out.frozen 0
 replace p1 := hR.out.cell 1
 replace f1 := hR.out.frozen 1
 replace p2 := hR.out.cell 2
 replace f2 := hR.out.frozen 2
 replace p3 := hR.out.cell 3
 replace f3 := hR.out.frozen 3
 replace p4 := hR.out.cell 4
 replace f4 := hR.out.frozen 4
 replace hW6 := hi_ hW6
 obtain ⟨_, _, e7, hby, _, _⟩ := (hO6.out.below b6).out2 (hO6.out.below b6).len
 cases e7
 have hcv := conv_any W6 A6 c6 s.b hby
 clear hby
 have hke : ((bytes s.b).toList == [82]) = false := by rw [ByteArray.toList_eq]; show (s.b == [82]) = _; exact beq_eq_false_iff_ne.2 hs2.out
 go_wp2
 obtain ⟨W8, hW8⟩ : ∃ W, W = W6.setCell ⟨L, 1, none⟩ (.int .i64 q) := ⟨_, rfl⟩
 rw [← hW8]
 have hL8 : LX L A c bs D (.bool false) W8 r := by rw [hW8, hq.out]; exact hL.out.go hsuf.out
 have hS8 : Save L w W8 := by rw [hW8]; exact hS.out.store 1 _
 have hR8 : Blk W8 (w.heap.size + 1) 26 #[.int .i64 0, .int .i64 0, .slice none 0 0, .slice none 0 0, .slice none 0 0] := by rw [hW8]; exact hR.out.far (p := ⟨L, 1, none⟩) hneR _
 obtain ⟨Wf, hWf⟩ : ∃ W, W = ((((W8.setCell ⟨w.heap.size + 1, 0, none⟩ (.int .i64 2)).setCell ⟨w.heap.size + 1, 1, none⟩ (.int .i64 n)).setCell ⟨w.heap.size + 1, 2, none⟩ (.slice none 0 0)).setCell ⟨w.heap.size + 1, 3, none⟩ (.slice none 0 0)).setCell ⟨w.heap.size + 1, 4, none⟩ (.slice none 0 0) := ⟨_, rfl⟩
 rw [← hWf]
 obtain ⟨hbf, hLf, hSf⟩ := whole_end hS8 hL8 hR8 (by omega) hneR.symm hAw hWf
 have u0 := hbf.cell 0
 have u1 := hbf.cell 1
 have u2 := hbf.cell 2
 have u3 := hbf.cell 3
 have u4 := hbf.cell 4
 replace hLf := hi_ hLf
 replace hSf := hi_ hSf
 replace hWf := hi_ hWf
 clear hbf
 exact bodyPost_ret (by simp [results, Tryz.results112, go_sem, u0, u1, u2, u3, u4]; try rfl) rfl ⟨_, rfl, rfl, hLf.out, hSf.out⟩
set_option maxHeartbeats 8000000 in
set_option maxRecDepth 100000 in
theorem wh_ref {kk n : Int} {at1 v1 : Value} (hn : 1 ≤ n) (hn2 : n ≤ 8388607) (ht : tokS r = .ok k u) {s : Tok} {v : Bs} (hk : k.k = 1) (hk0 : k.n = 0) (ht2 : tokS u = .ok s v) (hs : s.k = 9) (hs2 : s.b = [82]) (h : LX L A c bs D (.bool false) w r) : Calls Tryz.prog 112 #[.pointer (some ⟨L, 0, none⟩), .agg #[.int .i64 kk, at1, .int .i64 n, v1]] w fun e w' => ∃ k', e = .returned (.agg #[.int .i64 k', .int .i64 n, .slice none 0 0, .slice none 0 0, .slice none 0 0]) ∧ k' = 9 ∧ LX L A c bs D (.bool false) w' v ∧ Save L w w' := by
 have hLw := h.lt
 have hAw := h.a_lt
 obtain ⟨W1, hW1⟩ : ∃ W, W = (w.alloc (.cells #[.int .i64 kk, at1, .int .i64 n, v1] 99)).alloc (.cells #[.int .i64 0, .int .i64 0, .slice none 0 0, .slice none 0 0, .slice none 0 0] 26) := ⟨_, rfl⟩
 have b1 : Below w.heap.size w W1 := by rw [hW1]; exact ((Below.refl _ _).alloc (Nat.le_refl _) _).alloc (by rw [World.size_alloc]; omega) _
 have hT1 : Blk W1 w.heap.size 99 #[.int .i64 kk, at1, .int .i64 n, v1] := by rw [hW1]; exact (Blk.new w _ _).alloc _
 have hR1 : Blk W1 (w.heap.size + 1) 26 #[.int .i64 0, .int .i64 0, .slice none 0 0, .slice none 0 0, .slice none 0 0] := by
  rw [hW1, show w.heap.size + 1 = (w.alloc (.cells #[.int .i64 kk, at1, .int .i64 n, v1] 99)).heap.size from (World.size_alloc _ _).symm]; exact Blk.new _ _ _
 have hL1 := h.below b1
 have hS1 : Save L w W1 := Save.of_below b1
 obtain ⟨q, hq⟩ : ∃ q : Int, q = (pos bs r : Nat) := ⟨_, rfl⟩
 have hneT : w.heap.size ≠ L := by omega
 have hneR : w.heap.size + 1 ≠ L := by omega
 have hsuf := h.suf
 obtain ⟨hL, hS, hT, hR⟩ : Hid (LX L A c bs D (.bool false) W1 r) ∧ Hid (Save L w W1) ∧ Hid (Blk W1 w.heap.size 99 #[.int .i64 kk, at1, .int .i64 n, v1]) ∧ Hid (Blk W1 (w.heap.size + 1) 26 #[.int .i64 0, .int .i64 0, .slice none 0 0, .slice none 0 0, .slice none 0 0]) := ⟨Lib.hid hL1, Lib.hid hS1, Lib.hid hT1, Lib.hid hR1⟩
 have l1 := hL1.blk.cell 1
 rw [← hq] at l1
 have l3 := hL1.blk.cell 3
 have lv := hL1.blk.frozen 1
 have t2 := hT1.cell 2
 have p0 := hR1.cell 0
 have f0 := hR1.frozen 0
 have p1 := hR1.cell 1
 have f1 := hR1.frozen 1
 have p2 := hR1.cell 2
 have f2 := hR1.frozen 2
 have p3 := hR1.cell 3
 have f3 := hR1.frozen 3
 have p4 := hR1.cell 4
 have f4 := hR1.frozen 4
 replace h := hi_ h
 replace hq := hi_ hq
 replace hsuf := hi_ hsuf
 clear hL1 hS1 hT1 hR1 b1
 obtain ⟨a1, ha1⟩ : ∃ a : Int, a = (pos bs (blankM false r) : Nat) := ⟨_, rfl⟩
 have ctok := fun W (h : LX L A c bs D (.bool false) W r) => rx_ok h ht ha1
 replace ctok := hi_ ctok
 clear ha1 ht
 obtain ⟨a2, ha2⟩ : ∃ a : Int, a = (pos bs (blankM false u) : Nat) := ⟨_, rfl⟩
 have ctok2 := fun W (h : LX L A c bs D (.bool false) W u) => rx_ok h ht2 ha2
 replace ctok2 := hi_ ctok2
 clear ha2 ht2
 have hk1 : (k.k == 1) = true := by simpa using hk
 have hk2 : (k.n == 0) = true := by simpa using hk0
 clear hk hk0
 have hs1 : (s.k == 9) = true := by simpa using hs
 clear hs
 replace hs2 := hi_ hs2
 go_enter Tryz.func112, Tryz.ntmps112
 go_upto_region 1 with (fail)
 rw [← hW1]
 replace hW1 := hi_ hW1
 go_upto_region 4 with (go_at_call 110; (with_reducible refine (ctok.out _ hL.out).mono ?_); rintro e w3 ⟨A3, c3, rfl, hO3, hL3, hS3⟩; have hS9 := hS3; replace hT := hi_ (hS9.blk hneT hT.out); replace hR := hi_ (hS9.blk hneR hR.out); replace hS := hi_ (hS.out.trans hS9); replace hL := hi_ hL3; replace l1 := hL.out.blk.cell 1; replace l3 := hL.out.blk.cell 3; replace lv := hL.out.blk.frozen 1; replace t2 := hT.out.cell 2; replace p0 := hR.out.cell 0; replace f0 := hR.out.frozen 0; replace p1 := hR.out.cell 1; replace f1 := hR.out.frozen 1; replace p2 := hR.out.cell 2; replace f2 := hR.out.frozen 2; replace p3 := hR.out.cell 3; replace f3 := hR.out.frozen 3; replace p4 := hR.out.cell 4; replace f4 := hR.out.frozen 4; clear hO3; clear hS9 hS3 hL3)
 obtain ⟨W4, hW4⟩ : ∃ W, W = w3.alloc (.cells #[.int .i64 k.k, .int .i64 a1, .int .i64 k.n, .slice A3 k.b.length c3] 99) := ⟨_, rfl⟩
 rw [← hW4]
 have b4 : Below w3.heap.size w3 W4 := by rw [hW4]; exact (Below.refl _ _).alloc (Nat.le_refl _) _
 have hK4 : Blk W4 w3.heap.size 99 #[.int .i64 k.k, .int .i64 a1, .int .i64 k.n, .slice A3 k.b.length c3] := by rw [hW4]; exact Blk.new w3 _ _
 have k40 := hK4.cell 0
 have k42 := hK4.cell 2
 have k43 := hK4.cell 3
 replace hT := hi_ (hT.out.below b4 hT.out.lt)
 replace hR := hi_ (hR.out.below b4 hR.out.lt)
 replace hS := hi_ (hS.out.then_ b4)
 replace hL := hi_ (hL.out.below b4)
 replace l1 := hL.out.blk.cell 1
 replace l3 := hL.out.blk.cell 3
 replace lv := hL.out.blk.frozen 1
 replace t2 := hT.out.cell 2
 replace p0 := hR.out.cell 0
 replace f0 := hR.out.frozen 0
 replace p1 := hR.out.cell 1
 replace f1 := hR.out.frozen 1
 replace p2 := hR.out.cell 2
 replace f2 := hR.out.frozen 2
 replace p3 := hR.out.cell 3
 replace f3 := hR.out.frozen 3
 replace p4 := hR.out.cell 4
 replace f4 := hR.out.frozen 4
 replace hW4 := hi_ hW4
 go_upto_region 6 with (go_at_call 110; (with_reducible refine (ctok2.out _ hL.out).mono ?_); rintro e w3 ⟨A6, c6, rfl, hO6, hL3, hS3⟩; have hS9 := hS3; replace hT := hi_ (hS9.blk hneT hT.out); replace hR := hi_ (hS9.blk hneR hR.out); replace hS := hi_ (hS.out.trans hS9); replace hL := hi_ hL3; replace l1 := hL.out.blk.cell 1; replace l3 := hL.out.blk.cell 3; replace lv := hL.out.blk.frozen 1; replace t2 := hT.out.cell 2; replace p0 := hR.out.cell 0; replace f0 := hR.out.frozen 0; replace p1 := hR.out.cell 1; replace f1 := hR.out.frozen 1; replace p2 := hR.out.cell 2; replace f2 := hR.out.frozen 2; replace p3 := hR.out.cell 3; replace f3 := hR.out.frozen 3; replace p4 := hR.out.cell 4; replace f4 := hR.out.frozen 4; have hSo := hS3; replace hO6 := hi_ hO6; clear hSo; clear hS9 hS3 hL3)
 obtain ⟨W6, hW6⟩ : ∃ W, W = w3.alloc (.cells #[.int .i64 s.k, .int .i64 a2, .int .i64 s.n, .slice A6 s.b.length c6] 99) := ⟨_, rfl⟩
 rw [← hW6]
 have b6 : Below w3.heap.size w3 W6 := by rw [hW6]; exact (Below.refl _ _).alloc (Nat.le_refl _) _
 have hK6 : Blk W6 w3.heap.size 99 #[.int .i64 s.k, .int .i64 a2, .int .i64 s.n, .slice A6 s.b.length c6] := by rw [hW6]; exact Blk.new w3 _ _
 have k60 := hK6.cell 0
 have k62 := hK6.cell 2
 have k63 := hK6.cell 3
 replace hT := hi_ (hT.out.below b6 hT.out.lt)
 replace hR := hi_ (hR.out.below b6 hR.out.lt)
 replace hS := hi_ (hS.out.then_ b6)
 replace hL := hi_ (hL.out.below b6)
 replace l1 := hL.out.blk.cell 1
 replace l3 := hL.out.blk.cell 3
 replace lv := hL.out.blk.frozen 1
 replace t2 := hT.out.cell 2
 replace p0 := hR.out.cell 0
 replace f0 := hR.out.frozen 0
 replace p1 := hR.out.cell 1
 replace f1 := hR.out.frozen 1
 replace p2 := hR.out.cell 2
 replace f2 := hR.out.frozen 2
 replace p3 := hR.out.cell 3
 replace f3 := hR.out.frozen 3
 replace p4 := hR.out.cell 4
 replace f4 := hR.out.frozen 4
 replace hW6 := hi_ hW6
 obtain ⟨_, _, e7, hby, _, _⟩ := (hO6.out.below b6).out2 (hO6.out.below b6).len
 cases e7
 have hcv := conv_any W6 A6 c6 s.b hby
 clear hby
 have hke : ((bytes s.b).toList == [82]) = true := by rw [ByteArray.toList_eq]; show (s.b == [82]) = _; rw [hs2.out]; rfl
 go_wp2
 obtain ⟨Wf, hWf⟩ : ∃ W, W = ((((W6.setCell ⟨w.heap.size + 1, 0, none⟩ (.int .i64 9)).setCell ⟨w.heap.size + 1, 1, none⟩ (.int .i64 n)).setCell ⟨w.heap.size + 1, 2, none⟩ (.slice none 0 0)).setCell ⟨w.heap.size + 1, 3, none⟩ (.slice none 0 0)).setCell ⟨w.heap.size + 1, 4, none⟩ (.slice none 0 0) := ⟨_, rfl⟩
 rw [← hWf]
 obtain ⟨hbf, hLf, hSf⟩ := whole_end hS.out hL.out hR.out (by omega) hneR.symm hAw hWf
 have u0 := hbf.cell 0
 have u1 := hbf.cell 1
 have u2 := hbf.cell 2
 have u3 := hbf.cell 3
 have u4 := hbf.cell 4
 replace hLf := hi_ hLf
 replace hSf := hi_ hSf
 replace hWf := hi_ hWf
 clear hbf
 exact bodyPost_ret (by simp [results, Tryz.results112, go_sem, u0, u1, u2, u3, u4]; try rfl) rfl ⟨_, rfl, rfl, hLf.out, hSf.out⟩
theorem num_O {B : Nat} {w : World} (k n : Int) (hk1 : -9223372036854775808 ≤ k) (hk2 : k ≤ 9223372036854775807) (hn : -9223372036854775808 ≤ n ∧ n ≤ 9223372036854775807) : ObI B w.heap.size w (.mk k n [] [] []) [.int .i64 k, .int .i64 n, .slice none 0 0, .slice none 0 0, .slice none 0 0] :=
 built (tO := 26) (tE := 53) hk1 hk2 hn.1 hn.2 (Own.nil B w).row (by simp [maxLen]) (RowG.nil _ _ _ _ _) (RowG.nil _ _ _ _ _)
theorem rp_whole {pl : Bool} {kk n : Int} {at1 v1 : Value} (h : LX L A c bs D (.bool pl) w r) (hn9 : -9223372036854775808 ≤ n ∧ n ≤ 9223372036854775807) : Calls Tryz.prog 112 #[.pointer (some ⟨L, 0, none⟩), .agg #[.int .i64 kk, at1, .int .i64 n, v1]] w fun e w' => ∃ us, e = .returned (.agg (List.toArray us)) ∧ ObI w.heap.size w'.heap.size w' (wholeS pl n r).1 us ∧ LX L A c bs D (.bool pl) w' (wholeS pl n r).2 ∧ Save L w w' := by
 have fin : ∀ {m : Int} {u : Bs}, wholeS pl n r = (.mk m n [] [] [], u) → (m = 2 ∨ m = 9) → (Calls Tryz.prog 112 #[.pointer (some ⟨L, 0, none⟩), .agg #[.int .i64 kk, at1, .int .i64 n, v1]] w fun e w' => ∃ k', e = .returned (.agg #[.int .i64 k', .int .i64 n, .slice none 0 0, .slice none 0 0, .slice none 0 0]) ∧ k' = m ∧ LX L A c bs D (.bool pl) w' u ∧ Save L w w') → Calls Tryz.prog 112 #[.pointer (some ⟨L, 0, none⟩), .agg #[.int .i64 kk, at1, .int .i64 n, v1]] w fun e w' => ∃ us, e = .returned (.agg (List.toArray us)) ∧ ObI w.heap.size w'.heap.size w' (wholeS pl n r).1 us ∧ LX L A c bs D (.bool pl) w' (wholeS pl n r).2 ∧ Save L w w' := fun {m u} e hm hc => by
  rw [e]
  refine hc.mono fun e w' hq => ?_
  obtain ⟨k', rfl, rfl, h1, h2⟩ := hq
  exact ⟨_, rfl, num_O _ n (by rcases hm with h | h <;> omega) (by rcases hm with h | h <;> omega) hn9, h1, h2⟩
 rcases Int.lt_or_le n 1 with h1 | h1
 ·exact fin (whole_no (by omega) pl) (.inl rfl) (wh_lo h1 h)
 rcases Int.lt_or_le 8388607 n with h2 | h2
 ·exact fin (whole_no (by omega) pl) (.inl rfl) (wh_hi h2 h)
 cases pl with
 | true => exact fin whole_pl (.inl rfl) (wh_pl h1 h2 h)
 | false =>
  cases ht : tokS r with
  | err e u => exact fin (whole_e1 ht) (.inl rfl) (wh_e1 h1 h2 ht h)
  | ok k u =>
   by_cases hk : k.k = 1
   ·by_cases hk0 : k.n = 0
    ·cases ht2 : tokS u with
     | err e v => exact fin (whole_e2 ht ht2) (.inl rfl) (wh_e2 h1 h2 ht hk hk0 ht2 h)
     | ok s v =>
      by_cases hs : s.k = 9
      ·by_cases hs2 : s.b = [82]
       ·exact fin (whole_ref ⟨h1, h2⟩ ht ⟨hk, hk0⟩ ht2 ⟨hs, hs2⟩) (.inr rfl) (wh_ref h1 h2 ht hk hk0 ht2 hs hs2 h)
       ·exact fin (whole_n2 ht ht2 (fun h => hs2 h.2)) (.inl rfl) (wh_n2b h1 h2 ht hk hk0 ht2 hs hs2 h)
      ·exact fin (whole_n2 ht ht2 (fun h => hs h.1)) (.inl rfl) (wh_n2a h1 h2 ht hk hk0 ht2 hs h)
    ·exact fin (whole_n1 ht (fun h => hk0 h.2)) (.inl rfl) (wh_n1b h1 h2 ht hk hk0 h)
   ·exact fin (whole_n1 ht (fun h => hk h.1)) (.inl rfl) (wh_n1a h1 h2 ht hk h)
end
end Go.Proofs.YthacnnmlephkhaaGreatDoor

/- An entry put into entries of one's own, by the document: with, whatever the object. No condition. -/
namespace Go.Proofs.YthacnnmlephkhaaGreatDoor
open Go Go.RowKit Go.Wk Go.Rd
theorem with_step (K : Bs) (X : Ob) (pb : Bool) (e : Bs × Ob) (r : List (Bs × Ob)) : withL K X pb (e :: r) = (if !pb && !ltB e.1 K then [(K, X)] else []) ++ ((if e.1 = K then [] else [e]) ++ withL K X (pb || !ltB e.1 K) r) := rfl
theorem with_len1 (K : Bs) (X : Ob) : ∀ (d : List (Bs × Ob)) (pb : Bool), (withL K X pb d).length ≤ d.length + (if pb then 0 else 1)
 | [], pb => by cases pb <;> simp [withL]
 | e :: r, pb => by
  rw [with_step, List.length_append, List.length_append, List.length_cons]
  have h0 := with_len1 K X r (pb || !ltB e.1 K)
  have h1 : (if e.1 = K then ([] : List (Bs × Ob)) else [e]).length ≤ 1 := by split <;> simp
  generalize (if e.1 = K then ([] : List (Bs × Ob)) else [e]).length = E at h1 ⊢
  obtain ⟨lt, hlt⟩ : ∃ b, b = ltB e.1 K := ⟨_, rfl⟩
  rw [← hlt] at h0 ⊢
  generalize (withL K X (pb || !lt) r).length = G at h0 ⊢
  clear hlt
  cases pb <;> cases lt <;> simp only [Bool.not_true, Bool.not_false, Bool.and_true, Bool.and_false, Bool.or_true, Bool.or_false, Bool.false_eq_true, if_true, if_false, List.length_cons, List.length_nil] at h0 ⊢ <;> omega
theorem with_len (K : Bs) (X : Ob) (d : List (Bs × Ob)) (pb : Bool) : (withL K X pb d).length ≤ d.length + 1 := by
 have := with_len1 K X d pb
 split at this <;> omega
def EnA (kb lo hi : Nat) (w : World) (e : Bs × Ob) (rs : List Value) : Prop := EnI lo hi w e rs ∧ (kb < lo ∨ hi ≤ kb)
theorem ena_law (kb : Nat) : ItLaw (EnA kb) 6 := ⟨fun h hk hs => ⟨en_law.keep h.1 hk hs, h.2⟩, fun h => en_law.top h.1, fun h => en_law.len h.1⟩
theorem RowG.en {kb : Nat} {e : TypeId} {sz B : Nat} {w : World} {v : Value} {l : List (Bs × Ob)} {rss : List (List Value)} (h : RowG (EnA kb) e sz B w v l rss) : RowG EnI e sz B w v l rss :=
 ⟨h.len, h.row, fun i hi => by obtain ⟨lo, hi', h1, h2, h3⟩ := h.it i hi; exact ⟨lo, hi', h1, h2, h3.1⟩⟩
theorem RowG.other {kb kb' : Nat} {e : TypeId} {sz B : Nat} {w : World} {v : Value} {l : List (Bs × Ob)} {rss : List (List Value)} (h : RowG (EnA kb) e sz B w v l rss) (hk : w.heap.size ≤ kb') : RowG (EnA kb') e sz B w v l rss :=
 ⟨h.len, h.row, fun i hi => by obtain ⟨lo, hi', h1, h2, h3⟩ := h.it i hi; exact ⟨lo, hi', h1, h2, h3.1, .inr (Nat.le_trans (en_law.top h3.1) hk)⟩⟩
theorem RowG.spared {kb : Nat} {e : TypeId} {sz B : Nat} {w w' : World} {v : Value} {l : List (Bs × Ob)} {rss : List (List Value)} (h : RowG (EnA kb) e sz B w v l rss) (hg : w.grownBy w' (some kb)) (hne : v.ownBlock ≠ some kb) : RowG (EnA kb) e sz B w' v l rss := by
 refine ⟨h.len, ?_, fun i hi => ?_⟩
 ·refine ⟨h.row.1, ?_⟩
  rcases h.row.2 with h2 | ⟨g, cap, cur, e', hB, hh, rest⟩
  ·exact .inl h2
  ·refine .inr ⟨g, cap, cur, e', hB, (hg.block g (Array.getElem?_eq_some_iff.1 hh).1 (fun e2 => hne ?_)).trans hh, rest⟩
   rw [e']; injection e2 with e2; simp [Value.ownBlock, e2]
 ·obtain ⟨lo, hi', h1, h2, h3⟩ := h.it i hi
  have ht := en_law.top h3.1
  exact ⟨lo, hi', h1, h2, en_law.keep h3.1 (fun b hb hb' => hg.block b (by omega) (by intro e; injection e with e; have := h3.2; omega)) (Nat.le_trans ht hg.size), h3.2⟩
theorem app_ena {kb : Nat} {w : World} {ops : Array Oper} {rest : List Oper} {o : Oper} {a : Act} {Q : Exit → Act → World → Prop} (hgd : o.guard = none) (s x : Operand)
 (ho : o.op = .call { callee := .builtin .append, args := #[s, x], argTypes := #[24, 24] }) (B : Nat) (v : Value) (l : List (List UInt8 × Ob)) (rss : List (List Value)) (hs : a.eval s = v) (hR : RowG (EnA kb) 53 6 B w v l rss)
 (g lo hi : Nat) (e : List UInt8 × Ob) (us : List Value) (hx : a.eval x = .slice (some ⟨g, 0, none⟩) 1 1) (hob : EnA kb lo hi w e us) (hlo : B ≤ lo) (hne : ∀ g, v.ownBlock = some g → g < lo ∨ hi ≤ g)
 (hc : ∀ j u, us[j]? = some u → w.cell? ⟨g, j, none⟩ = some u) (hl : l.length ≤ 1000000000) (hB : B ≤ w.heap.size)
 (h : ∀ v' w', RowG (EnA kb) 53 6 B w' v' (l ++ [e]) (rss ++ [us]) → w.grownBy w' v.ownBlock → (v'.ownBlock = v.ownBlock ∨ v'.ownBlock = some w.heap.size) → wpList Tryz.prog ops Q rest (a.put o.dst v') w') : wpList Tryz.prog ops Q (o :: rest) a w := by
 obtain ⟨i0, hi0, hz0, hz1, hz2⟩ := en_info
 refine wpList_append_own_at w hgd s x 24 ho B 53 i0 _ 6 104 Tryz.underlying24 hi0 hz0 hz1 hz2 rfl (by decide) v l.length rss.flatten hs hR.row ⟨g, 0, none⟩ 1 1 us hx (by rw [en_law.len hob.1]) ?_ (one_six hob.1) (by unfold maxLen; omega) (by omega) hB ?_
 ·intro j u hu; rw [addr_add, Nat.zero_add]; exact hc j u hu
 ·intro v' w' h1 h2 _ h3
  exact h v' w' (hR.more (ena_law kb) hob hlo hne h1 h2 h3) h2 h3
set_option maxHeartbeats 16000000 in
set_option maxRecDepth 100000 in
theorem ref_withG (kb : Nat) (w : World) (hkb : kb < w.heap.size) (B : Nat) (v : Value) (d : List (Bs × Ob)) (rd : List (List Value)) (hd : RowG (EnA kb) 53 6 B w v d rd) (hB : B ≤ w.heap.size) (KB : ByteArray) (X : Ob) (xs : List Value) (hn : d.length ≤ 100000000) (hX : ObAt w X xs) (hXb : X.bulk ≤ 100000000) (hKl : KB.data.toList.length ≤ maxLen) :
 Calls Tryz.prog 57 #[v, .agg (List.toArray (.string KB :: xs))] w fun e w' => ∃ v' rd', e = .returned v' ∧ RowG (EnA kb) 53 6 B w' v' (putE KB.data.toList X d) rd' ∧ (∀ g, v'.ownBlock = some g → w.heap.size ≤ g) ∧ Below w.heap.size w w' := by
 obtain ⟨xn, F1, F2, F3, fn1, fc1, fn2, fc2, fn3, fc3, hxs⟩ := ob_five2 hX
 obtain ⟨xk, hxk⟩ : ∃ k, k = X.kind := ⟨_, rfl⟩
 rw [← hxk] at hxs
 subst hxs
 obtain ⟨R, hRe⟩ : ∃ R, R = putE KB.data.toList X d := ⟨_, rfl⟩
 rw [← hRe]
 unfold putE at hRe
 rw [← hxk] at hRe
 obtain ⟨W1, hW1⟩ : ∃ W, W = w.alloc (.cells #[.string KB, .int .i64 xk, .int .i64 xn, .slice F1 fn1 fc1, .slice F2 fn2 fc2, .slice F3 fn3 fc3] 53) := ⟨_, rfl⟩
 have hb1 : Below w.heap.size w W1 := by rw [hW1]; exact (Below.refl _ _).alloc (Nat.le_refl _) _
 have z1 : W1.heap.size = w.heap.size + 1 := by rw [hW1, World.size_alloc]
 have hx6 := six_cells hW1
 have ck := fun W (hW : Below W1.heap.size W1 W) => rcopy_all 100000000 (Nat.le_refl _) X _ W (hX.kept (bthen hb1 hW)) hXb
 obtain ⟨AD, cD, gD, rfl, hlc, hAn, hAD, hcm, hit⟩ := hd.out (ena_law kb) (by omega)
 obtain ⟨oD, hoD⟩ : ∃ o : Nat, o = 0 := ⟨_, rfl⟩
 replace hAD : 0 < d.length → AD = some ⟨gD, oD, none⟩ := by rw [hoD]; exact hAD
 obtain ⟨m, hm⟩ : ∃ m, m = d.length := ⟨_, rfl⟩
 have hat : ∀ i, (hi : i < d.length) → ∃ (S : ByteArray) (c0 c1 c2 c3 c4 : Value) (lo hi' : Nat), S.data.toList = d[i].1 ∧ B ≤ lo ∧ hi' ≤ w.heap.size ∧ EnA kb lo hi' w d[i] [.string S, c0, c1, c2, c3, c4] ∧
  (∀ W, Below w.heap.size w W → W.cell? ⟨gD, oD + i * 6, none⟩ = some (.string S) ∧ W.cell? ⟨gD, oD + i * 6 + 1, none⟩ = some c0 ∧ W.cell? ⟨gD, oD + i * 6 + 2, none⟩ = some c1 ∧ W.cell? ⟨gD, oD + i * 6 + 3, none⟩ = some c2 ∧ W.cell? ⟨gD, oD + i * 6 + 4, none⟩ = some c3 ∧ W.cell? ⟨gD, oD + i * 6 + 5, none⟩ = some c4) := fun i hi => by
  obtain ⟨lo, hi', hlo, hap, hI⟩ := hd.it i hi
  have hcs := (hit i hi).2
  obtain ⟨us, e1, e2, e3⟩ := hI.1
  have h5 := e3.ob.five
  match us, h5 with
  | [c0, c1, c2, c3, c4], _ =>
   refine ⟨⟨d[i].1.toArray⟩, c0, c1, c2, c3, c4, lo, hi', by simp, hlo, e3.1, by rw [e1] at hI; exact hI, fun W hW => ?_⟩
   have cel : ∀ j u, (rd.getD i [])[j]? = some u → W.cell? ⟨gD, oD + i * 6 + j, none⟩ = some u := fun j u hu => by
    have hj : j < 6 := by have := (List.getElem?_eq_some_iff.1 hu).1; rw [e1] at this; simpa using this
    have h9 := hcs j hj
    rw [hu] at h9
    rw [← (hW.cell (cell_lt h9)).trans h9, hoD]
    congr 2
    omega
   rw [e1] at cel
   exact ⟨cel 0 _ rfl, cel 1 _ rfl, cel 2 _ rfl, cel 3 _ rfl, cel 4 _ rfl, cel 5 _ rfl⟩
 have hRl : R.length ≤ m + 1 := by rw [hRe, hm]; exact with_len _ _ _ _
 have hmd : m = d.length := hm
 rw [← hm] at hn hlc hAD ⊢
 replace hRl := hi_ hRl
 replace hRe := hi_ hRe
 replace hat := hi_ hat
 replace ck := hi_ ck
 replace hx6 := hi_ hx6
 replace hb1 := hi_ hb1
 replace hAD := hi_ hAD
 replace hKl := hi_ hKl
 replace hmd := hi_ hmd
 replace hxk := hi_ hxk
 clear hd hX hXb hit hAn hcm hm hoD
 go_enter Tryz.func57, Tryz.ntmps57
 go_upto_region 1 with (fail)
 rw [← hW1]
 replace hW1 := hi_ hW1
 obtain ⟨f0, f1, f2, f3, f4, f5⟩ := hx6.out
 go_wp2
 go_loopw [5, 6, 7] (fun s5 s6 s7 wr => ∃ (i : Nat) (O : List (Bs × Ob)) (rss : List (List Value)) (pb : Bool), i ≤ m ∧ s7 = .int .i64 i ∧ s6 = .bool pb ∧ RowG (EnA kb) 53 6 B wr s5 O rss ∧ (∀ g, s5.ownBlock = some g → W1.heap.size ≤ g) ∧ O ++ withL KB.data.toList X pb (d.drop i) = R ∧ Below W1.heap.size W1 wr) (fun _ _ s7 _ => m - (RowKit.intOf s7).toNat)
 case atStart => exact ⟨0, [], [], xk == 0, by omega, rfl, rfl, RowG.nil _ _ _ _ _, fun g h => by simp [Value.ownBlock] at h, by rw [hRe.out]; rfl, Below.refl _ _⟩
 case round =>
  obtain ⟨i, O, rss, pb, hi, rfl, rfl, hG, hge, hRO, hB1⟩ := hrel
  have lB := hB1.size
  obtain ⟨y0, y1, y2, y3, y4, y5⟩ := six_kept hx6.out hB1
  have hOl : O.length ≤ 100000001 := by
   have h1 := congrArg List.length hRO
   have h2 := hRl.out
   rw [List.length_append] at h1
   omega
  replace hOl := hi_ hOl
  by_cases him : i < m
  ·have hAe := hAD.out (by omega)
   subst hAe
   obtain ⟨S, c0, c1, c2, c3, c4, lo, hi', hSk, hlo, hhi, hEn, hcell⟩ := hat.out i (by have := hmd.out; omega)
   obtain ⟨E, hE⟩ : ∃ E, E = d[i]'(by have := hmd.out; omega) := ⟨_, rfl⟩
   rw [← hE] at hSk hEn
   have hdr : d.drop i = E :: d.drop (i + 1) := by rw [hE]; exact List.drop_eq_getElem_cons _
   rw [hdr, with_step] at hRO
   have e1 : (Op.bytesLess KB.toList S.toList || KB.toList == S.toList) = !ltB E.1 KB.data.toList := by rw [le_keys, hSk]
   have e3 : (S.toList == KB.toList) = decide (E.1 = KB.data.toList) := by
    rw [ByteArray.toList_eq, ByteArray.toList_eq, hSk, Bool.eq_iff_iff]; simp
   have e2 : (S.toList != KB.toList) = !(decide (E.1 = KB.data.toList)) := by rw [bne, e3]
   obtain ⟨k0, k1, k2, k3, k4, k5⟩ := hcell wr (bthen hb1.out hB1)
   obtain ⟨lt, hlt⟩ : ∃ b, b = ltB E.1 KB.data.toList := ⟨_, rfl⟩
   obtain ⟨eq, heq⟩ : ∃ b, b = decide (E.1 = KB.data.toList) := ⟨_, rfl⟩
   have hif : (if E.1 = KB.data.toList then ([] : List (Bs × Ob)) else [E]) = if eq then [] else [E] := by rw [heq]; by_cases h : E.1 = KB.data.toList <;> simp [h]
   rw [hif] at hRO
   rw [← hlt] at hRO e1
   rw [← heq] at e2 e3
   replace hif := hi_ hif
   replace hlt := hi_ hlt
   replace heq := hi_ heq
   replace hE := hi_ hE
   replace hdr := hi_ hdr
   replace hSk := hi_ hSk
   replace hEn := hi_ hEn
   replace hlo := hi_ hlo
   replace hhi := hi_ hhi
   replace hcell := hi_ hcell
   replace hRO := hi_ hRO
   replace hG := hi_ hG
   replace hge := hi_ hge
   replace hB1 := hi_ hB1
   have ways : (pb = true ∧ (!pb && !lt) = false ∧ (pb || !lt) = true) ∨ (pb = false ∧ lt = true) ∨ (pb = false ∧ lt = false) := by cases pb <;> cases lt <;> simp
   rcases ways with ⟨rfl, hw1, hw2⟩ | ⟨rfl, rfl⟩ | ⟨rfl, rfl⟩
   ·have hRO2 := hRO.out
    rw [hw1, hw2] at hRO2
    simp only [Bool.false_eq_true, if_false, List.nil_append] at hRO2
    clear hw1 hw2 e1 hRO
    go_upto_region 6 with (fail)
    go_quiet (fail)
    obtain ⟨wq, hwq⟩ : ∃ W, W = wr.drewN nq := ⟨_, rfl⟩
    rw [← hwq]
    have hBq : Below wr.heap.size wr wq := by rw [hwq]; exact drewN_below _ _
    obtain ⟨t0, t1, t2, t3, t4, t5⟩ := hcell.out wq (bthen (bthen hb1.out hB1.out) hBq)
    have s0 := (hBq.cell (cell_lt y0)).trans y0
    replace hwq := hi_ hwq
    clear k0 k1 k2 k3 k4 k5 y0 y1 y2 y3 y4 y5
    obtain ⟨hO3, hG3, hge3, hRO3, hB3, zz⟩ : Hid (O.length ≤ 100000001) ∧ Hid (RowG (EnA kb) 53 6 B wq u5 O rss) ∧ Hid (∀ g, u5.ownBlock = some g → W1.heap.size ≤ g) ∧ Hid (O ++ ((if eq then [] else [E]) ++ withL KB.data.toList X true (d.drop (i + 1))) = R) ∧ Hid (Below W1.heap.size W1 wq) ∧ W1.heap.size ≤ wq.heap.size := ⟨hOl, Lib.hid (hG.out.below (ena_law kb) hBq), hge, Lib.hid hRO2, Lib.hid (bthen hB1.out hBq), by have := hBq.size; omega⟩
    clear hRO2 hBq
    cases eq with
    | true =>
     simp only [Bool.not_true] at e2
     have hRO5 := hRO3.out
     simp only [if_true, List.nil_append] at hRO5
     replace hRO5 := hi_ hRO5
     go_upto_region 9 with (fail)
     go_quiet (fail)
     obtain ⟨wz, hwz⟩ : ∃ W, W = wq.drewN nq := ⟨_, rfl⟩
     rw [← hwz]
     have hBz : Below wq.heap.size wq wz := by rw [hwz]; exact drewN_below _ _
     replace hwz := hi_ hwz
     replace hBz := hi_ hBz
     go_wp2
     go_roundw
     case measure => simp [RowKit.intOf]; omega
     case rel => exact ⟨i + 1, O, rss, true, by omega, by go_num, rfl, hG3.out.below (ena_law kb) hBz.out, hge3.out, hRO5.out, bthen hB3.out hBz.out⟩
    | false =>
     simp only [Bool.not_false] at e2
     have hRO5 := hRO3.out
     simp only [Bool.false_eq_true, if_false] at hRO5
     replace hRO5 := hi_ hRO5
     go_upto_region 9 with (fail)
     go_quiet (fail)
     obtain ⟨wz, hwz⟩ : ∃ W, W = wq.drewN nq := ⟨_, rfl⟩
     rw [← hwz]
     have hBz : Below wq.heap.size wq wz := by rw [hwz]; exact drewN_below _ _
     clear t0 t1 t2 t3 t4 t5
     obtain ⟨t0, t1, t2, t3, t4, t5⟩ := hcell.out wz (bthen (bthen hb1.out hB3.out) hBz)
     obtain ⟨wA, hwA⟩ : ∃ W, W = wz.alloc (.cells #[.string S, c0, c1, c2, c3, c4] 53) := ⟨_, rfl⟩
     have hbA : Below wz.heap.size wz wA := by rw [hwA]; exact (Below.refl _ _).alloc (Nat.le_refl _) _
     have hDA := bthen hBz hbA
     have hDw : Below w.heap.size w wA := bthen (bthen hb1.out hB3.out) hDA
     have hGA := hG3.out.below (ena_law kb) hDA
     have hEA := (ena_law kb).keep hEn.out (fun q _ hq => hDw.block q (by have := hhi.out; omega)) (Nat.le_trans hhi.out hDw.size)
     have hcA : ∀ j u, [Value.string S, c0, c1, c2, c3, c4][j]? = some u → wA.cell? ⟨wz.heap.size, j, none⟩ = some u := fun j u hu => by rw [hwA]; exact new_cells wz _ 53 j u hu
     have hapA : ∀ g, u5.ownBlock = some g → g < lo ∨ hi' ≤ g := fun g hg => by have := hge3.out g hg; have := hhi.out; right; omega
     have hzA : wA.heap.size = wz.heap.size + 1 := by rw [hwA]; exact World.size_alloc _ _
     have zq := hBz.size
     have hltA := World.ownsRow.lt hGA.row
     replace hwz := hi_ hwz
     replace hBz := hi_ hBz
     replace hbA := hi_ hbA
     replace hDA := hi_ hDA
     replace hDw := hi_ hDw
     replace hGA := hi_ hGA
     replace hEA := hi_ hEA
     replace hcA := hi_ hcA
     replace hapA := hi_ hapA
     replace hzA := hi_ hzA
     replace hwA := hi_ hwA
     replace hltA := hi_ hltA
     go_wp2_with (at_builtin; rw [← hwA.out]; refine app_ena rfl _ _ rfl B u5 O rss rfl hGA.out wz.heap.size lo hi' E _ rfl hEA.out hlo.out hapA.out hcA.out (by have := hO3.out; omega) (by rw [hzA.out]; omega) ?_; intro v6 w6 hG6 hg6 hat6; replace hG6 := hi_ hG6; replace hg6 := hi_ hg6; replace hat6 := hi_ hat6)
     go_roundw
     case measure => simp [RowKit.intOf]; omega
     case rel =>
      refine ⟨i + 1, _, _, true, by omega, by go_num, rfl, hG6.out, fun g hg => ?_, by rw [List.append_assoc]; exact hRO5.out, ?_⟩
      ·rcases hat6.out with e | e
       ·exact hge3.out g (e.symm.trans hg)
       ·rw [e] at hg; injection hg with hg; rw [← hg, hzA.out]; omega
      ·exact (bthen hB3.out hDA.out).grown hg6.out (by rw [hzA.out]; omega) (fun q hq => hge3.out q hq)
   ·have hRO2 := hRO.out
    simp only [Bool.not_true, Bool.and_false, Bool.false_eq_true, if_false, List.nil_append, Bool.or_false] at hRO2
    simp only [Bool.not_true] at e1
    clear hRO
    go_upto_region 6 with (fail)
    go_quiet (fail)
    obtain ⟨wq, hwq⟩ : ∃ W, W = wr.drewN nq := ⟨_, rfl⟩
    rw [← hwq]
    have hBq : Below wr.heap.size wr wq := by rw [hwq]; exact drewN_below _ _
    obtain ⟨t0, t1, t2, t3, t4, t5⟩ := hcell.out wq (bthen (bthen hb1.out hB1.out) hBq)
    have s0 := (hBq.cell (cell_lt y0)).trans y0
    replace hwq := hi_ hwq
    clear k0 k1 k2 k3 k4 k5 y0 y1 y2 y3 y4 y5
    obtain ⟨hO3, hG3, hge3, hRO3, hB3, zz⟩ : Hid (O.length ≤ 100000001) ∧ Hid (RowG (EnA kb) 53 6 B wq u5 O rss) ∧ Hid (∀ g, u5.ownBlock = some g → W1.heap.size ≤ g) ∧ Hid (O ++ ((if eq then [] else [E]) ++ withL KB.data.toList X false (d.drop (i + 1))) = R) ∧ Hid (Below W1.heap.size W1 wq) ∧ W1.heap.size ≤ wq.heap.size := ⟨hOl, Lib.hid (hG.out.below (ena_law kb) hBq), hge, Lib.hid hRO2, Lib.hid (bthen hB1.out hBq), by have := hBq.size; omega⟩
    clear hRO2 hBq
    cases eq with
    | true =>
     simp only [Bool.not_true] at e2
     have hRO5 := hRO3.out
     simp only [if_true, List.nil_append] at hRO5
     replace hRO5 := hi_ hRO5
     go_upto_region 9 with (fail)
     go_quiet (fail)
     obtain ⟨wz, hwz⟩ : ∃ W, W = wq.drewN nq := ⟨_, rfl⟩
     rw [← hwz]
     have hBz : Below wq.heap.size wq wz := by rw [hwz]; exact drewN_below _ _
     replace hwz := hi_ hwz
     replace hBz := hi_ hBz
     go_wp2
     go_roundw
     case measure => simp [RowKit.intOf]; omega
     case rel => exact ⟨i + 1, O, rss, false, by omega, by go_num, rfl, hG3.out.below (ena_law kb) hBz.out, hge3.out, hRO5.out, bthen hB3.out hBz.out⟩
    | false =>
     simp only [Bool.not_false] at e2
     have hRO5 := hRO3.out
     simp only [Bool.false_eq_true, if_false] at hRO5
     replace hRO5 := hi_ hRO5
     go_upto_region 9 with (fail)
     go_quiet (fail)
     obtain ⟨wz, hwz⟩ : ∃ W, W = wq.drewN nq := ⟨_, rfl⟩
     rw [← hwz]
     have hBz : Below wq.heap.size wq wz := by rw [hwz]; exact drewN_below _ _
     clear t0 t1 t2 t3 t4 t5
     obtain ⟨t0, t1, t2, t3, t4, t5⟩ := hcell.out wz (bthen (bthen hb1.out hB3.out) hBz)
     obtain ⟨wA, hwA⟩ : ∃ W, W = wz.alloc (.cells #[.string S, c0, c1, c2, c3, c4] 53) := ⟨_, rfl⟩
     have hbA : Below wz.heap.size wz wA := by rw [hwA]; exact (Below.refl _ _).alloc (Nat.le_refl _) _
     have hDA := bthen hBz hbA
     have hDw : Below w.heap.size w wA := bthen (bthen hb1.out hB3.out) hDA
     have hGA := hG3.out.below (ena_law kb) hDA
     have hEA := (ena_law kb).keep hEn.out (fun q _ hq => hDw.block q (by have := hhi.out; omega)) (Nat.le_trans hhi.out hDw.size)
     have hcA : ∀ j u, [Value.string S, c0, c1, c2, c3, c4][j]? = some u → wA.cell? ⟨wz.heap.size, j, none⟩ = some u := fun j u hu => by rw [hwA]; exact new_cells wz _ 53 j u hu
     have hapA : ∀ g, u5.ownBlock = some g → g < lo ∨ hi' ≤ g := fun g hg => by have := hge3.out g hg; have := hhi.out; right; omega
     have hzA : wA.heap.size = wz.heap.size + 1 := by rw [hwA]; exact World.size_alloc _ _
     have zq := hBz.size
     have hltA := World.ownsRow.lt hGA.row
     replace hwz := hi_ hwz
     replace hBz := hi_ hBz
     replace hbA := hi_ hbA
     replace hDA := hi_ hDA
     replace hDw := hi_ hDw
     replace hGA := hi_ hGA
     replace hEA := hi_ hEA
     replace hcA := hi_ hcA
     replace hapA := hi_ hapA
     replace hzA := hi_ hzA
     replace hwA := hi_ hwA
     replace hltA := hi_ hltA
     go_wp2_with (at_builtin; rw [← hwA.out]; refine app_ena rfl _ _ rfl B u5 O rss rfl hGA.out wz.heap.size lo hi' E _ rfl hEA.out hlo.out hapA.out hcA.out (by have := hO3.out; omega) (by rw [hzA.out]; omega) ?_; intro v6 w6 hG6 hg6 hat6; replace hG6 := hi_ hG6; replace hg6 := hi_ hg6; replace hat6 := hi_ hat6)
     go_roundw
     case measure => simp [RowKit.intOf]; omega
     case rel =>
      refine ⟨i + 1, _, _, false, by omega, by go_num, rfl, hG6.out, fun g hg => ?_, by rw [List.append_assoc]; exact hRO5.out, ?_⟩
      ·rcases hat6.out with e | e
       ·exact hge3.out g (e.symm.trans hg)
       ·rw [e] at hg; injection hg with hg; rw [← hg, hzA.out]; omega
      ·exact (bthen hB3.out hDA.out).grown hg6.out (by rw [hzA.out]; omega) (fun q hq => hge3.out q hq)
   ·have hRO2 := hRO.out
    simp only [Bool.not_false, Bool.and_true, if_true, Bool.or_true] at hRO2
    simp only [Bool.not_false] at e1
    clear hRO
    go_upto_region 6 with (fail)
    go_quiet (fail)
    obtain ⟨wq, hwq⟩ : ∃ W, W = wr.drewN nq := ⟨_, rfl⟩
    rw [← hwq]
    have hBq : Below wr.heap.size wr wq := by rw [hwq]; exact drewN_below _ _
    obtain ⟨t0, t1, t2, t3, t4, t5⟩ := hcell.out wq (bthen (bthen hb1.out hB1.out) hBq)
    have s0 := (hBq.cell (cell_lt y0)).trans y0
    replace hwq := hi_ hwq
    clear k0 k1 k2 k3 k4 k5 y0 y1 y2 y3 y4 y5
    replace hG := hi_ (hG.out.below (ena_law kb) hBq)
    replace hB1 := hi_ (bthen hB1.out hBq)
    obtain ⟨x0, x1, x2, x3, x4, x5⟩ := six_kept hx6.out hB1.out
    have lBq : W1.heap.size ≤ wq.heap.size := hB1.out.size
    clear hBq t0 t1 t2 t3 t4 t5 s0
    go_upto_region 7 with (fail)
    refine wp_lin_tail (by kernel_rfl) [none, none, none, none, none, none, none, none, none, none, none, none, none, none, none, none, none, none, none, none, none, none, none, none, none, none, none, none, none, none, some 0, some 1, some 2, some 3, some 4, some 5, some 6, some 7, none, none, none, none, none, none, none, none, none, none, none, none, none, none, none, none, none, none, none, none, none, none, none, none, none, none, none, none] (fun w' => Below wq.heap.size wq w') (fun w' w'' => Below w'.heap.size w' w'') (GW w.heap.size u5 KB #[.int .i64 xk, .int .i64 xn, .slice F1 fn1 fc1, .slice F2 fn2 fc2, .slice F3 fn3 fc3] wq.heap.size X) (by rfl) (by kernel_rfl) 8 _ rfl (by decide) (by kernel_rfl) [8, 2, 6, 4, 5, 8, 7, 8, 0] (by kernel_rfl) ?hR ?mono (.cons 7 (step_of [6] rfl (by kernel_rfl) ?s7) (.cons 6 (step_of [2, 5] rfl (by kernel_rfl) ?s6) (.cons 5 (step_of [4] rfl (by kernel_rfl) ?s5) (.cons 4 (step_of [3] rfl (by kernel_rfl) ?s4) (.cons 3 (step_of [] rfl (by kernel_rfl) ?s3) (.cons 2 (step_of [1] rfl (by kernel_rfl) ?s2) (.cons 1 (step_of [] rfl (by kernel_rfl) ?s1) (.cons 0 (step_of [] rfl (by kernel_rfl) ?s0) (.nil))))))))) ?done
    case hR => exact (Below.refl _ _).drew
    case mono => exact GW_mono
    case s0 =>
     intro x w' hRw hd K' hK
     simp only [All, GW] at hd
     simp +decide only [upd, GW, fillL, if_true, if_false] at hK ⊢
     go_simp
     have hK2 := hK _ _ ⟨hRw, Below.refl _ _, rfl⟩
     exact hK2
    case s1 =>
     intro x w' hRw hd K' hK
     simp only [All, GW] at hd
     simp +decide only [upd, GW, fillL, if_true, if_false] at hK ⊢
     go_simp
     have hK2 := hK _ _ ⟨hRw, Below.refl _ _, rfl⟩
     exact hK2
    case s2 =>
     intro x w' hRw hd K' hK
     simp only [All, GW] at hd
     have tx0 := (hRw.cell (cell_lt x0)).trans x0
     simp +decide only [upd, GW, fillL, if_true, if_false] at hK ⊢
     try simp only [hd.1] at hK ⊢
     go_simp
     have hK2 := hK _ _ ⟨hRw, Below.refl _ _, rfl⟩
     exact hK2
    case s3 =>
     intro x w' hRw hd K' hK
     simp only [All, GW] at hd
     simp +decide only [upd, GW, fillL, if_true, if_false] at hK ⊢
     go_simp
     have hK2 := hK _ _ ⟨hRw, Below.refl _ _, rfl⟩
     exact hK2
    case s4 =>
     intro x w' hRw hd K' hK
     simp only [All, GW] at hd
     have tx1 := (hRw.cell (cell_lt x1)).trans x1
     have tx2 := (hRw.cell (cell_lt x2)).trans x2
     have tx3 := (hRw.cell (cell_lt x3)).trans x3
     have tx4 := (hRw.cell (cell_lt x4)).trans x4
     have tx5 := (hRw.cell (cell_lt x5)).trans x5
     simp +decide only [upd, GW, fillL, if_true, if_false] at hK ⊢
     try simp only [hd.1] at hK ⊢
     go_simp
     have hK2 := hK _ _ ⟨hRw, Below.refl _ _, rfl⟩
     exact hK2
    case s5 =>
     intro x w' hRw hd K' hK
     simp only [All, GW] at hd
     simp +decide only [upd, GW, fillL, if_true, if_false] at hK ⊢
     try simp only [hd.1] at hK ⊢
     go_simp
     refine (ck.out w' (bthen hB1.out hRw)).mono ?_
     rintro e' w2 ⟨us, rfl, hI6, hB6⟩
     obtain ⟨xn', G1, G2, G3, gn1, gc1, gn2, gc2, gn3, gc3, hx6'⟩ := ob_five2 hI6.ob
     subst hx6'
     have hK2 := hK _ _ ⟨bthen hRw hB6, hB6, _, _, _, _, _, w'.heap.size, w2.heap.size, rfl, hRw.size, hI6⟩
     exact hK2
    case s6 =>
     intro x w' hRw hd K' hK
     simp only [All, GW] at hd
     simp +decide only [upd, GW, fillL, if_true, if_false] at hK ⊢
     obtain ⟨h2, ⟨a, b, c, e, f, lo, hi', h5, hlo, hI⟩, _⟩ := hd
     simp only [h2, h5] at hK ⊢
     go_simp
     have hK2 := hK _ _ ⟨hRw, Below.refl _ _, a, b, c, e, f, lo, hi', rfl, hlo, hI⟩
     exact hK2
    case s7 =>
     intro x w' hRw hd K' hK
     simp only [All, GW] at hd
     simp +decide only [upd, GW, fillL, if_true, if_false] at hK ⊢
     obtain ⟨⟨a, b, c, e, f, lo, hi', h6, hlo, hI⟩, _⟩ := hd
     simp only [h6] at hK ⊢
     go_simp
     have hbn := (Below.refl w'.heap.size w').alloc (Nat.le_refl _) (.cells #[.string KB, a, b, c, e, f] 53)
     have hK2 := hK _ _ ⟨bthen hRw hbn, hbn, a, b, c, e, f, lo, hi', w'.heap.size, rfl, hlo, obI_below hI hbn, one_row w' [.string KB, a, b, c, e, f] rfl⟩
     exact hK2
    case done =>
     intro x w4 hR2' hG' fr hfr
     have a0 := hG' 0 (by omega)
     have a7 := hG' 7 (by omega)
     simp only [GW] at a0 a7
     clear hG'
     obtain ⟨xa, xb, xc, xd, xe, lo4, hi4, g7, a7, hlo4, hI4, hOX4⟩ := a7
     simp only [fillL] at hfr
     rw [a7] at hOX4
     rw [a0, a7] at hfr
     subst hfr
     clear a0 a7 x0 x1 x2 x3 x4 x5
     have hD4 : Below W1.heap.size W1 w4 := bthen hB1.out hR2'
     have hG4 := hG.out.below (ena_law kb) hR2'
     have hE4 : EnA kb lo4 hi4 w4 (KB.data.toList, X) [.string KB, xa, xb, xc, xd, xe] := ⟨⟨[xa, xb, xc, xd, xe], rfl, hKl.out, hI4⟩, .inl (by have := hB1.out.size; omega)⟩
     have hltw := World.ownsRow.lt hG.out.row
     have hap4 : ∀ g, u5.ownBlock = some g → g < lo4 ∨ hi4 ≤ g := fun g hg => by have := (hltw g hg).2; left; omega
     have hc4 : ∀ j u, [Value.string KB, xa, xb, xc, xd, xe][j]? = some u → w4.cell? ⟨g7, j, none⟩ = some u := fun j u hu => by
      have := World.ownsRow.cells (w := w4) (base := g7) (e := 53) (size := 6) (v := .slice (some ⟨g7, 0, none⟩) 1 1) (n := 1) (xs := [.string KB, xa, xb, xc, xd, xe]) hOX4 (g := g7) rfl j u hu
      rw [addr_add, Nat.zero_add] at this
      exact this
     have zR := hR2'.size
     have hlo9 : B ≤ lo4 := by omega
     replace hG4 := hi_ hG4
     replace hE4 := hi_ hE4
     replace hap4 := hi_ hap4
     replace hc4 := hi_ hc4
     replace hD4 := hi_ hD4
     replace hltw := hi_ hltw
     replace hI4 := hi_ hI4
     replace hOX4 := hi_ hOX4
     replace hR2' := hi_ hR2'
     refine app_ena rfl _ _ rfl B u5 O rss rfl hG4.out g7 lo4 hi4 _ _ rfl hE4.out hlo9 hap4.out hc4.out (by have := hOl.out; omega) (by omega) ?_
     intro v5 w5 hR5 hg5 hat5
     have hge5 : ∀ g, v5.ownBlock = some g → W1.heap.size ≤ g := fun g hg => by
      rcases hat5 with e | e
      ·exact hge.out g (e.symm.trans hg)
      ·rw [e] at hg; injection hg with hg; have := hD4.out.size; omega
     have hB5 : Below W1.heap.size W1 w5 := hD4.out.grown hg5 (hD4.out.size) (fun q hq => hge.out q hq)
     clear hg5 hat5
     go_wp2
     obtain ⟨t0, t1, t2, t3, t4, t5⟩ := hcell.out w5 (bthen hb1.out hB5)
     have s0 := (hB5.cell (cell_lt f0)).trans f0
     obtain ⟨O2, hO2⟩ : ∃ O2, O2 = O ++ [(KB.data.toList, X)] := ⟨_, rfl⟩
     have hRO4 : O2 ++ ((if eq then [] else [E]) ++ withL KB.data.toList X true (d.drop (i + 1))) = R := by rw [hO2, List.append_assoc]; exact hRO2
     rw [← hO2] at hR5
     have hOl2 : O2.length ≤ 100000001 := by
      have h1 := congrArg List.length hRO4
      have h2 := hRl.out
      rw [List.length_append] at h1
      omega
     obtain ⟨hO3, hG3, hge3, hRO3, hB3, zz⟩ : Hid (O2.length ≤ 100000001) ∧ Hid (RowG (EnA kb) 53 6 B w5 v5 O2 (rss ++ [[.string KB, xa, xb, xc, xd, xe]])) ∧ Hid (∀ g, v5.ownBlock = some g → W1.heap.size ≤ g) ∧ Hid (O2 ++ ((if eq then [] else [E]) ++ withL KB.data.toList X true (d.drop (i + 1))) = R) ∧ Hid (Below W1.heap.size W1 w5) ∧ W1.heap.size ≤ w5.heap.size := ⟨Lib.hid hOl2, Lib.hid hR5, Lib.hid hge5, Lib.hid hRO4, Lib.hid hB5, hB5.size⟩
     clear hRO4 hRO2 hR5 hge5 hB5 hOl2
     replace hO2 := hi_ hO2
     cases eq with
     | true =>
      simp only [Bool.not_true] at e2
      have hRO5 := hRO3.out
      simp only [if_true, List.nil_append] at hRO5
      replace hRO5 := hi_ hRO5
      go_upto_region 9 with (fail)
      go_quiet (fail)
      obtain ⟨wz, hwz⟩ : ∃ W, W = w5.drewN nq := ⟨_, rfl⟩
      rw [← hwz]
      have hBz : Below w5.heap.size w5 wz := by rw [hwz]; exact drewN_below _ _
      replace hwz := hi_ hwz
      replace hBz := hi_ hBz
      go_wp2
      go_roundw
      case measure => simp [RowKit.intOf]; omega
      case rel => exact ⟨i + 1, O2, (rss ++ [[.string KB, xa, xb, xc, xd, xe]]), true, by omega, by go_num, rfl, hG3.out.below (ena_law kb) hBz.out, hge3.out, hRO5.out, bthen hB3.out hBz.out⟩
     | false =>
      simp only [Bool.not_false] at e2
      have hRO5 := hRO3.out
      simp only [Bool.false_eq_true, if_false] at hRO5
      replace hRO5 := hi_ hRO5
      go_upto_region 9 with (fail)
      go_quiet (fail)
      obtain ⟨wz, hwz⟩ : ∃ W, W = w5.drewN nq := ⟨_, rfl⟩
      rw [← hwz]
      have hBz : Below w5.heap.size w5 wz := by rw [hwz]; exact drewN_below _ _
      clear t0 t1 t2 t3 t4 t5
      obtain ⟨t0, t1, t2, t3, t4, t5⟩ := hcell.out wz (bthen (bthen hb1.out hB3.out) hBz)
      obtain ⟨wA, hwA⟩ : ∃ W, W = wz.alloc (.cells #[.string S, c0, c1, c2, c3, c4] 53) := ⟨_, rfl⟩
      have hbA : Below wz.heap.size wz wA := by rw [hwA]; exact (Below.refl _ _).alloc (Nat.le_refl _) _
      have hDA := bthen hBz hbA
      have hDw : Below w.heap.size w wA := bthen (bthen hb1.out hB3.out) hDA
      have hGA := hG3.out.below (ena_law kb) hDA
      have hEA := (ena_law kb).keep hEn.out (fun q _ hq => hDw.block q (by have := hhi.out; omega)) (Nat.le_trans hhi.out hDw.size)
      have hcA : ∀ j u, [Value.string S, c0, c1, c2, c3, c4][j]? = some u → wA.cell? ⟨wz.heap.size, j, none⟩ = some u := fun j u hu => by rw [hwA]; exact new_cells wz _ 53 j u hu
      have hapA : ∀ g, v5.ownBlock = some g → g < lo ∨ hi' ≤ g := fun g hg => by have := hge3.out g hg; have := hhi.out; right; omega
      have hzA : wA.heap.size = wz.heap.size + 1 := by rw [hwA]; exact World.size_alloc _ _
      have zq := hBz.size
      have hltA := World.ownsRow.lt hGA.row
      replace hwz := hi_ hwz
      replace hBz := hi_ hBz
      replace hbA := hi_ hbA
      replace hDA := hi_ hDA
      replace hDw := hi_ hDw
      replace hGA := hi_ hGA
      replace hEA := hi_ hEA
      replace hcA := hi_ hcA
      replace hapA := hi_ hapA
      replace hzA := hi_ hzA
      replace hwA := hi_ hwA
      replace hltA := hi_ hltA
      go_wp2_with (at_builtin; rw [← hwA.out]; refine app_ena rfl _ _ rfl B v5 O2 (rss ++ [[.string KB, xa, xb, xc, xd, xe]]) rfl hGA.out wz.heap.size lo hi' E _ rfl hEA.out hlo.out hapA.out hcA.out (by have := hO3.out; omega) (by rw [hzA.out]; omega) ?_; intro v6 w6 hG6 hg6 hat6; replace hG6 := hi_ hG6; replace hg6 := hi_ hg6; replace hat6 := hi_ hat6)
      go_roundw
      case measure => simp [RowKit.intOf]; omega
      case rel =>
       refine ⟨i + 1, _, _, true, by omega, by go_num, rfl, hG6.out, fun g hg => ?_, by rw [List.append_assoc]; exact hRO5.out, ?_⟩
       ·rcases hat6.out with e | e
        ·exact hge3.out g (e.symm.trans hg)
        ·rw [e] at hg; injection hg with hg; rw [← hg, hzA.out]; omega
       ·exact (bthen hB3.out hDA.out).grown hg6.out (by rw [hzA.out]; omega) (fun q hq => hge3.out q hq)
  ·obtain rfl : i = m := by omega
   have hdn : d.drop i = [] := List.drop_eq_nil_of_le (by have := hmd.out; omega)
   rw [hdn] at hRO
   cases pb with
   | true =>
    have hR9 : O = R := by simpa [withL] using hRO
    subst hR9
    replace hG := hi_ hG
    replace hge := hi_ hge
    replace hB1 := hi_ hB1
    replace hRO := hi_ hRO
    go_wp2
    go_ret
    exact ⟨_, _, rfl, hG.out, fun g hg => by have := hge.out g hg; omega, bthen hb1.out hB1.out⟩
   | false =>
    have hR9 : R = O ++ [(KB.data.toList, X)] := by simpa [withL] using hRO.symm
    subst hR9
    replace hG := hi_ hG
    replace hge := hi_ hge
    replace hRO := hi_ hRO
    obtain ⟨x0, x1, x2, x3, x4, x5⟩ := six_kept hx6.out hB1
    replace hB1 := hi_ hB1
    clear y0 y1 y2 y3 y4 y5
    go_upto_region 12 with (fail)
    refine wp_lin_tail (by kernel_rfl) [none, none, none, none, none, none, none, none, none, none, none, none, none, none, none, none, none, none, none, none, none, none, none, none, none, none, none, none, none, none, none, none, none, none, none, none, none, none, none, none, none, none, none, none, none, none, none, none, none, none, none, none, none, none, none, none, some 0, some 1, some 2, some 3, some 4, some 5, some 6, some 7, none, none] (fun w' => Below wr.heap.size wr w') (fun w' w'' => Below w'.heap.size w' w'') (GW w.heap.size u5 KB #[.int .i64 xk, .int .i64 xn, .slice F1 fn1 fc1, .slice F2 fn2 fc2, .slice F3 fn3 fc3] wr.heap.size X) (by rfl) (by kernel_rfl) 8 _ rfl (by decide) (by kernel_rfl) [8, 2, 6, 4, 5, 8, 7, 8, 0] (by kernel_rfl) ?hR ?mono (.cons 7 (step_of [6] rfl (by kernel_rfl) ?s7) (.cons 6 (step_of [2, 5] rfl (by kernel_rfl) ?s6) (.cons 5 (step_of [4] rfl (by kernel_rfl) ?s5) (.cons 4 (step_of [3] rfl (by kernel_rfl) ?s4) (.cons 3 (step_of [] rfl (by kernel_rfl) ?s3) (.cons 2 (step_of [1] rfl (by kernel_rfl) ?s2) (.cons 1 (step_of [] rfl (by kernel_rfl) ?s1) (.cons 0 (step_of [] rfl (by kernel_rfl) ?s0) (.nil))))))))) ?done
    case hR => exact (Below.refl _ _).drew
    case mono => exact GW_mono
    case s0 =>
     intro x w' hRw hd K' hK
     simp only [All, GW] at hd
     simp +decide only [upd, GW, fillL, if_true, if_false] at hK ⊢
     go_simp
     have hK2 := hK _ _ ⟨hRw, Below.refl _ _, rfl⟩
     exact hK2
    case s1 =>
     intro x w' hRw hd K' hK
     simp only [All, GW] at hd
     simp +decide only [upd, GW, fillL, if_true, if_false] at hK ⊢
     go_simp
     have hK2 := hK _ _ ⟨hRw, Below.refl _ _, rfl⟩
     exact hK2
    case s2 =>
     intro x w' hRw hd K' hK
     simp only [All, GW] at hd
     have tx0 := (hRw.cell (cell_lt x0)).trans x0
     simp +decide only [upd, GW, fillL, if_true, if_false] at hK ⊢
     try simp only [hd.1] at hK ⊢
     go_simp
     have hK2 := hK _ _ ⟨hRw, Below.refl _ _, rfl⟩
     exact hK2
    case s3 =>
     intro x w' hRw hd K' hK
     simp only [All, GW] at hd
     simp +decide only [upd, GW, fillL, if_true, if_false] at hK ⊢
     go_simp
     have hK2 := hK _ _ ⟨hRw, Below.refl _ _, rfl⟩
     exact hK2
    case s4 =>
     intro x w' hRw hd K' hK
     simp only [All, GW] at hd
     have tx1 := (hRw.cell (cell_lt x1)).trans x1
     have tx2 := (hRw.cell (cell_lt x2)).trans x2
     have tx3 := (hRw.cell (cell_lt x3)).trans x3
     have tx4 := (hRw.cell (cell_lt x4)).trans x4
     have tx5 := (hRw.cell (cell_lt x5)).trans x5
     simp +decide only [upd, GW, fillL, if_true, if_false] at hK ⊢
     try simp only [hd.1] at hK ⊢
     go_simp
     have hK2 := hK _ _ ⟨hRw, Below.refl _ _, rfl⟩
     exact hK2
    case s5 =>
     intro x w' hRw hd K' hK
     simp only [All, GW] at hd
     simp +decide only [upd, GW, fillL, if_true, if_false] at hK ⊢
     try simp only [hd.1] at hK ⊢
     go_simp
     refine (ck.out w' (bthen hB1.out hRw)).mono ?_
     rintro e' w2 ⟨us, rfl, hI6, hB6⟩
     obtain ⟨xn', G1, G2, G3, gn1, gc1, gn2, gc2, gn3, gc3, hx6'⟩ := ob_five2 hI6.ob
     subst hx6'
     have hK2 := hK _ _ ⟨bthen hRw hB6, hB6, _, _, _, _, _, w'.heap.size, w2.heap.size, rfl, hRw.size, hI6⟩
     exact hK2
    case s6 =>
     intro x w' hRw hd K' hK
     simp only [All, GW] at hd
     simp +decide only [upd, GW, fillL, if_true, if_false] at hK ⊢
     obtain ⟨h2, ⟨a, b, c, e, f, lo, hi', h5, hlo, hI⟩, _⟩ := hd
     simp only [h2, h5] at hK ⊢
     go_simp
     have hK2 := hK _ _ ⟨hRw, Below.refl _ _, a, b, c, e, f, lo, hi', rfl, hlo, hI⟩
     exact hK2
    case s7 =>
     intro x w' hRw hd K' hK
     simp only [All, GW] at hd
     simp +decide only [upd, GW, fillL, if_true, if_false] at hK ⊢
     obtain ⟨⟨a, b, c, e, f, lo, hi', h6, hlo, hI⟩, _⟩ := hd
     simp only [h6] at hK ⊢
     go_simp
     have hbn := (Below.refl w'.heap.size w').alloc (Nat.le_refl _) (.cells #[.string KB, a, b, c, e, f] 53)
     have hK2 := hK _ _ ⟨bthen hRw hbn, hbn, a, b, c, e, f, lo, hi', w'.heap.size, rfl, hlo, obI_below hI hbn, one_row w' [.string KB, a, b, c, e, f] rfl⟩
     exact hK2
    case done =>
     intro x w4 hR2' hG' fr hfr
     have a0 := hG' 0 (by omega)
     have a7 := hG' 7 (by omega)
     simp only [GW] at a0 a7
     clear hG'
     obtain ⟨xa, xb, xc, xd, xe, lo4, hi4, g7, a7, hlo4, hI4, hOX4⟩ := a7
     simp only [fillL] at hfr
     rw [a7] at hOX4
     rw [a0, a7] at hfr
     subst hfr
     clear a0 a7 x0 x1 x2 x3 x4 x5
     have hD4 : Below W1.heap.size W1 w4 := bthen hB1.out hR2'
     have hG4 := hG.out.below (ena_law kb) hR2'
     have hE4 : EnA kb lo4 hi4 w4 (KB.data.toList, X) [.string KB, xa, xb, xc, xd, xe] := ⟨⟨[xa, xb, xc, xd, xe], rfl, hKl.out, hI4⟩, .inl (by have := hB1.out.size; omega)⟩
     have hltw := World.ownsRow.lt hG.out.row
     have hap4 : ∀ g, u5.ownBlock = some g → g < lo4 ∨ hi4 ≤ g := fun g hg => by have := (hltw g hg).2; left; omega
     have hc4 : ∀ j u, [Value.string KB, xa, xb, xc, xd, xe][j]? = some u → w4.cell? ⟨g7, j, none⟩ = some u := fun j u hu => by
      have := World.ownsRow.cells (w := w4) (base := g7) (e := 53) (size := 6) (v := .slice (some ⟨g7, 0, none⟩) 1 1) (n := 1) (xs := [.string KB, xa, xb, xc, xd, xe]) hOX4 (g := g7) rfl j u hu
      rw [addr_add, Nat.zero_add] at this
      exact this
     have zR := hR2'.size
     have hlo9 : B ≤ lo4 := by omega
     replace hG4 := hi_ hG4
     replace hE4 := hi_ hE4
     replace hap4 := hi_ hap4
     replace hc4 := hi_ hc4
     replace hD4 := hi_ hD4
     replace hltw := hi_ hltw
     replace hI4 := hi_ hI4
     replace hOX4 := hi_ hOX4
     replace hR2' := hi_ hR2'
     refine app_ena rfl _ _ rfl B u5 O rss rfl hG4.out g7 lo4 hi4 _ _ rfl hE4.out hlo9 hap4.out hc4.out (by have := hOl.out; omega) (by omega) ?_
     intro v5 w5 hR5 hg5 hat5
     have hge5 : ∀ g, v5.ownBlock = some g → W1.heap.size ≤ g := fun g hg => by
      rcases hat5 with e | e
      ·exact hge.out g (e.symm.trans hg)
      ·rw [e] at hg; injection hg with hg; have := hD4.out.size; omega
     have hB5 : Below W1.heap.size W1 w5 := hD4.out.grown hg5 (hD4.out.size) (fun q hq => hge.out q hq)
     clear hg5 hat5
     go_wp2
     replace hR5 := hi_ hR5
     replace hge5 := hi_ hge5
     replace hB5 := hi_ hB5
     go_ret
     exact ⟨_, _, rfl, hR5.out, fun g hg => by have := hge5.out g hg; omega, bthen hb1.out hB5.out⟩
end Go.Proofs.YthacnnmlephkhaaGreatDoor

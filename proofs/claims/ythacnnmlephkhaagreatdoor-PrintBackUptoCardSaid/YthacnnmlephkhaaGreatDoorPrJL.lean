/- Walks and laws, joined: part L. No condition. -/
import Derived.Test.YthacnnmlephkhaaGreatDoorPrJK
import Derived.Test.YthacnnmlephkhaaGreatDoorPrJJ
import Derived.Test.YthacnnmlephkhaaGreatDoorPrJE
import Derived.Test.YthacnnmlephkhaaGreatDoorPrJA
import Derived.Test.YthacnnmlephkhaaGreatDoorPrJD
set_option linter.unusedSimpArgs false
set_option linter.unusedVariables false
/- The document's Item, of what is well made; NewParser. No condition. -/
namespace Go.Proofs.YthacnnmlephkhaaGreatDoor
open Go Go.RowKit Go.Wk Go.Rd Go.Fx
section
variable {L : Nat} {A : Option Addr} {c : Nat} {bs : Bs} {D P : Value} {w w' : World} {r r' u : Bs} {k : Tok}
theorem rp_WWok {pl : Bool} {lo hi : Int} (h : LX L A c bs D (.bool pl) w r) (hw : wantN lo hi r = .ok k u) : Calls Tryz.prog 52 #[.pointer (some ⟨L, 0, none⟩), .int .i64 lo, .int .i64 hi] w fun e w' => e = .returned (.tuple #[.int .i64 k.n, .int .i64 0]) ∧ LX L A c bs D (.bool pl) w' u ∧ Save L w w' := by
 have := rp_WantWhole lo hi h
 rw [hw] at this
 exact this
theorem rp_Wok {pl : Bool} {S : ByteArray} (h : LX L A c bs D (.bool pl) w r) (hw : wantW S.data.toList r = .ok k u) : Calls Tryz.prog 53 #[.pointer (some ⟨L, 0, none⟩), .string S] w fun e w' => e = .returned (.int .i64 0) ∧ LX L A c bs D (.bool pl) w' u ∧ Save L w w' := by
 have := rp_Want (S := S) h
 rw [hw] at this
 exact this
theorem rp_Vok {pl : Bool} {d : Nat} {o : Ob} (h : LX L A c bs (.int .i64 (d : Nat)) (.bool pl) w r) (hd : d ≤ 1001) (hsm : bs.length ≤ 60000000) (hv : valS pl d r = .ok o u) : Calls Tryz.prog 54 #[.pointer (some ⟨L, 0, none⟩)] w fun e w' => ∃ us, e = .returned (.tuple #[.agg (List.toArray us), .int .i64 0]) ∧ ObI w.heap.size w'.heap.size w' o us ∧ LX L A c bs (.int .i64 (d : Nat)) (.bool pl) w' u ∧ Save L w w' := by
 have := rp_Value h hd hsm
 rw [hv] at this
 exact this
theorem set_six_ {w : World} {R : Nat} {t : TypeId} {z0 z1 z2 z3 z4 z5 u0 u1 u2 u3 u4 u5 : Value} (hR : Blk w R t #[z0, z1, z2, z3, z4, z5]) {Wf : World}
 (hWf : Wf = (((((w.setCell ⟨R, 0, none⟩ u0).setCell ⟨R, 1, none⟩ u1).setCell ⟨R, 2, none⟩ u2).setCell ⟨R, 3, none⟩ u3).setCell ⟨R, 4, none⟩ u4).setCell ⟨R, 5, none⟩ u5) :
 Blk Wf R t #[u0, u1, u2, u3, u4, u5] ∧ w.grownBy Wf (some R) ∧ Wf.heap.size = w.heap.size := by
 have hg : w.grownBy Wf (some R) := by
  rw [hWf]
  exact (((((set_grown _ _ _ _).trans (set_grown _ _ _ _)).trans (set_grown _ _ _ _)).trans (set_grown _ _ _ _)).trans (set_grown _ _ _ _)).trans (set_grown _ _ _ _)
 refine ⟨?_, hg, by rw [hWf]; simp [World.setCell]⟩
 rw [hWf]; exact (((((hR.set_ 0 u0).set_ 1 u1).set_ 2 u2).set_ 3 u3).set_ 4 u4).set_ 5 u5
theorem _root_.Go.Wk.ObI.tall {lo hi hi' : Nat} {w : World} {o : Ob} {us : List Value} (h : ObI lo hi w o us) (h1 : hi ≤ hi') (h2 : hi' ≤ w.heap.size) : ObI lo hi' w o us :=
 ⟨h2, fun w' hk hs => h.2 w' (fun b h3 h4 => hk b h3 (by omega)) (by omega)⟩
set_option maxHeartbeats 16000000 in
set_option maxRecDepth 100000 in
theorem rp_Item_plain {pl : Bool} {dp : Nat} {t1 t2 t3 t4 : Tok} {u1 u2 u3 u4 u5 : Bs} {o : Ob} (h : LX L A c bs (.int .i64 (dp : Nat)) (.bool pl) w r) (hd : dp ≤ 1001) (hsm : bs.length ≤ 60000000)
 (hn1 : wantN 1 8388607 r = .ok t1 u1) (hn2 : wantN 0 0 u1 = .ok t2 u2) (hn3 : wantW [111, 98, 106] u2 = .ok t3 u3) (hv : valS pl dp u3 = .ok o u4) (hk : o.kind = 7 → kwS [115, 116, 114, 101, 97, 109] u4 = false) (hn4 : wantW [101, 110, 100, 111, 98, 106] u4 = .ok t4 u5) :
 Calls Tryz.prog 22 #[.pointer (some ⟨L, 0, none⟩)] w fun e w' => ∃ us, e = .returned (.tuple #[.agg (List.toArray (.int .i64 t1.n :: us)), .int .i64 0]) ∧ ObI w.heap.size w'.heap.size w' o us ∧ LX L A c bs (.int .i64 (dp : Nat)) (.bool pl) w' u5 ∧ Save L w w' := by
 have hLw := h.lt
 have hAw := h.a_lt
 obtain ⟨di, hdi⟩ : ∃ i : Int, i = (dp : Nat) := ⟨_, rfl⟩
 have c1 := fun W (h : LX L A c bs (.int .i64 (dp : Nat)) (.bool pl) W r) => rp_WWok h hn1
 have c2 := fun W (h : LX L A c bs (.int .i64 (dp : Nat)) (.bool pl) W u1) => rp_WWok h hn2
 have c3 := fun W (h : LX L A c bs (.int .i64 (dp : Nat)) (.bool pl) W u2) => rp_Wok (S := ⟨#[111, 98, 106]⟩) h hn3
 have c4 := fun W (h : LX L A c bs (.int .i64 (dp : Nat)) (.bool pl) W u3) => rp_Vok h hd hsm hv
 obtain ⟨W1, hW1⟩ : ∃ W, W = w.alloc (.cells #[.int .i64 0, .int .i64 0, .int .i64 0, .slice none 0 0, .slice none 0 0, .slice none 0 0] 41) := ⟨_, rfl⟩
 have b1 : Below w.heap.size w W1 := by rw [hW1]; exact (Below.refl _ _).alloc (Nat.le_refl _) _
 have z1 : W1.heap.size = w.heap.size + 1 := by rw [hW1, World.size_alloc]
 have hR := Blk.new w 41 #[.int .i64 0, .int .i64 0, .int .i64 0, .slice none 0 0, .slice none 0 0, .slice none 0 0]
 rw [← hW1] at hR
 have hL := h.below b1
 have hS := Save.of_below (L := L) b1
 have hneR : w.heap.size ≠ L := by omega
 obtain ⟨num, hnum⟩ : ∃ i : Int, i = t1.n := ⟨_, rfl⟩
 rw [← hnum] at c1 ⊢
 rw [← hdi] at c1 c2 c3 c4 hL ⊢
 replace hnum := hi_ hnum
 replace hdi := hi_ hdi
 replace c1 := hi_ c1
 replace c2 := hi_ c2
 replace c3 := hi_ c3
 replace c4 := hi_ c4
 replace hAw := hi_ hAw
 replace hL := hi_ hL
 replace hR := hi_ hR
 replace hS := hi_ hS
 replace z1 := hi_ z1
 replace hk := hi_ hk
 replace hn4 := hi_ hn4
 clear h b1 hn1 hn2 hn3 hv
 go_enter Tryz.func22, Tryz.ntmps22
 go_upto_region 1 with (fail)
 rw [← hW1]
 replace hW1 := hi_ hW1
 go_upto_region 6 with (first
  | (go_at_call 52; (with_reducible refine (c1.out _ hL.out).mono ?_); rintro e w2 ⟨rfl, hLn, hSn⟩; replace hL := hi_ hLn; replace hR := hi_ (hSn.blk hneR hR.out); replace hS := hi_ (hS.out.trans hSn); clear hLn hSn)
  | (go_at_call 52; (with_reducible refine (c2.out _ hL.out).mono ?_); rintro e w3 ⟨rfl, hLn, hSn⟩; replace hL := hi_ hLn; replace hR := hi_ (hSn.blk hneR hR.out); replace hS := hi_ (hS.out.trans hSn); clear hLn hSn)
  | (go_at_call 53; (with_reducible refine (c3.out _ hL.out).mono ?_); rintro e w4 ⟨rfl, hLn, hSn⟩; replace hL := hi_ hLn; replace hR := hi_ (hSn.blk hneR hR.out); replace hS := hi_ (hS.out.trans hSn); clear hLn hSn))
 obtain ⟨w5, hw5⟩ : ∃ W, W = w4.alloc (.cells #[.int .i64 0, .int .i64 0, .slice none 0 0, .slice none 0 0, .slice none 0 0] 26) := ⟨_, rfl⟩
 have b5 : Below w4.heap.size w4 w5 := by rw [hw5]; exact (Below.refl _ _).alloc (Nat.le_refl _) _
 have hO5 : Blk w5 w4.heap.size 26 #[.int .i64 0, .int .i64 0, .slice none 0 0, .slice none 0 0, .slice none 0 0] := by rw [hw5]; exact Blk.new w4 26 _
 have z4 : w.heap.size + 1 ≤ w4.heap.size := by have := hR.out.lt; omega
 have z5 := hO5.lt
 have hneO : w4.heap.size ≠ L := by omega
 replace hL := hi_ (hL.out.below b5)
 replace hR := hi_ (hR.out.below b5 hR.out.lt)
 replace hS := hi_ (hS.out.then_ b5)
 have hO := hi_ hO5
 have hS4 := hi_ (Save.refl L w5)
 clear b5 hO5
 go_upto_region 7 with (fail)
 rw [← hw5]
 replace hw5 := hi_ hw5
 go_upto_region 8 with (fail)
 have o0 := hO.out.cell 0
 have g0 := hO.out.frozen 0
 have o1 := hO.out.cell 1
 have g1 := hO.out.frozen 1
 have o2 := hO.out.cell 2
 have g2 := hO.out.frozen 2
 have o3 := hO.out.cell 3
 have g3 := hO.out.frozen 3
 have o4 := hO.out.cell 4
 have g4 := hO.out.frozen 4
 go_upto_region 9 with (go_at_call 54; (with_reducible refine (c4.out _ hL.out).mono ?_); rintro e w6 ⟨us, rfl, hIn, hLn, hSn⟩; obtain ⟨xn, F1, F2, F3, fn1, fc1, fn2, fc2, fn3, fc3, hxs⟩ := ob_five2 hIn.ob; obtain ⟨xk, hxk⟩ : ∃ k, k = o.kind := ⟨_, rfl⟩; rw [← hxk] at hxs; subst hxs; replace hxk := hi_ hxk; have zv := hSn.size; replace hL := hi_ hLn; replace hR := hi_ (hSn.blk hneR hR.out); replace hO := hi_ (hSn.blk hneO hO.out); replace hS := hi_ (hS.out.trans hSn); replace o0 := hO.out.cell 0; replace g0 := hO.out.frozen 0; replace o1 := hO.out.cell 1; replace g1 := hO.out.frozen 1; replace o2 := hO.out.cell 2; replace g2 := hO.out.frozen 2; replace o3 := hO.out.cell 3; replace g3 := hO.out.frozen 3; replace o4 := hO.out.cell 4; replace g4 := hO.out.frozen 4; have hI := hi_ hIn; clear hLn hSn hIn)
 obtain ⟨w7, hw7⟩ : ∃ W, W = ((((w6.setCell ⟨w4.heap.size, 0, none⟩ (.int .i64 xk)).setCell ⟨w4.heap.size, 1, none⟩ (.int .i64 xn)).setCell ⟨w4.heap.size, 2, none⟩ (.slice F1 fn1 fc1)).setCell ⟨w4.heap.size, 3, none⟩ (.slice F2 fn2 fc2)).setCell ⟨w4.heap.size, 4, none⟩ (.slice F3 fn3 fc3) := ⟨_, rfl⟩
 rw [← hw7]
 obtain ⟨hO7, hg7, hz7⟩ := set_five hO.out hw7
 have hR7 := hR.out.grown hg7 (fun e => by injection e with e; omega)
 have hI7 := (hI.out.keep (w' := w7) (fun q h1 h2 => hg7.block q (by have := hI.out.1; omega) (by intro e; injection e with e; omega)) (by omega))
 have hL7 := hL.out.grown_ hg7 hneO.symm (fun h0 y hy => by have := hAw.out h0 y hy; omega)
 have hS7 := hS.out.grown_ hg7 (by omega)
 have o0 := hO7.cell 0
 replace hR := hi_ hR7
 replace hI := hi_ hI7
 replace hL := hi_ hL7
 replace hS := hi_ hS7
 replace hO := hi_ hO7
 replace hw7 := hi_ hw7
 have zI := hI7.1
 clear hR7 hI7 hL7 hS7 hO7 hg7 hz7
 have c6 := fun W (h : LX L A c bs (.int .i64 di) (.bool pl) W u4) => rp_Wok (S := ⟨#[101, 110, 100, 111, 98, 106]⟩) h hn4.out
 replace c6 := hi_ c6
 by_cases hx7 : xk = 7
 ·have hkw := hk.out (by rw [← hxk.out]; exact hx7)
  subst hx7
  have c5 := rx_Keyword hL.out ⟨#[115, 116, 114, 101, 97, 109]⟩ (by decide) (by decide)
  have hkd : (ByteArray.data ⟨#[115, 116, 114, 101, 97, 109]⟩).toList = [115, 116, 114, 101, 97, 109] := rfl
  rw [hkd, hkw, if_neg (by decide)] at c5
  replace c5 := hi_ c5
  clear hkw hkd
  go_upto_region 13 with (go_at_call 55; (with_reducible refine c5.out.mono ?_); rintro e w8 ⟨rfl, hLn, hSn⟩; have zk := hSn.size; have hIn := hSn.obI (by omega) hI.out; replace hI := hi_ hIn; replace hL := hi_ hLn; replace hR := hi_ (hSn.blk hneR hR.out); replace hO := hi_ (hSn.blk hneO hO.out); replace hS := hi_ (hS.out.trans hSn); clear hLn hSn hIn)
  go_upto_region 15 with (go_at_call 53; (with_reducible refine (c6.out _ hL.out).mono ?_); rintro e w9 ⟨rfl, hLn, hSn⟩; have zw := hSn.size; have hIn := hSn.obI (by omega) hI.out; replace hI := hi_ hIn; replace hL := hi_ hLn; replace hR := hi_ (hSn.blk hneR hR.out); replace hO := hi_ (hSn.blk hneO hO.out); replace hS := hi_ (hS.out.trans hSn); clear hLn hSn hIn)
  have q0 := hO.out.cell 0
  have q1 := hO.out.cell 1
  have q2 := hO.out.cell 2
  have q3 := hO.out.cell 3
  have q4 := hO.out.cell 4
  have r0 := hR.out.cell 0
  have v0 := hR.out.frozen 0
  have r1 := hR.out.cell 1
  have v1 := hR.out.frozen 1
  have r2 := hR.out.cell 2
  have v2 := hR.out.frozen 2
  have r3 := hR.out.cell 3
  have v3 := hR.out.frozen 3
  have r4 := hR.out.cell 4
  have v4 := hR.out.frozen 4
  have r5 := hR.out.cell 5
  have v5 := hR.out.frozen 5
  go_wp2
  obtain ⟨Wf, hWf⟩ : ∃ W, W = (((((w9.setCell ⟨w.heap.size, 0, none⟩ (.int .i64 num)).setCell ⟨w.heap.size, 1, none⟩ (.int .i64 7)).setCell ⟨w.heap.size, 2, none⟩ (.int .i64 xn)).setCell ⟨w.heap.size, 3, none⟩ (.slice F1 fn1 fc1)).setCell ⟨w.heap.size, 4, none⟩ (.slice F2 fn2 fc2)).setCell ⟨w.heap.size, 5, none⟩ (.slice F3 fn3 fc3) := ⟨_, rfl⟩
  rw [← hWf]
  obtain ⟨hbf, hgf, hzf⟩ := set_six_ hR.out hWf
  have u0 := hbf.cell 0
  have u1 := hbf.cell 1
  have u2 := hbf.cell 2
  have u3 := hbf.cell 3
  have u4 := hbf.cell 4
  have u5 := hbf.cell 5
  have hIf := ((hI.out.keep (w' := Wf) (fun q h1 h2 => hgf.block q (by have := hI.out.1; omega) (by intro e; injection e with e; omega)) (by have := hI.out.1; omega)).tall (hi' := Wf.heap.size) (by have := hI.out.1; omega) (Nat.le_refl _)).wide (lo' := w.heap.size) (by omega)
  have hLf := hL.out.grown_ hgf hneR.symm (fun h0 y hy => by have := hAw.out h0 y hy; omega)
  have hSf := hS.out.grown_ hgf (Nat.le_refl _)
  replace hIf := hi_ hIf
  replace hLf := hi_ hLf
  replace hSf := hi_ hSf
  replace hWf := hi_ hWf
  clear hbf hgf
  exact bodyPost_ret (by simp [results, Tryz.results22, go_sem, u0, u1, u2, u3, u4, u5]; try rfl) rfl ⟨_, rfl, hIf.out, hLf.out, hSf.out⟩
 ·have hx71 : (xk == 7) = false := by simpa using hx7
  clear hx7
  go_upto_region 15 with (go_at_call 53; (with_reducible refine (c6.out _ hL.out).mono ?_); rintro e w9 ⟨rfl, hLn, hSn⟩; have zw := hSn.size; have hIn := hSn.obI (by omega) hI.out; replace hI := hi_ hIn; replace hL := hi_ hLn; replace hR := hi_ (hSn.blk hneR hR.out); replace hO := hi_ (hSn.blk hneO hO.out); replace hS := hi_ (hS.out.trans hSn); clear hLn hSn hIn)
  have q0 := hO.out.cell 0
  have q1 := hO.out.cell 1
  have q2 := hO.out.cell 2
  have q3 := hO.out.cell 3
  have q4 := hO.out.cell 4
  have r0 := hR.out.cell 0
  have v0 := hR.out.frozen 0
  have r1 := hR.out.cell 1
  have v1 := hR.out.frozen 1
  have r2 := hR.out.cell 2
  have v2 := hR.out.frozen 2
  have r3 := hR.out.cell 3
  have v3 := hR.out.frozen 3
  have r4 := hR.out.cell 4
  have v4 := hR.out.frozen 4
  have r5 := hR.out.cell 5
  have v5 := hR.out.frozen 5
  go_wp2
  obtain ⟨Wf, hWf⟩ : ∃ W, W = (((((w9.setCell ⟨w.heap.size, 0, none⟩ (.int .i64 num)).setCell ⟨w.heap.size, 1, none⟩ (.int .i64 xk)).setCell ⟨w.heap.size, 2, none⟩ (.int .i64 xn)).setCell ⟨w.heap.size, 3, none⟩ (.slice F1 fn1 fc1)).setCell ⟨w.heap.size, 4, none⟩ (.slice F2 fn2 fc2)).setCell ⟨w.heap.size, 5, none⟩ (.slice F3 fn3 fc3) := ⟨_, rfl⟩
  rw [← hWf]
  obtain ⟨hbf, hgf, hzf⟩ := set_six_ hR.out hWf
  have u0 := hbf.cell 0
  have u1 := hbf.cell 1
  have u2 := hbf.cell 2
  have u3 := hbf.cell 3
  have u4 := hbf.cell 4
  have u5 := hbf.cell 5
  have hIf := ((hI.out.keep (w' := Wf) (fun q h1 h2 => hgf.block q (by have := hI.out.1; omega) (by intro e; injection e with e; omega)) (by have := hI.out.1; omega)).tall (hi' := Wf.heap.size) (by have := hI.out.1; omega) (Nat.le_refl _)).wide (lo' := w.heap.size) (by omega)
  have hLf := hL.out.grown_ hgf hneR.symm (fun h0 y hy => by have := hAw.out h0 y hy; omega)
  have hSf := hS.out.grown_ hgf (Nat.le_refl _)
  replace hIf := hi_ hIf
  replace hLf := hi_ hLf
  replace hSf := hi_ hSf
  replace hWf := hi_ hWf
  clear hbf hgf
  exact bodyPost_ret (by simp [results, Tryz.results22, go_sem, u0, u1, u2, u3, u4, u5]; try rfl) rfl ⟨_, rfl, hIf.out, hLf.out, hSf.out⟩
set_option maxHeartbeats 16000000 in
set_option maxRecDepth 100000 in
theorem rp_Item_stream {pl : Bool} {dp : Nat} {t1 t2 t3 t4 t5 : Tok} {u1 u2 u3 u4 u5 u6 x t b : Bs} {n : Int} {l : List Ob} {d : List (Bs × Ob)} (h : LX L A c bs (.int .i64 (dp : Nat)) (.bool pl) w r) (hd : dp ≤ 1001) (hsm : bs.length ≤ 60000000)
 (hn1 : wantN 1 8388607 r = .ok t1 u1) (hn2 : wantN 0 0 u1 = .ok t2 u2) (hn3 : wantW [111, 98, 106] u2 = .ok t3 u3) (hv : valS pl dp u3 = .ok (.mk 7 n b l d) u4) (hk : kwS [115, 116, 114, 101, 97, 109] u4 = true) (hrest : (blankM false u4).drop 6 = 10 :: (x ++ t))
 (hget : Ob.get lengB (.mk 7 n b l d) = .mk 2 x.length [] [] []) (hbk : (Ob.mk 7 n b l d).bulk ≤ 100000000) (ht : 0 < t.length) (hn5 : wantW [101, 110, 100, 115, 116, 114, 101, 97, 109] (eolR t).2 = .ok t5 u5) (hn4 : wantW [101, 110, 100, 111, 98, 106] u5 = .ok t4 u6) :
 Calls Tryz.prog 22 #[.pointer (some ⟨L, 0, none⟩)] w fun e w' => ∃ us, e = .returned (.tuple #[.agg (List.toArray (.int .i64 t1.n :: us)), .int .i64 0]) ∧ ObI w.heap.size w'.heap.size w' (.mk 8 n x l (putE lengB (.mk 0 0 [] [] []) d)) us ∧ LX L A c bs (.int .i64 (dp : Nat)) (.bool pl) w' u6 ∧ Save L w w' := by
 have hLw := h.lt
 have hAw := h.a_lt
 obtain ⟨di, hdi⟩ : ∃ i : Int, i = (dp : Nat) := ⟨_, rfl⟩
 have c1 := fun W (h : LX L A c bs (.int .i64 (dp : Nat)) (.bool pl) W r) => rp_WWok h hn1
 have c2 := fun W (h : LX L A c bs (.int .i64 (dp : Nat)) (.bool pl) W u1) => rp_WWok h hn2
 have c3 := fun W (h : LX L A c bs (.int .i64 (dp : Nat)) (.bool pl) W u2) => rp_Wok (S := ⟨#[111, 98, 106]⟩) h hn3
 have c4 := fun W (h : LX L A c bs (.int .i64 (dp : Nat)) (.bool pl) W u3) => rp_Vok h hd hsm hv
 obtain ⟨W1, hW1⟩ : ∃ W, W = w.alloc (.cells #[.int .i64 0, .int .i64 0, .int .i64 0, .slice none 0 0, .slice none 0 0, .slice none 0 0] 41) := ⟨_, rfl⟩
 have b1 : Below w.heap.size w W1 := by rw [hW1]; exact (Below.refl _ _).alloc (Nat.le_refl _) _
 have z1 : W1.heap.size = w.heap.size + 1 := by rw [hW1, World.size_alloc]
 have hR := Blk.new w 41 #[.int .i64 0, .int .i64 0, .int .i64 0, .slice none 0 0, .slice none 0 0, .slice none 0 0]
 rw [← hW1] at hR
 have hL := h.below b1
 have hS := Save.of_below (L := L) b1
 have hneR : w.heap.size ≠ L := by omega
 obtain ⟨num, hnum⟩ : ∃ i : Int, i = t1.n := ⟨_, rfl⟩
 rw [← hnum] at c1 ⊢
 rw [← hdi] at c1 c2 c3 c4 hL ⊢
 replace hnum := hi_ hnum
 replace hdi := hi_ hdi
 replace c1 := hi_ c1
 replace c2 := hi_ c2
 replace c3 := hi_ c3
 replace c4 := hi_ c4
 replace hAw := hi_ hAw
 replace hL := hi_ hL
 replace hR := hi_ hR
 replace hS := hi_ hS
 replace z1 := hi_ z1
 replace hk := hi_ hk
 replace hn4 := hi_ hn4
 replace hn5 := hi_ hn5
 replace hrest := hi_ hrest
 replace hget := hi_ hget
 replace hbk := hi_ hbk
 replace ht := hi_ ht
 clear h b1 hn1 hn2 hn3 hv
 go_enter Tryz.func22, Tryz.ntmps22
 go_upto_region 1 with (fail)
 rw [← hW1]
 replace hW1 := hi_ hW1
 go_upto_region 6 with (first
  | (go_at_call 52; (with_reducible refine (c1.out _ hL.out).mono ?_); rintro e w2 ⟨rfl, hLn, hSn⟩; replace hL := hi_ hLn; replace hR := hi_ (hSn.blk hneR hR.out); replace hS := hi_ (hS.out.trans hSn); clear hLn hSn)
  | (go_at_call 52; (with_reducible refine (c2.out _ hL.out).mono ?_); rintro e w3 ⟨rfl, hLn, hSn⟩; replace hL := hi_ hLn; replace hR := hi_ (hSn.blk hneR hR.out); replace hS := hi_ (hS.out.trans hSn); clear hLn hSn)
  | (go_at_call 53; (with_reducible refine (c3.out _ hL.out).mono ?_); rintro e w4 ⟨rfl, hLn, hSn⟩; replace hL := hi_ hLn; replace hR := hi_ (hSn.blk hneR hR.out); replace hS := hi_ (hS.out.trans hSn); clear hLn hSn))
 obtain ⟨w5, hw5⟩ : ∃ W, W = w4.alloc (.cells #[.int .i64 0, .int .i64 0, .slice none 0 0, .slice none 0 0, .slice none 0 0] 26) := ⟨_, rfl⟩
 have b5 : Below w4.heap.size w4 w5 := by rw [hw5]; exact (Below.refl _ _).alloc (Nat.le_refl _) _
 have hO5 : Blk w5 w4.heap.size 26 #[.int .i64 0, .int .i64 0, .slice none 0 0, .slice none 0 0, .slice none 0 0] := by rw [hw5]; exact Blk.new w4 26 _
 have z4 : w.heap.size + 1 ≤ w4.heap.size := by have := hR.out.lt; omega
 have z5 := hO5.lt
 have hneO : w4.heap.size ≠ L := by omega
 replace hL := hi_ (hL.out.below b5)
 replace hR := hi_ (hR.out.below b5 hR.out.lt)
 replace hS := hi_ (hS.out.then_ b5)
 have hO := hi_ hO5
 have hS4 := hi_ (Save.refl L w5)
 clear b5 hO5
 go_upto_region 7 with (fail)
 rw [← hw5]
 replace hw5 := hi_ hw5
 go_upto_region 8 with (fail)
 have o0 := hO.out.cell 0
 have g0 := hO.out.frozen 0
 have o1 := hO.out.cell 1
 have g1 := hO.out.frozen 1
 have o2 := hO.out.cell 2
 have g2 := hO.out.frozen 2
 have o3 := hO.out.cell 3
 have g3 := hO.out.frozen 3
 have o4 := hO.out.cell 4
 have g4 := hO.out.frozen 4
 go_upto_region 9 with (go_at_call 54; (with_reducible refine (c4.out _ hL.out).mono ?_); rintro e w6 ⟨us, rfl, hIn, hLn, hSn⟩; obtain ⟨xn, F1, F2, F3, fn1, fc1, fn2, fc2, fn3, fc3, hxs⟩ := ob_five2 hIn.ob; obtain ⟨xk, hxk⟩ : ∃ k, k = (Ob.mk 7 n b l d).kind := ⟨_, rfl⟩; rw [← hxk] at hxs; subst hxs; replace hxk := hi_ hxk; have zv := hSn.size; replace hL := hi_ hLn; replace hR := hi_ (hSn.blk hneR hR.out); replace hO := hi_ (hSn.blk hneO hO.out); replace hS := hi_ (hS.out.trans hSn); replace o0 := hO.out.cell 0; replace g0 := hO.out.frozen 0; replace o1 := hO.out.cell 1; replace g1 := hO.out.frozen 1; replace o2 := hO.out.cell 2; replace g2 := hO.out.frozen 2; replace o3 := hO.out.cell 3; replace g3 := hO.out.frozen 3; replace o4 := hO.out.cell 4; replace g4 := hO.out.frozen 4; have hI := hi_ hIn; clear hLn hSn hIn)
 obtain ⟨w7, hw7⟩ : ∃ W, W = ((((w6.setCell ⟨w4.heap.size, 0, none⟩ (.int .i64 xk)).setCell ⟨w4.heap.size, 1, none⟩ (.int .i64 xn)).setCell ⟨w4.heap.size, 2, none⟩ (.slice F1 fn1 fc1)).setCell ⟨w4.heap.size, 3, none⟩ (.slice F2 fn2 fc2)).setCell ⟨w4.heap.size, 4, none⟩ (.slice F3 fn3 fc3) := ⟨_, rfl⟩
 rw [← hw7]
 obtain ⟨hO7, hg7, hz7⟩ := set_five hO.out hw7
 have hR7 := hR.out.grown hg7 (fun e => by injection e with e; omega)
 have hI7 := (hI.out.keep (w' := w7) (fun q h1 h2 => hg7.block q (by have := hI.out.1; omega) (by intro e; injection e with e; omega)) (by omega))
 have hL7 := hL.out.grown_ hg7 hneO.symm (fun h0 y hy => by have := hAw.out h0 y hy; omega)
 have hS7 := hS.out.grown_ hg7 (by omega)
 have o0 := hO7.cell 0
 replace hR := hi_ hR7
 replace hI := hi_ hI7
 replace hL := hi_ hL7
 replace hS := hi_ hS7
 replace hO := hi_ hO7
 replace hw7 := hi_ hw7
 have zI := hI7.1
 clear hR7 hI7 hL7 hS7 hO7 hg7 hz7
 obtain rfl : xk = 7 := hxk.out
 have c6 := fun W (h : LX L A c bs (.int .i64 di) (.bool pl) W u5) => rp_Wok (S := ⟨#[101, 110, 100, 111, 98, 106]⟩) h hn4.out
 have c7 := fun W (h : LX L A c bs (.int .i64 di) (.bool pl) W (eolR t).2) => rp_Wok (S := ⟨#[101, 110, 100, 115, 116, 114, 101, 97, 109]⟩) h hn5.out
 replace c6 := hi_ c6
 replace c7 := hi_ c7
 have c5 := rx_Keyword hL.out ⟨#[115, 116, 114, 101, 97, 109]⟩ (by decide) (by decide)
 have hkd : (ByteArray.data ⟨#[115, 116, 114, 101, 97, 109]⟩).toList = [115, 116, 114, 101, 97, 109] := rfl
 have hks : ByteArray.size ⟨#[115, 116, 114, 101, 97, 109]⟩ = 6 := rfl
 rw [hkd, hk.out, if_pos rfl, hks, hrest.out] at c5
 replace c5 := hi_ c5
 clear hkd hks
 go_upto_region 10 with (go_at_call 55; (with_reducible refine c5.out.mono ?_); rintro e w8 ⟨rfl, hLn, hSn⟩; have zk := hSn.size; have hIn := hSn.obI (by omega) hI.out; replace hI := hi_ hIn; replace hL := hi_ hLn; replace hR := hi_ (hSn.blk hneR hR.out); replace hO := hi_ (hSn.blk hneO hO.out); replace hS := hi_ (hS.out.trans hSn); clear hLn hSn hIn)
 clear o0 o1 o2 o3 o4 g0 g1 g2 g3 g4
 have o0 := hO.out.cell 0
 have g0 := hO.out.frozen 0
 have o1 := hO.out.cell 1
 have g1 := hO.out.frozen 1
 have o2 := hO.out.cell 2
 have g2 := hO.out.frozen 2
 have o3 := hO.out.cell 3
 have g3 := hO.out.frozen 3
 have o4 := hO.out.cell 4
 have g4 := hO.out.frozen 4
 have cdt := rp_data hL.out hI.out (by omega) hbk.out hget.out ht.out
 replace cdt := hi_ cdt
 go_upto_region 11 with (go_at_call 56; (with_reducible refine cdt.out.mono ?_); rintro e w9 ⟨us9, rfl, hIn, hLn, hSn⟩; obtain ⟨yk, yn, H1, H2, H3, hn1, hc1, hn2, hc2, hn3, hc3, hxs⟩ := five_ex hIn.ob; subst hxs; have zd := hSn.size; replace hL := hi_ hLn; replace hR := hi_ (hSn.blk hneR hR.out); replace hO := hi_ (hSn.blk hneO hO.out); replace hS := hi_ (hS.out.trans hSn); replace o0 := hO.out.cell 0; replace g0 := hO.out.frozen 0; replace o1 := hO.out.cell 1; replace g1 := hO.out.frozen 1; replace o2 := hO.out.cell 2; replace g2 := hO.out.frozen 2; replace o3 := hO.out.cell 3; replace g3 := hO.out.frozen 3; replace o4 := hO.out.cell 4; replace g4 := hO.out.frozen 4; replace hI := hi_ hIn; clear hLn hSn hIn)
 obtain ⟨w10, hw10⟩ : ∃ W, W = ((((w9.setCell ⟨w4.heap.size, 0, none⟩ (.int .i64 yk)).setCell ⟨w4.heap.size, 1, none⟩ (.int .i64 yn)).setCell ⟨w4.heap.size, 2, none⟩ (.slice H1 hn1 hc1)).setCell ⟨w4.heap.size, 3, none⟩ (.slice H2 hn2 hc2)).setCell ⟨w4.heap.size, 4, none⟩ (.slice H3 hn3 hc3) := ⟨_, rfl⟩
 rw [← hw10]
 obtain ⟨hO7, hg7, hz7⟩ := set_five hO.out hw10
 have hR7 := hR.out.grown hg7 (fun e => by injection e with e; omega)
 have hI7 := (hI.out.keep (w' := w10) (fun q h1 h2 => hg7.block q (by have := hI.out.1; omega) (by intro e; injection e with e; omega)) (by omega))
 have hL7 := hL.out.grown_ hg7 hneO.symm (fun h0 y hy => by have := hAw.out h0 y hy; omega)
 have hS7 := hS.out.grown_ hg7 (by omega)
 clear o0 o1 o2 o3 o4 g0 g1 g2 g3 g4
 replace hR := hi_ hR7
 replace hI := hi_ hI7
 replace hL := hi_ hL7
 replace hS := hi_ hS7
 replace hO := hi_ hO7
 replace hw10 := hi_ hw10
 have zJ := hI7.1
 clear hR7 hI7 hL7 hS7 hO7 hg7 hz7
 go_upto_region 13 with (go_at_call 53; (with_reducible refine (c7.out _ hL.out).mono ?_); rintro e w11 ⟨rfl, hLn, hSn⟩; have ze := hSn.size; have hIn := hSn.obI (by omega) hI.out; replace hI := hi_ hIn; replace hL := hi_ hLn; replace hR := hi_ (hSn.blk hneR hR.out); replace hO := hi_ (hSn.blk hneO hO.out); replace hS := hi_ (hS.out.trans hSn); clear hLn hSn hIn)
 go_upto_region 15 with (go_at_call 53; (with_reducible refine (c6.out _ hL.out).mono ?_); rintro e w12 ⟨rfl, hLn, hSn⟩; have zw := hSn.size; have hIn := hSn.obI (by omega) hI.out; replace hI := hi_ hIn; replace hL := hi_ hLn; replace hR := hi_ (hSn.blk hneR hR.out); replace hO := hi_ (hSn.blk hneO hO.out); replace hS := hi_ (hS.out.trans hSn); clear hLn hSn hIn)
 have q0 := hO.out.cell 0
 have q1 := hO.out.cell 1
 have q2 := hO.out.cell 2
 have q3 := hO.out.cell 3
 have q4 := hO.out.cell 4
 have r0 := hR.out.cell 0
 have v0 := hR.out.frozen 0
 have r1 := hR.out.cell 1
 have v1 := hR.out.frozen 1
 have r2 := hR.out.cell 2
 have v2 := hR.out.frozen 2
 have r3 := hR.out.cell 3
 have v3 := hR.out.frozen 3
 have r4 := hR.out.cell 4
 have v4 := hR.out.frozen 4
 have r5 := hR.out.cell 5
 have v5 := hR.out.frozen 5
 go_wp2
 obtain ⟨Wf, hWf⟩ : ∃ W, W = (((((w12.setCell ⟨w.heap.size, 0, none⟩ (.int .i64 num)).setCell ⟨w.heap.size, 1, none⟩ (.int .i64 yk)).setCell ⟨w.heap.size, 2, none⟩ (.int .i64 yn)).setCell ⟨w.heap.size, 3, none⟩ (.slice H1 hn1 hc1)).setCell ⟨w.heap.size, 4, none⟩ (.slice H2 hn2 hc2)).setCell ⟨w.heap.size, 5, none⟩ (.slice H3 hn3 hc3) := ⟨_, rfl⟩
 rw [← hWf]
 obtain ⟨hbf, hgf, hzf⟩ := set_six_ hR.out hWf
 have u0 := hbf.cell 0
 have u1 := hbf.cell 1
 have u2 := hbf.cell 2
 have u3 := hbf.cell 3
 have u4 := hbf.cell 4
 have u5 := hbf.cell 5
 have hIf := ((hI.out.keep (w' := Wf) (fun q h1 h2 => hgf.block q (by have := hI.out.1; omega) (by intro e; injection e with e; omega)) (by have := hI.out.1; omega)).tall (hi' := Wf.heap.size) (by have := hI.out.1; omega) (Nat.le_refl _)).wide (lo' := w.heap.size) (by omega)
 have hLf := hL.out.grown_ hgf hneR.symm (fun h0 y hy => by have := hAw.out h0 y hy; omega)
 have hSf := hS.out.grown_ hgf (Nat.le_refl _)
 replace hIf := hi_ hIf
 replace hLf := hi_ hLf
 replace hSf := hi_ hSf
 replace hWf := hi_ hWf
 clear hbf hgf
 exact bodyPost_ret (by simp [results, Tryz.results22, go_sem, u0, u1, u2, u3, u4, u5]; try rfl) rfl ⟨_, rfl, hIf.out, hLf.out, hSf.out⟩
end
end Go.Proofs.YthacnnmlephkhaaGreatDoor

/- What is printed of an object with its number is read back, plain. No condition. -/
namespace Go.Proofs.YthacnnmlephkhaaGreatDoor
open Go Go.Wk Go.Rd Go.Fx
theorem tok_nl (r : Bs) : tokS (10 :: r) = tokS r := by
 have w : whiteB 10 = true := by decide
 unfold tokS
 rw [blankM, w]; rfl
theorem val_nl (pl : Bool) (d : Nat) (r : Bs) : valS pl d (10 :: r) = valS pl d r := by
 have hb : blankM false (10 :: r) = blankM false r := by
  have w : whiteB 10 = true := by decide
  rw [blankM, w]; rfl
 rw [valS.eq_def, valS.eq_def, tok_nl, hb]
theorem head_back {num : Int} (h1 : 1 ≤ num) (h2 : num ≤ 8388607) (Y : Bs) : ∃ u1 u2 t2 t3, wantN 1 8388607 ((numT num true ++ objL) ++ Y) = .ok ⟨1, num, []⟩ u1 ∧ wantN 0 0 u1 = .ok t2 u2 ∧ wantW [111, 98, 106] u2 = .ok t3 (10 :: Y) := by
 refine ⟨objL ++ Y, 32 :: 111 :: 98 :: 106 :: 10 :: Y, ⟨1, 0, []⟩, ⟨9, 0, [111, 98, 106]⟩, ?_, ?_, ?_⟩
 ·rw [List.append_assoc]
  exact n_yes (tok_num (w := true) (by unfold isIn; simp; omega) (fun _ => by omega) (sep_cons (by decide))) ⟨rfl, h1, h2⟩
 ·have e0 : numT 0 true = [48] := by unfold numT Lib.itoa; rw [if_pos rfl, if_neg (by decide), Lib.decDigits]; rfl
  have e : numT 0 true ++ (32 :: 111 :: 98 :: 106 :: 10 :: Y) = 48 :: 32 :: 111 :: 98 :: 106 :: 10 :: Y := by rw [e0]; rfl
  have ht := tok_num (n := 0) (w := true) (T := 32 :: 111 :: 98 :: 106 :: 10 :: Y) (by decide) (fun _ => by omega) (sep_cons (by decide))
  rw [e] at ht
  refine n_yes (k := ⟨1, 0, []⟩) ?_ ⟨rfl, by decide, by decide⟩
  show tokS (32 :: 48 :: 32 :: 111 :: 98 :: 106 :: 10 :: Y) = _
  rw [tok_sp]
  exact ht
 ·refine w_yes (k := ⟨9, 0, [111, 98, 106]⟩) ?_ ⟨rfl, rfl⟩
  rw [tok_sp]
  exact tok_word (l := [111, 98, 106]) rfl (by decide) (by decide) (by decide) (by decide) (by decide) (sep_cons (by decide))
theorem endo_tok : tokS endoL = .ok ⟨9, 0, [101, 110, 100, 111, 98, 106]⟩ [10] := by
 show tokS (10 :: ([101, 110, 100, 111, 98, 106] ++ [10])) = _
 rw [tok_nl]
 exact tok_word (l := [101, 110, 100, 111, 98, 106]) rfl (by decide) (by decide) (by decide) (by decide) (by decide) (sep_cons (by decide))
theorem endo_want : wantW [101, 110, 100, 111, 98, 106] endoL = .ok ⟨9, 0, [101, 110, 100, 111, 98, 106]⟩ [10] := w_yes endo_tok ⟨rfl, rfl⟩
theorem plain_back {num : Int} {o : Ob} (h1 : 1 ≤ num) (h2 : num ≤ 8388607) (hm : o.may 28 = true) (h8 : o.kind ≠ 8) :
 ∃ t2 t3 t4 u1 u2 u3 u4 u5, wantN 1 8388607 ((numT num true ++ objL) ++ (o.show ++ endoL)) = .ok ⟨1, num, []⟩ u1 ∧ wantN 0 0 u1 = .ok t2 u2 ∧ wantW [111, 98, 106] u2 = .ok t3 u3 ∧ valS false 28 u3 = .ok o u4 ∧ kwS [115, 116, 114, 101, 97, 109] u4 = false ∧ wantW [101, 110, 100, 111, 98, 106] u4 = .ok t4 u5 := by
 obtain ⟨u1, u2, t2, t3, a1, a2, a3⟩ := head_back h1 h2 (o.show ++ endoL)
 refine ⟨t2, t3, _, u1, u2, _, endoL, _, a1, a2, a3, ?_, by decide, endo_want⟩
 rw [val_nl]
 exact val_back 28 o hm h8 endoL (sep_cons (by decide)) (nr_tok endo_tok (by decide))
theorem pw_ne {d : List (Bs × Ob)} {K : Bs} (h : ∀ e ∈ d, (e.1 == K) = false) (e : Bs × Ob) (he : e ∈ d) : e.1 ≠ K := fun e2 => by have := h e he; rw [e2] at this; simp at this
theorem with_drop (K : Bs) (X : Ob) : ∀ (d : List (Bs × Ob)), withL K X true d = d.filter fun e => !(e.1 == K)
 | [] => rfl
 | e :: r => by
  rw [with_step, Bool.true_or, with_drop K X r]
  by_cases hk : e.1 = K
  ·simp [hk]
  ·have : (e.1 == K) = false := by simpa using hk
   simp [hk, this]
theorem put_null (K : Bs) (d : List (Bs × Ob)) : putE K (.mk 0 0 [] [] []) d = d.filter fun e => !(e.1 == K) := with_drop K _ d
theorem ins_drop {K : Bs} {X : Ob} {d : List (Bs × Ob)} (h : ∀ e ∈ d, (e.1 == K) = false) : putE K (.mk 0 0 [] [] []) (insE K X d) = d := by
 rw [put_null]
 unfold insE
 rw [List.filter_append, List.filter_append]
 have hf : ∀ (l : List (Bs × Ob)), (∀ e ∈ l, e ∈ d) → l.filter (fun e => !(e.1 == K)) = l := fun l hl => List.filter_eq_self.2 fun e he => by rw [h e (hl e he)]; rfl
 rw [hf _ (fun e he => List.mem_of_mem_take he), hf _ (fun e he => List.mem_of_mem_drop he)]
 simp
theorem ins_may {g n : Nat} {d : List (Bs × Ob)} (hn : n ≤ 2147483647) (h : mayD g d = true) : mayD g (insE lenL (numO n) d) = true := by
 rw [mayD_all, List.all_eq_true] at h ⊢
 intro e he
 rcases insE_mem he with rfl | he
 ·have hi : (Ob.mk 2 (n : Int) [] [] []).may g = true := by unfold Ob.may; simp [spareB]; omega
  have hno : nameOk lenL = true := by decide
  show (nameOk lenL && (numO n).kind != 0 && ((numO n).kind != 8 && Ob.may g (numO n))) = true
  unfold numO
  rw [hi, hno]
  rfl
 ·exact h e he
theorem lt_tot : ∀ a b : Bs, ltB a b = false → a ≠ b → ltB b a = true
 | [], [], _, h => absurd rfl h
 | [], _ :: _, h, _ => by simp [ltB] at h
 | _ :: _, [], _, _ => rfl
 | x :: a, y :: b, h1, h2 => by
  unfold ltB at h1 ⊢
  simp only [UInt8.lt_iff_toNat_lt] at h1 ⊢
  split at h1
  ·cases h1
  ·split at h1
   ·rename_i g1 g2
    rw [if_pos g2]
   ·rename_i g1 g2
    have e : x = y := UInt8.toNat_inj.1 (by omega)
    subst e
    rw [if_neg (by omega), if_neg (by omega)]
    exact lt_tot a b h1 (fun e => h2 (by rw [e]))
theorem rises_of : ∀ (d : List (Bs × Ob)), d.Pairwise (fun a b => ltB a.1 b.1 = true) → risesB d = true
 | [], _ => rfl
 | [a], _ => rfl
 | a :: b :: r, h => by
  have h1 := List.pairwise_cons.1 h
  simp only [risesB, Bool.and_eq_true]
  exact ⟨h1.1 b (by simp), rises_of (b :: r) h1.2⟩
theorem ins_cons (K : Bs) (X : Ob) (e : Bs × Ob) (r : List (Bs × Ob)) : insE K X (e :: r) = if ltB e.1 K = true then e :: insE K X r else (K, X) :: e :: r := by
 unfold insE placeE
 by_cases h : ltB e.1 K = true
 ·rw [if_pos h, List.takeWhile_cons, if_pos h]; simp
 ·rw [if_neg h, List.takeWhile_cons, if_neg h]; simp
theorem ins_pair {K : Bs} {X : Ob} : ∀ (d : List (Bs × Ob)), (∀ e ∈ d, (e.1 == K) = false) → d.Pairwise (fun a b => ltB a.1 b.1 = true) → (insE K X d).Pairwise (fun a b => ltB a.1 b.1 = true)
 | [], _, _ => by unfold insE placeE; simp
 | e :: r, hk, h => by
  have h1 := List.pairwise_cons.1 h
  rw [ins_cons]
  split
  ·rename_i hlt
   refine List.pairwise_cons.2 ⟨fun x hx => ?_, ins_pair r (fun y hy => hk y (List.mem_cons_of_mem _ hy)) h1.2⟩
   rcases insE_mem hx with rfl | hx
   ·exact hlt
   ·exact h1.1 x hx
  ·rename_i hlt
   have hb : ltB K e.1 = true := lt_tot e.1 K (by simpa using hlt) (pw_ne hk e (by simp))
   refine List.pairwise_cons.2 ⟨fun x hx => ?_, h⟩
   rcases List.mem_cons.1 hx with rfl | hx
   ·exact hb
   ·exact lt_trans hb (h1.1 x hx)
theorem find_ins {K : Bs} {X : Ob} {d : List (Bs × Ob)} (h : ∀ e ∈ d, (e.1 == K) = false) : (insE K X d).find? (fun e => e.1 == K) = some (K, X) := by
 unfold insE
 rw [List.find?_append, List.find?_append]
 have h1 : (d.take (placeE K d)).find? (fun e => e.1 == K) = none := List.find?_eq_none.2 fun e he => by rw [h e (List.mem_of_mem_take he)]; decide
 rw [h1]
 simp
theorem stm_may {b : Bs} {d : List (Bs × Ob)} (hm : (Ob.mk 8 0 b [] d).may 28 = true) (hno : ∀ e ∈ d, (e.1 == lenL) = false) : (Ob.mk 7 0 [] [] (insE lenL (numO b.length) d)).may 28 = true ∧ b.length ≤ 16777216 := by
 unfold Ob.may at hm ⊢
 simp [spareB] at hm ⊢
 obtain ⟨⟨hr, hb⟩, hd⟩ := hm
 exact ⟨⟨rises_of _ (ins_pair d hno (rises_all d hr)), ins_may (by omega) hd⟩, hb⟩
theorem stream_back {num : Int} {b : Bs} {d : List (Bs × Ob)} (h1 : 1 ≤ num) (h2 : num ≤ 8388607) (hm : (Ob.mk 8 0 b [] d).may 28 = true) (hno : ∀ e ∈ d, (e.1 == lenL) = false) :
 ∃ t2 t3 t4 t5 u1 u2 u3 u4 u5 u6 t, wantN 1 8388607 ((numT num true ++ objL) ++ (itmB (.mk 8 0 b [] d) ++ endoL)) = .ok ⟨1, num, []⟩ u1 ∧ wantN 0 0 u1 = .ok t2 u2 ∧ wantW [111, 98, 106] u2 = .ok t3 u3 ∧ valS false 28 u3 = .ok (.mk 7 0 [] [] (insE lenL (numO b.length) d)) u4 ∧ kwS [115, 116, 114, 101, 97, 109] u4 = true ∧ (blankM false u4).drop 6 = 10 :: (b ++ t) ∧ 0 < t.length ∧
  Ob.get lengB (.mk 7 0 [] [] (insE lenL (numO b.length) d)) = .mk 2 b.length [] [] [] ∧ putE lengB (.mk 0 0 [] [] []) (insE lenL (numO b.length) d) = d ∧ wantW [101, 110, 100, 115, 116, 114, 101, 97, 109] (eolR t).2 = .ok t5 u5 ∧ wantW [101, 110, 100, 111, 98, 106] u5 = .ok t4 u6 := by
 obtain ⟨u1, u2, t2, t3, a1, a2, a3⟩ := head_back h1 h2 (itmB (.mk 8 0 b [] d) ++ endoL)
 obtain ⟨hmd, hbl⟩ := stm_may hm hno
 have hsh : itmB (.mk 8 0 b [] d) ++ endoL = (Ob.mk 7 0 [] [] (insE lenL (numO b.length) d)).show ++ (10 :: ([115, 116, 114, 101, 97, 109] ++ (10 :: (b ++ (endsL ++ endoL))))) := by
  simp [itmB, dictB, strmL, Ob.show]
 have hst : tokS (10 :: ([115, 116, 114, 101, 97, 109] ++ (10 :: (b ++ (endsL ++ endoL))))) = .ok ⟨9, 0, [115, 116, 114, 101, 97, 109]⟩ (10 :: (b ++ (endsL ++ endoL))) := by
  rw [tok_nl]
  exact tok_word (l := [115, 116, 114, 101, 97, 109]) rfl (by decide) (by decide) (by decide) (by decide) (by decide) (sep_cons (by decide))
 have hv : valS false 28 (10 :: (itmB (.mk 8 0 b [] d) ++ endoL)) = .ok (.mk 7 0 [] [] (insE lenL (numO b.length) d)) (10 :: ([115, 116, 114, 101, 97, 109] ++ (10 :: (b ++ (endsL ++ endoL))))) := by
  rw [val_nl, hsh]
  exact val_back 28 _ hmd (by show (7 : Int) ≠ 8; decide) _ (sep_cons (by decide)) (nr_tok hst (by decide))
 have hbk : blankM false (10 :: ([115, 116, 114, 101, 97, 109] ++ (10 :: (b ++ (endsL ++ endoL))))) = [115, 116, 114, 101, 97, 109] ++ (10 :: (b ++ (endsL ++ endoL))) := by
  have w : whiteB 10 = true := by decide
  rw [blankM, w]
  exact blank_here (c := 115) (r := 116 :: 114 :: 101 :: 97 :: 109 :: 10 :: (b ++ (endsL ++ endoL))) (by decide) (by decide)
 have hes : tokS (eolR (endsL ++ endoL)).2 = .ok ⟨9, 0, [101, 110, 100, 115, 116, 114, 101, 97, 109]⟩ endoL := by
  show tokS ([101, 110, 100, 115, 116, 114, 101, 97, 109] ++ endoL) = _
  exact tok_word (l := [101, 110, 100, 115, 116, 114, 101, 97, 109]) rfl (by decide) (by decide) (by decide) (by decide) (by decide) (sep_cons (by decide))
 refine ⟨t2, t3, _, _, u1, u2, _, _, _, _, endsL ++ endoL, a1, a2, a3, hv, ?_, ?_, by decide, ?_, ins_drop hno, w_yes hes ⟨rfl, rfl⟩, endo_want⟩
 ·unfold kwS
  rw [hbk]
  rfl
 ·rw [hbk]; rfl
 ·show (match (insE lenL (numO b.length) d).find? (fun e => e.1 == lenL) with | some e => e.2 | none => zeroO) = _
  rw [find_ins hno]
  rfl
end Go.Proofs.YthacnnmlephkhaaGreatDoor

/- The document's NewParser, at the deepest. No condition. -/
namespace Go.Proofs.YthacnnmlephkhaaGreatDoor
open Go Go.RowKit Go.Wk Go.Rd Go.Fx
set_option maxHeartbeats 4000000 in
set_option maxRecDepth 100000 in
theorem rp_New (A : Option Addr) (c : Nat) (bs : Bs) (w : World) (hby : Byt w A bs) (hcap : bs.length ≤ c) (hsm : bs.length ≤ 1000000000) :
 Calls Tryz.prog 21 #[.slice A bs.length c, .int .i64 28] w fun e w' => e = .returned (.pointer (some ⟨w.heap.size, 0, none⟩)) ∧ LX w.heap.size A c bs (.int .i64 ((28 : Nat) : Int)) (.bool false) w' bs ∧ Below w.heap.size w w' := by
 obtain ⟨n, hn⟩ : ∃ n, n = bs.length := ⟨_, rfl⟩
 have key : LX w.heap.size A c bs (.int .i64 ((28 : Nat) : Int)) (.bool false) (w.alloc (.cells #[.slice A bs.length c, .int .i64 0, .int .i64 28, .bool false] 73)) bs := by
  have hb : Below w.heap.size w (w.alloc (.cells #[.slice A bs.length c, .int .i64 0, .int .i64 28, .bool false] 73)) := (Below.refl _ _).alloc (Nat.le_refl _) _
  have hp : pos bs bs = 0 := by unfold pos; omega
  refine ⟨?_, hby.below hb, fun h0 x hx e => ?_, List.suffix_refl _, hcap, hsm⟩
  ·have := Blk.new w 73 #[.slice A bs.length c, .int .i64 0, .int .i64 28, .bool false]
   rw [hp]
   exact this
  ·obtain ⟨g, o, e2, hc⟩ := hby.2 h0
   rw [hx] at e2
   injection e2 with e2
   have := cell_lt (hc 0 h0)
   rw [e2] at e
   have e3 : g = w.heap.size := e
   have h4 : g < w.heap.size := this
   omega
 have hb : Below w.heap.size w (w.alloc (.cells #[.slice A bs.length c, .int .i64 0, .int .i64 28, .bool false] 73)) := (Below.refl _ _).alloc (Nat.le_refl _) _
 rw [← hn] at key hb ⊢
 replace key := hi_ key
 replace hb := hi_ hb
 replace hn := hi_ hn
 clear hby
 go_enter Tryz.func21, Tryz.ntmps21
 go_wp2
 go_ret
 exact ⟨rfl, key.out, hb.out⟩

/- The document's reader over what is printed of an object with its number. No condition. -/
theorem may_spare {n : Int} {b : Bs} {l : List Ob} {d : List (Bs × Ob)} (h : (Ob.mk 8 n b l d).may 28 = true) : n = 0 ∧ l = [] := by
 unfold Ob.may at h
 simp [spareB] at h
 exact h.1
theorem item_read {num : Int} {o : Ob} (hg : itemB num o = true) (hbk : o.bulk ≤ 1048576) {L c : Nat} {A : Option Addr} {w : World} (h : LX L A c (itmS num o) (.int .i64 ((28 : Nat) : Int)) (.bool false) w (itmS num o)) (hsm : (itmS num o).length ≤ 60000000) :
 Calls Tryz.prog 22 #[.pointer (some ⟨L, 0, none⟩)] w fun e w' => ∃ us, e = .returned (.tuple #[.agg (List.toArray (.int .i64 num :: us)), .int .i64 0]) ∧ ObI w.heap.size w'.heap.size w' o us ∧ Save L w w' := by
 have hg0 := hg
 unfold itemB at hg
 simp only [Bool.and_eq_true, decide_eq_true_eq, Bool.not_eq_true'] at hg
 obtain ⟨⟨⟨h1, h2⟩, hm⟩, hn⟩ := hg
 have hS : itmS num o = (numT num true ++ objL) ++ (itmB o ++ endoL) := by unfold itmS; rw [if_pos hg0]
 by_cases h8 : o.kind = 8
 ·cases o with
  | mk k n b l d =>
   have h8 : k = 8 := h8
   subst h8
   obtain ⟨rfl, rfl⟩ := may_spare hm
   have hgk : (Ob.get lenL (.mk 8 0 b [] d)).kind = 0 := by
    have hk8 : (Ob.mk 8 0 b [] d).kind = 8 := rfl
    rw [hk8] at hn
    simpa using hn
   have hno := get_null hm rfl hgk rfl
   obtain ⟨t2, t3, t4, t5, u1, u2, u3, u4, u5, u6, t, a1, a2, a3, a4, a5, a6, a7, a8, a9, a10, a11⟩ := stream_back h1 h2 hm hno
   rw [← hS] at a1
   have hb : (Ob.mk 7 0 [] [] (insE lenL (numO b.length) d)).bulk ≤ 100000000 := by
    have e1 := insE_bulk lenL (numO b.length) d
    rw [numO_bulk] at e1
    have e2 : (Ob.mk 8 0 b [] d).bulk = b.length + bulkL [] + bulkD d + 1 := rfl
    have e3 : (Ob.mk 7 0 [] [] (insE lenL (numO b.length) d)).bulk = 0 + bulkL [] + bulkD (insE lenL (numO b.length) d) + 1 := rfl
    have e4 : lenL.length = 6 := rfl
    omega
   refine (rp_Item_stream h (by decide) hsm a1 a2 a3 a4 a5 a6 a8 hb a7 a10 a11).mono fun e w' hq => ?_
   obtain ⟨us, e1, e2, _, e3⟩ := hq
   rw [a9] at e2
   exact ⟨us, e1, e2, e3⟩
 ·obtain ⟨t2, t3, t4, u1, u2, u3, u4, u5, a1, a2, a3, a4, a5, a6⟩ := plain_back h1 h2 hm h8
  have hB : itmB o = o.show := by
   cases o with
   | mk k n b l d =>
    have h8 : k ≠ 8 := h8
    simp only [itmB, if_neg h8]
  rw [hB] at hS
  rw [← hS] at a1
  refine (rp_Item_plain h (by decide) hsm a1 a2 a3 a4 (fun _ => a5) a6).mono fun e w' hq => ?_
  obtain ⟨us, e1, e2, _, e3⟩ := hq
  exact ⟨us, e1, e2, e3⟩
end Go.Proofs.YthacnnmlephkhaaGreatDoor

/- Bytes of an object with its number: what is refused, and what is no Stream. No condition. -/
namespace Go.Proofs.YthacnnmlephkhaaGreatDoor
open Go Go.RowKit Go.Wk
theorem six_cells41 {w : World} {v0 v1 v2 v3 v4 v5 : Value} {W : World} (hW : W = w.alloc (.cells #[v0, v1, v2, v3, v4, v5] 41)) :
 W.cell? ⟨w.heap.size, 0, none⟩ = some v0 ∧ W.cell? ⟨w.heap.size, 1, none⟩ = some v1 ∧ W.cell? ⟨w.heap.size, 2, none⟩ = some v2 ∧ W.cell? ⟨w.heap.size, 3, none⟩ = some v3 ∧ W.cell? ⟨w.heap.size, 4, none⟩ = some v4 ∧ W.cell? ⟨w.heap.size, 5, none⟩ = some v5 := by
 subst hW
 refine ⟨?_, ?_, ?_, ?_, ?_, ?_⟩ <;> simp
def RBC (w : World) (bs : List UInt8) (e : Ending) (w' : World) : Prop := ∃ A c, e = .returned (.slice A bs.length c) ∧ Byt w' A bs ∧ ((A = none → c = 0) ∧ bs.length ≤ c) ∧ Below w.heap.size w w'
theorem cur_OfC (w : World) (g c n : Nat) (ls : List (List UInt8)) (vs : List Value) (hP : Lib.PartsAt w ⟨g, 0, none⟩ vs ls) (hn : ls.length = n) (h2 : 2 ≤ n) (hc : n ≤ c) (hn2 : n ≤ 100) (hl : Lib.lens ls ≤ 70368744177664) :
 Calls Tryz.prog 42 #[.slice (some ⟨g, 0, none⟩) n c] w (RBC w ls.flatten) := by
 have cj := Tryz.bytes_Join_many g 0 n c vs ls (.slice none 0 0) [] w hn h2 hP hc ⟨none, 0, rfl, fun _ => rfl, fun a e => (by cases e)⟩ (by omega) (by simp; omega)
 rw [join_flat] at cj
 clear hP
 go_enter Tryz.func42, Tryz.ntmps42
 go_wp2_with (go_at_call 71; (with_reducible refine cj.mono ?_); rintro e w1 ⟨v, rfl, hF, hB⟩; replace hF := hi_ hF; replace hB := hi_ hB)
 go_ret
 obtain ⟨A, c', rfl, h3, h4⟩ := fresh_byt hF.out
 obtain ⟨g, cap, zs, e, _, hcap, _⟩ := hF.out
 injection e with _ _ e
 exact ⟨A, c', rfl, h3, ⟨h4, by omega⟩, hB.out⟩
theorem cur_Of3 (W : World) (A1 A2 A3 : Option Addr) (c1 c2 c3 : Nat) (l1 l2 l3 : List UInt8) (h1 : Byt W A1 l1) (h2 : Byt W A2 l2) (h3 : Byt W A3 l3) (hl : l1.length + l2.length + l3.length ≤ 1000000000) :
 Calls Tryz.prog 42 #[.slice (some ⟨W.heap.size, 0, none⟩) 3 3] (W.alloc (.cells #[.slice A1 l1.length c1, .slice A2 l2.length c2, .slice A3 l3.length c3] 22)) (RBC (W.alloc (.cells #[.slice A1 l1.length c1, .slice A2 l2.length c2, .slice A3 l3.length c3] 22)) (l1 ++ (l2 ++ l3))) := by
 have hb : Below W.heap.size W (W.alloc (.cells #[.slice A1 l1.length c1, .slice A2 l2.length c2, .slice A3 l3.length c3] 22)) := (Below.refl _ _).alloc (Nat.le_refl _) _
 have h := cur_OfC (W.alloc (.cells #[.slice A1 l1.length c1, .slice A2 l2.length c2, .slice A3 l3.length c3] 22)) W.heap.size 3 3 [l1, l2, l3] [.slice A1 l1.length c1, .slice A2 l2.length c2, .slice A3 l3.length c3] ⟨rfl, fun i v hv => by
  have h0 := alloc_cell (w := W) (vs := #[.slice A1 l1.length c1, .slice A2 l2.length c2, .slice A3 l3.length c3]) (e := 22) (i := i)
  rw [addr_add]
  refine h0.trans ?_
  rw [← hv]
  match i with
  | 0 => rfl
  | 1 => rfl
  | 2 => rfl
  | k + 3 => rfl, fun i v l hv hl => by
  match i with
  | 0 => cases hv; cases hl; exact byt_holds (h1.below hb) c1
  | 1 => cases hv; cases hl; exact byt_holds (h2.below hb) c2
  | 2 => cases hv; cases hl; exact byt_holds (h3.below hb) c3
  | k + 3 => cases hv⟩ rfl (by omega) (by omega) (by omega) (by simp [Lib.lens]; omega)
 simpa using h
theorem cur_Of5 (W : World) (A1 A2 A3 A4 A5 : Option Addr) (c1 c2 c3 c4 c5 : Nat) (l1 l2 l3 l4 l5 : List UInt8) (h1 : Byt W A1 l1) (h2 : Byt W A2 l2) (h3 : Byt W A3 l3) (h4 : Byt W A4 l4) (h5 : Byt W A5 l5) (hl : l1.length + l2.length + l3.length + l4.length + l5.length ≤ 1000000000) :
 Calls Tryz.prog 42 #[.slice (some ⟨W.heap.size, 0, none⟩) 5 5] (W.alloc (.cells #[.slice A1 l1.length c1, .slice A2 l2.length c2, .slice A3 l3.length c3, .slice A4 l4.length c4, .slice A5 l5.length c5] 22)) (RBC (W.alloc (.cells #[.slice A1 l1.length c1, .slice A2 l2.length c2, .slice A3 l3.length c3, .slice A4 l4.length c4, .slice A5 l5.length c5] 22)) (l1 ++ (l2 ++ (l3 ++ (l4 ++ l5))))) := by
 have hb : Below W.heap.size W (W.alloc (.cells #[.slice A1 l1.length c1, .slice A2 l2.length c2, .slice A3 l3.length c3, .slice A4 l4.length c4, .slice A5 l5.length c5] 22)) := (Below.refl _ _).alloc (Nat.le_refl _) _
 have h := cur_OfC (W.alloc (.cells #[.slice A1 l1.length c1, .slice A2 l2.length c2, .slice A3 l3.length c3, .slice A4 l4.length c4, .slice A5 l5.length c5] 22)) W.heap.size 5 5 [l1, l2, l3, l4, l5] [.slice A1 l1.length c1, .slice A2 l2.length c2, .slice A3 l3.length c3, .slice A4 l4.length c4, .slice A5 l5.length c5] ⟨rfl, fun i v hv => by
  have h0 := alloc_cell (w := W) (vs := #[.slice A1 l1.length c1, .slice A2 l2.length c2, .slice A3 l3.length c3, .slice A4 l4.length c4, .slice A5 l5.length c5]) (e := 22) (i := i)
  rw [addr_add]
  refine h0.trans ?_
  rw [← hv]
  match i with
  | 0 => rfl
  | 1 => rfl
  | 2 => rfl
  | 3 => rfl
  | 4 => rfl
  | k + 5 => rfl, fun i v l hv hl => by
  match i with
  | 0 => cases hv; cases hl; exact byt_holds (h1.below hb) c1
  | 1 => cases hv; cases hl; exact byt_holds (h2.below hb) c2
  | 2 => cases hv; cases hl; exact byt_holds (h3.below hb) c3
  | 3 => cases hv; cases hl; exact byt_holds (h4.below hb) c4
  | 4 => cases hv; cases hl; exact byt_holds (h5.below hb) c5
  | k + 5 => cases hv⟩ rfl (by omega) (by omega) (by omega) (by simp [Lib.lens]; omega)
 simpa using h
theorem field0 (q : Int) (u1 u2 u3 u4 : Value) (w : World) : (Instr.field 26 (.agg #[.int .i64 q, u1, u2, u3, u4]) 0).run Tryz.prog w = .ok (.int .i64 q) w := by kernel_rfl
set_option maxHeartbeats 4000000 in
set_option maxRecDepth 100000 in
theorem item_no (num : Int) (hn : i64 num) (o : Ob) (vs : List Value) (w : World) (h : ObAt w o vs) (hbk : o.bulk ≤ 1048576) (hbad : itemB num o = false) : Calls Tryz.prog 17 #[.agg (List.toArray (.int .i64 num :: vs))] w (VI w num o) := by
 obtain ⟨en, E1, E2, E3, en1, ec1, en2, ec2, en3, ec3, hys⟩ := ob_five2 h
 subst hys
 obtain ⟨k, hk⟩ : ∃ k, k = o.kind := ⟨_, rfl⟩
 obtain ⟨W1, hW1⟩ : ∃ W, W = w.alloc (.cells #[.int .i64 num, .int .i64 k, .int .i64 en, .slice E1 en1 ec1, .slice E2 en2 ec2, .slice E3 en3 ec3] 41) := ⟨_, rfl⟩
 obtain ⟨W2, hW2⟩ : ∃ W, W = W1.alloc (.cells #[.int .i64 k, .int .i64 en, .slice E1 en1 ec1, .slice E2 en2 ec2, .slice E3 en3 ec3] 26) := ⟨_, rfl⟩
 have hb1 : Below w.heap.size w W1 := by rw [hW1]; exact (Below.refl _ _).alloc (Nat.le_refl _) _
 have z1 : W1.heap.size = w.heap.size + 1 := by rw [hW1, World.size_alloc]
 have hb12 : Below W1.heap.size W1 W2 := by rw [hW2]; exact (Below.refl _ _).alloc (Nat.le_refl _) _
 have hb2 : Below w.heap.size w W2 := bthen hb1 hb12
 have ff := five_cells hW2
 rw [z1] at ff
 obtain ⟨f0, f1, f2, f3, f4⟩ := id ff
 obtain ⟨g0, g1, g2, g3, g4, g5⟩ := six_cells41 hW1
 have g0' := (hb12.cell (cell_lt g0)).trans g0
 have cm := cos_May o _ W2 (h.kept hb2) hbk
 have cg := fun W (hW : Below W2.heap.size W2 W) => cos_Get o _ W (h.kept (bthen hb2 hW)) hbk lenB
 replace z1 := hi_ z1
 have hv : ∀ w', Below w.heap.size w w' → VI w num o (.returned (.tuple #[.slice none 0 0, .int .i64 1])) w' := fun w' hB => VI.no hbad hB
 have hbad2 : ¬ (1 ≤ num ∧ num ≤ 8388607 ∧ o.may 28 = true ∧ ¬ (k = 8 ∧ (Ob.get lenL o).kind ≠ 0)) := fun ⟨a, b, c, d⟩ => by
  have : itemB num o = true := by
   unfold itemB
   rw [decide_eq_true a, decide_eq_true b, c, ← hk]
   by_cases h8 : k = 8 <;> by_cases hq : (Ob.get lenL o).kind = 0 <;> simp_all
  rw [this] at hbad; cases hbad
 rw [← hk] at cm cg ⊢
 obtain ⟨m, hm⟩ : ∃ m, m = o.may 28 := ⟨_, rfl⟩
 obtain ⟨q, hq⟩ : ∃ q, q = (Ob.get lenL o).kind := ⟨_, rfl⟩
 rw [← hm] at cm
 rw [← hm, ← hq] at hbad2
 have cg2 : ∀ W (hW : Below W2.heap.size W2 W), Calls Tryz.prog 40 #[.agg #[.int .i64 k, .int .i64 en, .slice E1 en1 ec1, .slice E2 en2 ec2, .slice E3 en3 ec3], .string ⟨#[76, 101, 110, 103, 116, 104]⟩] W fun e w' => ∃ u1 u2 u3 u4, e = .returned (.agg #[.int .i64 q, u1, u2, u3, u4]) ∧ Below W.heap.size W w' := fun W hW => (cg W hW).mono fun e w' ⟨us, h1, h2, h3⟩ => by
  obtain ⟨gn, G1, G2, G3, gn1, gc1, gn2, gc2, gn3, gc3, hus⟩ := ob_five2 h2.ob
  subst hus
  have e1 : (Ob.get lenB.data.toList o).kind = q := hq.symm
  rw [e1] at h1
  exact ⟨_, _, _, _, h1, h3⟩
 clear h hbad hk cg hm hq
 replace hn := hi_ hn
 replace hb1 := hi_ hb1
 replace hb12 := hi_ hb12
 replace hb2 := hi_ hb2
 replace ff := hi_ ff
 replace hv := hi_ hv
 replace cg2 := hi_ cg2
 by_cases t1 : num < 1
 ·have d1 : decide (num < 1) = true := decide_eq_true t1
  clear hbad2 cm
  go_enter Tryz.func17, Tryz.ntmps17
  go_upto_region 2 with (fail)
  rw [← hW1, ← hW2]
  replace hW1 := hi_ hW1
  replace hW2 := hi_ hW2
  go_wp2
  go_ret2
  exact hv.out _ hb2.out
 have d1 : decide (num < 1) = false := decide_eq_false t1
 by_cases t2 : 8388607 < num
 ·have d2 : decide (8388607 < num) = true := decide_eq_true t2
  clear hbad2 cm
  go_enter Tryz.func17, Tryz.ntmps17
  go_upto_region 2 with (fail)
  rw [← hW1, ← hW2]
  replace hW1 := hi_ hW1
  replace hW2 := hi_ hW2
  go_wp2
  go_ret2
  exact hv.out _ hb2.out
 have d2 : decide (8388607 < num) = false := decide_eq_false t2
 cases m with
 | false =>
  clear hbad2
  go_enter Tryz.func17, Tryz.ntmps17
  go_upto_region 2 with (fail)
  rw [← hW1, ← hW2]
  replace hW1 := hi_ hW1
  replace hW2 := hi_ hW2
  go_wp2_with (go_at_call 30; (with_reducible refine cm.mono ?_); rintro e w3 ⟨rfl, hB3⟩; replace hB3 := hi_ hB3)
  all_goals
   go_ret2
   exact hv.out _ (bthen hb2.out hB3.out)
 | true =>
  by_cases h8 : k = 8
  ·subst h8
   have hq0 : q ≠ 0 := fun e => hbad2 ⟨by omega, by omega, rfl, fun h => h.2 e⟩
   have e0 : (q == 0) = false := by simpa using hq0
   have e1 : (q != 0) = true := by simpa using hq0
   have hfd := field0 q
   clear hbad2 hq0
   go_enter Tryz.func17, Tryz.ntmps17
   go_upto_region 2 with (fail)
   rw [← hW1, ← hW2]
   replace hW1 := hi_ hW1
   replace hW2 := hi_ hW2
   go_wp2_with (first
    | (go_at_call 30; (with_reducible refine cm.mono ?_); rintro e w3 ⟨rfl, hB3⟩; have cg := cg2.out w3 hB3; obtain ⟨f0, f1, f2, f3, f4⟩ := five_kept ff.out hB3; replace hB3 := hi_ hB3)
    | (go_at_call 40; (with_reducible refine cg.mono ?_); rintro e w4 ⟨u1, u2, u3, u4, rfl, hB4⟩; replace hB4 := hi_ hB4))
   go_ret2
   exact hv.out _ (bthen hb2.out (bthen hB3.out hB4.out))
  ·exact (hbad2 ⟨by omega, by omega, rfl, fun h => h8 h.1⟩).elim
theorem row_head (W : World) (l : List UInt8) (TB : ByteArray) (hTB : TB = ⟨l.toArray⟩) (H : List UInt8) (hH : H = l ++ objL) (hl : l.length ≤ 100) : Calls Tryz.prog 34 #[.slice (some ⟨W.heap.size, 0, none⟩) 2 2] (W.alloc (.cells #[.string TB, .string ⟨#[32, 48, 32, 111, 98, 106, 10]⟩] 9)) (RB W H) :=
 by subst hTB; subst hH; exact row2b W l objL (by simp [objL]; omega)
theorem row_endo (W : World) : Calls Tryz.prog 34 #[.slice (some ⟨W.heap.size, 0, none⟩) 1 1] (W.alloc (.cells #[.string ⟨#[10, 101, 110, 100, 111, 98, 106, 10]⟩] 9)) (RB W endoL) :=
 row1b W endoL (by simp [endoL])
set_option maxHeartbeats 4000000 in
set_option maxRecDepth 100000 in
theorem item_obj (num : Int) (hn : i64 num) (o : Ob) (vs : List Value) (w : World) (h : ObAt w o vs) (hbk : o.bulk ≤ 1048576) (hT : Tab w) (hgood : itemB num o = true) (hk8 : o.kind ≠ 8) : Calls Tryz.prog 17 #[.agg (List.toArray (.int .i64 num :: vs))] w (VIC w num o) := by
 obtain ⟨en, E1, E2, E3, en1, ec1, en2, ec2, en3, ec3, hys⟩ := ob_five2 h
 subst hys
 obtain ⟨k, hk⟩ : ∃ k, k = o.kind := ⟨_, rfl⟩
 obtain ⟨W1, hW1⟩ : ∃ W, W = w.alloc (.cells #[.int .i64 num, .int .i64 k, .int .i64 en, .slice E1 en1 ec1, .slice E2 en2 ec2, .slice E3 en3 ec3] 41) := ⟨_, rfl⟩
 obtain ⟨W2, hW2⟩ : ∃ W, W = W1.alloc (.cells #[.int .i64 k, .int .i64 en, .slice E1 en1 ec1, .slice E2 en2 ec2, .slice E3 en3 ec3] 26) := ⟨_, rfl⟩
 have hb1 : Below w.heap.size w W1 := by rw [hW1]; exact (Below.refl _ _).alloc (Nat.le_refl _) _
 have z1 : W1.heap.size = w.heap.size + 1 := by rw [hW1, World.size_alloc]
 have hb12 : Below W1.heap.size W1 W2 := by rw [hW2]; exact (Below.refl _ _).alloc (Nat.le_refl _) _
 have hb2 : Below w.heap.size w W2 := bthen hb1 hb12
 have ff := five_cells hW2
 rw [z1] at ff
 obtain ⟨f0, f1, f2, f3, f4⟩ := id ff
 obtain ⟨g0, g1, g2, g3, g4, g5⟩ := six_cells41 hW1
 have g0' := (hb12.cell (cell_lt g0)).trans g0
 have gg := fun W (hW : Below W2.heap.size W2 W) => (hW.cell (cell_lt g0')).trans g0'
 have cm := cos_May o _ W2 (h.kept hb2) hbk
 have cs := fun W (hW : Below W2.heap.size W2 W) => prt_show_all o _ W (h.kept (bthen hb2 hW)) hbk (hT.below (bthen hb2 hW))
 have ct := fun W (hW : Below W2.heap.size W2 W) => fixed_Text_whole num hn W (hT.below (bthen hb2 hW))
 have zt := numT_le num hn
 have zs := show_len o h.fits
 have hend : itmS num o = (numT num true ++ objL) ++ (o.show ++ endoL) := by
  unfold itmS
  rw [if_pos hgood]
  cases o with
  | mk k' n b l d =>
   have : itmB (.mk k' n b l d) = (Ob.mk k' n b l d).show := by
    show (if k' = 8 then _ else _) = _
    rw [if_neg (show ¬ k' = 8 from hk8)]
   rw [this]
 have hz : itmZ num o = 0 := by unfold itmZ; rw [if_pos hgood]
 have hg2 := hgood
 unfold itemB at hg2
 simp only [Bool.and_eq_true, decide_eq_true_eq] at hg2
 obtain ⟨⟨⟨t1, t2⟩, t3⟩, _⟩ := hg2
 have hfin : ∀ A c w', Byt w' A ((numT num true ++ objL) ++ (o.show ++ endoL)) → ((numT num true ++ objL) ++ (o.show ++ endoL)).length ≤ c → Below w.heap.size w w' → VIC w num o (.returned (.tuple #[.slice A ((numT num true ++ objL) ++ (o.show ++ endoL)).length c, .int .i64 0])) w' := fun A c w' h1 hcc h2 => ⟨A, c, by rw [hend, hz], by rw [hend]; exact h1, by rw [hend]; exact hcc, h2⟩
 rw [← hk] at cm hk8 ⊢
 rw [← hk] at cs
 rw [t3] at cm
 obtain ⟨S, hS⟩ : ∃ S, S = o.show := ⟨_, rfl⟩
 obtain ⟨T, hT2⟩ : ∃ T, T = numT num true := ⟨_, rfl⟩
 obtain ⟨TB, hTB⟩ : ∃ B : ByteArray, B = ⟨T.toArray⟩ := ⟨_, rfl⟩
 have ct2 : ∀ W, Below W2.heap.size W2 W → Calls Tryz.prog 41 #[.int .i64 num, .bool true] W fun e w' => e = .returned (.string TB) ∧ Below W.heap.size W w' := by rw [hTB, hT2]; exact ct
 rw [← hS] at cs hfin zs
 rw [← hT2] at hfin zt
 obtain ⟨H, hH⟩ : ∃ H, H = T ++ objL := ⟨_, rfl⟩
 obtain ⟨R, hR⟩ : ∃ R, R = H ++ (S ++ endoL) := ⟨_, rfl⟩
 rw [← hH, ← hR] at hfin
 have zH : H.length ≤ 110 := by rw [hH]; simp only [List.length_append, objL, List.length_cons, List.length_nil]; omega
 have d1 : decide (num < 1) = false := decide_eq_false (by omega)
 have d2 : decide (8388607 < num) = false := decide_eq_false (by omega)
 have d3 : (k == 8) = false := by simpa using hk8
 clear h hgood hk t1 t2 t3 ct hend hz hk8 hS hT2 hT
 replace hn := hi_ hn
 replace hb1 := hi_ hb1
 replace hb12 := hi_ hb12
 replace hb2 := hi_ hb2
 replace ff := hi_ ff
 replace gg := hi_ gg
 replace cs := hi_ cs
 replace ct2 := hi_ ct2
 replace hfin := hi_ hfin
 replace z1 := hi_ z1
 replace hTB := hi_ hTB
 replace hH := hi_ hH
 replace hR := hi_ hR
 go_enter Tryz.func17, Tryz.ntmps17
 go_upto_region 2 with (fail)
 rw [← hW1, ← hW2]
 replace hW1 := hi_ hW1
 replace hW2 := hi_ hW2
 go_wp2_with (first
  | (go_at_call 30; (with_reducible refine cm.mono ?_); rintro e w3 ⟨rfl, hB3⟩; have g3' := gg.out w3 hB3; have ct3 := ct2.out w3 hB3; have cr4 := fun W => row_head W T TB hTB.out H hH.out zt; replace cr4 := hi_ cr4; replace hB3 := hi_ hB3)
  | (go_at_call 41; (with_reducible refine ct3.mono ?_); rintro e w4 ⟨rfl, hB4⟩; have cr5 := cr4.out w4; have hD4 := bthen hB3.out hB4; replace hB4 := hi_ hB4; replace hD4 := hi_ hD4)
  | (go_at_call 34; (with_reducible refine cr5.mono ?_); rintro e w5 ⟨A5, c5, rfl, hb5, hA5, hB5⟩; have hD5 := bthen hD4.out hB5; obtain ⟨f0, f1, f2, f3, f4⟩ := five_kept ff.out hD5; have cs5 := cs.out w5 hD5; replace hB5 := hi_ hB5; replace hD5 := hi_ hD5; replace hb5 := hi_ hb5; replace hA5 := hi_ hA5; clear cr5)
  | (go_at_call 31; (with_reducible refine cs5.mono ?_); rintro e w6 ⟨A6, c6, rfl, hb6, hA6, hB6⟩; have cr6 := row_endo w6; have hb56 := hb5.out.below hB6; replace hB6 := hi_ hB6; replace hb6 := hi_ hb6; replace hA6 := hi_ hA6; replace hb56 := hi_ hb56)
  | (go_at_call 34; (with_reducible refine cr6.mono ?_); rintro e w7 ⟨A7, c7, rfl, hb7, hA7, hB7⟩; have cc7 := cur_Of3 w7 A5 A6 A7 c5 c6 c7 _ _ _ (hb56.out.below hB7) (hb6.out.below hB7) hb7 (by simp only [endoL, List.length_cons, List.length_nil]; omega); rw [← hR.out] at cc7; replace hB7 := hi_ hB7; replace hb7 := hi_ hb7; replace hA7 := hi_ hA7)
  | (go_at_call 42; (with_reducible refine cc7.mono ?_); rintro e w8 ⟨A8, c8, rfl, hb8, hA8, hB8⟩; replace hB8 := hi_ hB8; replace hb8 := hi_ hb8; replace hA8 := hi_ hA8))
 go_ret2
 exact hfin.out _ _ _ hb8.out hA8.out.2 (bthen hb2.out (bthen hD5.out (bthen hB6.out (bthen hB7.out (bthen ((Below.refl _ _).alloc (Nat.le_refl _) _) hB8.out)))))
end Go.Proofs.YthacnnmlephkhaaGreatDoor

/- A drawn region, of which two operations yield what must be told apart. No condition. -/
namespace Go.Wk
open Go
section
variable {P : Program} {ops : Array Oper} {Q : Exit → Act → World → Prop}
theorem wpAny_pair (mk : (Nat → Value) → Act) {R : World → Prop} {Keeps : World → World → Prop} {Good : Nat → Value → World → Prop} (n : Nat) {D : Value → Value → World → Prop} (p q : Nat) (hpq : p ≠ q) (hp : p < n) (hq : q < n) (hn : n < ops.size) (l : List Oper) (hln : n + l.length = ops.size) (hl : ∀ j, l[j]? = ops[n + j]?)
 (back : ((List.range ops.size).all fun i => (afters ops i).all fun j => decide (j < i)) = true)
 (chain : ((List.range ops.size).all fun j => Nat.ble j n || (afters ops j).contains (j - 1)) = true)
 (wit : List Nat) (cover : ((List.range n).all fun i => (afters ops (wit.getD i 0)).contains i && Nat.ble (wit.getD i 0) n) = true)
 (mono : ∀ i v w w', Good i v w → Keeps w w' → Good i v w')
 (dmono : ∀ a b w w', D a b w → Keeps w w' → D a b w')
 (stepP : ∀ (b : Prop) x w, R w → (∀ j ∈ afters ops p, Good j (x j) w) → (b → Good q (x q) w) → wpOp P ops Q p (fun a' w' => ∃ v, a' = mk (upd x p v) ∧ R w' ∧ Keeps w w' ∧ Good p v w' ∧ (b → D v (x q) w')) (mk x) w)
 (stepQ : ∀ (b : Prop) x w, R w → (∀ j ∈ afters ops q, Good j (x j) w) → (b → Good p (x p) w) → wpOp P ops Q q (fun a' w' => ∃ v, a' = mk (upd x q v) ∧ R w' ∧ Keeps w w' ∧ Good q v w' ∧ (b → D (x p) v w')) (mk x) w)
 (step : ∀ i, i < n → i ≠ p → i ≠ q → ∀ x w, R w → (∀ j ∈ afters ops i, Good j (x j) w) → wpOp P ops Q i (fun a' w' => ∃ v, a' = mk (upd x i v) ∧ R w' ∧ Keeps w w' ∧ Good i v w') (mk x) w)
 (fin : ∀ x w, R w → (∀ i, i < n → Good i (x i) w) → D (x p) (x q) w → wpList P ops Q l (mk x) w) :
 ∀ (fuel : Nat) (listed : Array Bool) (x : Nat → Value) (w : World), listed.toList.count false ≤ fuel → listed.size = ops.size → R w → (∀ i, i < n → listed.getD i false = true → Good i (x i) w) → (listed.getD p false = true → listed.getD q false = true → D (x p) (x q) w) →
  (∀ i, n ≤ i → i < ops.size → listed.getD i false = false) → (∀ i, i < ops.size → listed.getD i false = true → ∀ j ∈ afters ops i, listed.getD j false = true) → wpAny P .any ops Q fuel listed (mk x) w := by
 intro fuel
 induction fuel with
 | zero =>
  intro listed x w hc hs hR hG hD hl0 hd
  exact (count_none (i := n) (by omega) (hl0 n (Nat.le_refl _) hn) hc).elim
 | succ fuel ih =>
  intro listed x w hc hs hR hG hD hl0 hd
  refine ⟨fun hr => absurd (all_listed back hs hr n hn) (by rw [hl0 n (Nat.le_refl _) hn]; simp), fun i hi => ?_⟩
  have hi0 := hi
  obtain ⟨hi', h1, haft⟩ := ready_after hi
  have haf : i < n → ∀ j ∈ afters ops i, Good j (x j) w := fun hin j hj => hG j (by have := afters_lt (n := 0) back i j hi' hj; omega) (haft j hj)
  have keep : ∀ v w', i < n → R w' → Keeps w w' → Good i v w' → (listed.getD p false = true ∨ p = i → listed.getD q false = true ∨ q = i → D (upd x i v p) (upd x i v q) w') → wpAny P .any ops Q fuel (listed.setIfInBounds i true) (mk (upd x i v)) w' := by
   intro v w' hin hR' hK hg hDn
   refine ih _ _ _ (count_up (by omega) h1 hc) (by simpa using hs) hR' ?_ ?_ ?_ ?_
   ·intro j hj hlj
    rw [getD_set _ _ _ _ (by omega)] at hlj
    unfold upd
    by_cases hji : j = i
    ·subst hji; simpa using hg
    ·rw [if_neg hji] at hlj ⊢
     exact mono _ _ _ _ (hG j hj hlj) hK
   ·intro hlp hlq
    rw [getD_set _ _ _ _ (by omega)] at hlp hlq
    refine hDn ?_ ?_
    ·by_cases h : p = i
     ·exact .inr h
     ·rw [if_neg h] at hlp; exact .inl hlp
    ·by_cases h : q = i
     ·exact .inr h
     ·rw [if_neg h] at hlq; exact .inl hlq
   ·intro j hj hj2
    rw [getD_set _ _ _ _ (by omega), if_neg (by omega)]; exact hl0 j hj hj2
   ·intro k hk hkl j hj
    rw [getD_set _ _ _ _ (by omega)] at hkl ⊢
    by_cases hji : j = i
    ·rw [if_pos hji]
    ·rw [if_neg hji]
     by_cases hki : k = i
     ·subst hki; exact haft j hj
     ·rw [if_neg hki] at hkl; exact hd k hk hkl j hj
  rcases Nat.lt_or_ge i n with hin | hin
  ·by_cases hip : i = p
   ·subst hip
    refine wpOp_mono ?_ (stepP (listed.getD q false = true) x w hR (haf hin) (fun h => hG q hq h))
    rintro a' w' ⟨v, rfl, hR', hK, hg, hDD⟩
    refine keep v w' hin hR' hK hg fun _ h => ?_
    have e1 : upd x i v i = v := by unfold upd; rw [if_pos rfl]
    have e2 : upd x i v q = x q := by unfold upd; rw [if_neg (fun e => hpq e.symm)]
    rw [e1, e2]
    rcases h with h | h
    ·exact hDD h
    ·exact absurd h.symm hpq
   ·by_cases hiq : i = q
    ·subst hiq
     refine wpOp_mono ?_ (stepQ (listed.getD p false = true) x w hR (haf hin) (fun h => hG p hp h))
     rintro a' w' ⟨v, rfl, hR', hK, hg, hDD⟩
     refine keep v w' hin hR' hK hg fun h _ => ?_
     have e1 : upd x i v i = v := by unfold upd; rw [if_pos rfl]
     have e2 : upd x i v p = x p := by unfold upd; rw [if_neg hpq]
     rw [e1, e2]
     rcases h with h | h
     ·exact hDD h
     ·exact absurd h hpq
    ·refine wpOp_mono ?_ (step i hin hip hiq x w hR (haf hin))
     rintro a' w' ⟨v, rfl, hR', hK, hg⟩
     refine keep v w' hin hR' hK hg fun h1 h2 => ?_
     have e1 : upd x i v p = x p := by unfold upd; rw [if_neg (fun e => hip e.symm)]
     have e2 : upd x i v q = x q := by unfold upd; rw [if_neg (fun e => hiq e.symm)]
     rw [e1, e2]
     have h1 : listed.getD p false = true := h1.elim id fun e => absurd e.symm hip
     have h2 : listed.getD q false = true := h2.elim id fun e => absurd e.symm hiq
     exact dmono _ _ _ _ (hD h1 h2) hK
  ·have hi2 : i = n := by
    rcases Nat.lt_or_ge n i with h3 | h3
    ·exfalso
     have hch := List.all_eq_true.1 chain i (List.mem_range.2 hi')
     rw [Bool.or_eq_true] at hch
     rcases hch with hch | hch
     ·have := Nat.le_of_ble_eq_true hch; omega
     ·have := haft _ (List.contains_iff_mem.1 hch)
      rw [hl0 (i - 1) (by omega) (by omega)] at this; cases this
    ·omega
   subst hi2
   have hothers : ∀ m k, k < i → i ≤ k + m → listed.getD k false = true := by
    intro m
    induction m with
    | zero => intro k hk hm; omega
    | succ m ihm =>
     intro k hk hm
     have hcv := List.all_eq_true.1 cover k (List.mem_range.2 hk)
     rw [Bool.and_eq_true] at hcv
     obtain ⟨j, hjj⟩ : ∃ j, j = wit.getD k 0 := ⟨_, rfl⟩
     rw [← hjj] at hcv
     have hjk := List.contains_iff_mem.1 hcv.1
     have hjn := Nat.le_of_ble_eq_true hcv.2
     have hlt := afters_lt (n := 0) back j k (by omega) hjk
     by_cases hji : j = i
     ·subst hji; exact haft k hjk
     ·exact hd j (by omega) (ihm j (by omega) (by omega)) k hjk
   have htail := fin x w hR (fun k hk => hG k hk (hothers i k hk (by omega))) (hD (hothers i p hp (by omega)) (hothers i q hq (by omega)))
   have hfin := wpAny_tail (P := P) (Q := Q) i back chain l i (fuel + 1) listed (mk x) w (Nat.le_refl _) hln hl hs hc (fun q hq => ⟨fun h => by
    rcases Nat.lt_or_ge q i with h' | h'
    ·exact h'
    ·have h2 := hl0 q h' hq; rw [h2] at h; exact absurd h (by simp)
    , fun h => hothers i q h (by omega)⟩) htail
   exact hfin.2 i hi0
end
def StepX (P : Program) (ops : Array Oper) (Q : Exit → Act → World → Prop) (mk : (Nat → Value) → Act) (R : World → Prop) (Keeps : World → World → Prop) (G : Nat → Value → World → Prop) (D : Value → Value → World → Prop) (i q : Nat) : Prop :=
 ∀ (b : Prop) x w, R w → (∀ j ∈ afters ops i, G j (x j) w) → (b → G q (x q) w) → wpOp P ops Q i (fun a' w' => ∃ v, a' = mk (upd x i v) ∧ R w' ∧ Keeps w w' ∧ G i v w' ∧ (b → D v (x q) w')) (mk x) w
theorem stepX_of {P : Program} {ops : Array Oper} {Q : Exit → Act → World → Prop} {mk : (Nat → Value) → Act} {R : World → Prop} {Keeps : World → World → Prop} {G : Nat → Value → World → Prop} {D : Value → Value → World → Prop} {i q : Nat} {o : Oper} (js : List Nat)
 (ho : ops[i]? = some o) (hj : (js.all fun j => (afters ops i).contains j) = true)
 (h : ∀ (b : Prop) x w, R w → All G x w js → (b → G q (x q) w) → ∀ K : Act → World → Prop, (∀ v w', R w' ∧ Keeps w w' ∧ G i v w' ∧ (b → D v (x q) w') → K (mk (upd x i v)) w') →
  if Region.wanted o (yielded ops (mk x).tmps) = true then Oper.wp P o (mk x) w K Q else K ((mk x).put o.dst undef) w) : StepX P ops Q mk R Keeps G D i q := by
 intro b x w hR hd hb
 unfold wpOp
 simp only [ho]
 have h1 := h b x w hR (all_of fun j hj' => hd j (List.contains_iff_mem.1 (List.all_eq_true.1 hj j hj'))) hb (fun a' w' => ∃ v, a' = mk (upd x i v) ∧ R w' ∧ Keeps w w' ∧ G i v w' ∧ (b → D v (x q) w')) (fun v w' h => ⟨v, rfl, h.1, h.2.1, h.2.2.1, h.2.2.2⟩)
 split
 ·rename_i hw; rw [if_pos hw] at h1; exact .inl h1
 ·rename_i hw; rw [if_neg hw] at h1; exact h1
theorem wp_lin_pair {P : Program} {ops : Array Oper} {Q : Exit → Act → World → Prop} {id : Nat} {tm : List Value} {df : List Deferred} {w0 : World} (hm : P.follows .mixedOrders = true) (ss : List (Option Nat))
 (R : World → Prop) (Keeps : World → World → Prop) (G : Nat → Value → World → Prop) (D : Value → Value → World → Prop)
 (h0 : fillL tm ss (oldX tm ss) = tm)
 (back : ((List.range ops.size).all fun i => (afters ops i).all fun j => decide (j < i)) = true)
 (n p q : Nat) (hpq : p ≠ q) (hp : p < n) (hq : q < n) (l : List Oper) (hdr : ops.toList.drop n = l) (hn : n < ops.size)
 (chain : ((List.range ops.size).all fun j => Nat.ble j n || (afters ops j).contains (j - 1)) = true)
 (wit : List Nat) (cover : ((List.range n).all fun i => (afters ops (wit.getD i 0)).contains i && Nat.ble (wit.getD i 0) n) = true)
 (hR : R w0.drew)
 (mono : ∀ i v w w', G i v w → Keeps w w' → G i v w')
 (dmono : ∀ a b w w', D a b w → Keeps w w' → D a b w')
 (stepP : StepX P ops Q (fun x => { tmps := (fillL tm ss x).toArray, defers := df }) R Keeps G D p q)
 (stepQ : StepX P ops Q (fun x => { tmps := (fillL tm ss x).toArray, defers := df }) R Keeps G (fun a b w => D b a w) q p)
 (step : Steps (fun i => i = p ∨ i = q ∨ Step P ops Q (fun x => { tmps := (fillL tm ss x).toArray, defers := df }) R Keeps G i) n)
 (done : ∀ x w, R w → (∀ i, i < n → G i (x i) w) → D (x p) (x q) w → ∀ fr, fr = fillL tm ss x → wpList P ops Q l { tmps := fr.toArray, defers := df } w) :
 (Code.region id ops true).wp P Q { tmps := tm.toArray, defers := df } w0 := by
 have e0 : ({ tmps := tm.toArray, defers := df } : Act) = (fun x => ({ tmps := (fillL tm ss x).toArray, defers := df } : Act)) (oldX tm ss) := by simp only [h0]
 rw [e0]
 refine wp_region_any hm (wpAny_pair (D := D) (mk := fun x => { tmps := (fillL tm ss x).toArray, defers := df }) n p q hpq hp hq hn l (by rw [← hdr]; simp; omega) (fun j => by rw [← hdr, List.getElem?_drop]; simp) back chain wit cover mono dmono stepP stepQ (fun i hi hip hiq => (each_all step.each i hi).elim (fun e => absurd e hip) fun h => h.elim (fun e => absurd e hiq) fun h => h) (fun x w hR hG hD => done x w hR hG hD _ rfl) _ _ _ _ ?_ (by simp) hR ?_ ?_ ?_ ?_)
 ·simp
 ·intro i hi hl
  have : i < ops.size := by omega
  simp [Array.getD_eq_getD_getElem?, this] at hl
 ·intro hl
  have : p < ops.size := by omega
  simp [Array.getD_eq_getD_getElem?, this] at hl
 ·intro i hi hi2
  simp [Array.getD_eq_getD_getElem?, hi2]
 ·intro i hi hl
  simp [Array.getD_eq_getD_getElem?, hi] at hl
end Go.Wk

/- Bytes of a Stream with its number. No condition. -/
namespace Go.Proofs.YthacnnmlephkhaaGreatDoor
open Go Go.RowKit Go.Wk
theorem rowAnyS (l : List UInt8) (S : ByteArray) (hS : S = ⟨l.toArray⟩) (hl : l.length ≤ 1000) (g : Nat) (W : World) (h : W.cell? ⟨g, 0, none⟩ = some (.string S)) : Calls Tryz.prog 34 #[.slice (some ⟨g, 0, none⟩) 1 1] W (RB W l) := by
 subst hS
 have h := prt_row g 0 1 [⟨l.toArray⟩] W (fun i hi => by
  match i, hi with
  | 0, _ => exact h) (by simp; omega) (by simp)
 exact h.mono fun e w' hr => by
  have h2 := hr.rb (by simp; unfold maxLen; omega)
  simpa using h2
def G8 (p : Nat) (ag vb : Value) (n B : Nat) (R : Ob) : Nat → Value → World → Prop := fun j v w => match j with
 | 0 => v = ag
 | 1 => v = .pointer (some ⟨p, 2, none⟩)
 | 2 => v = vb
 | 3 => v = .int .i64 n
 | 4 => v = .agg #[.int .i64 2, .int .i64 n, .slice none 0 0, .slice none 0 0, .slice none 0 0]
 | 5 => ∃ us, v = .agg (List.toArray (.string ⟨#[76, 101, 110, 103, 116, 104]⟩ :: us)) ∧ ObAt w (numO n) us
 | 6 => ∃ g us, v = .slice (some ⟨g, 0, none⟩) 1 1 ∧ ObAt w (numO n) us ∧ ∀ j u, (Value.string ⟨#[76, 101, 110, 103, 116, 104]⟩ :: us)[j]? = some u → w.cell? ⟨g, j, none⟩ = some u
 | 7 => ∃ us lo hi, v = .agg (List.toArray us) ∧ B ≤ lo ∧ ObI lo hi w R us
 | _ => ∃ q, v = .pointer (some ⟨q, 0, none⟩) ∧ B ≤ q ∧ Blk w q 26 #[.int .i64 0, .int .i64 0, .slice none 0 0, .slice none 0 0, .slice none 0 0]
theorem G8_mono {p : Nat} {ag vb : Value} {n B : Nat} {R : Ob} (j : Nat) (v : Value) (w w' : World) (hG : G8 p ag vb n B R j v w) (hk : Below w.heap.size w w') : G8 p ag vb n B R j v w' := by
 unfold G8 at hG ⊢
 split at hG <;> first
  | exact hG
  | (obtain ⟨us, e, hb⟩ := hG; exact ⟨us, e, hb.kept hk⟩)
  | (obtain ⟨us, lo, hi, e, hB, hb⟩ := hG; exact ⟨us, lo, hi, e, hB, obI_below hb hk⟩)
  | (obtain ⟨g, us, e, hb, hc⟩ := hG; exact ⟨g, us, e, hb.kept hk, fun j u hj => (hk.cell (cell_lt (hc j u hj))).trans (hc j u hj)⟩)
  | (obtain ⟨q, e, hB, hb⟩ := hG; exact ⟨q, e, hB, hb.below hk hb.lt⟩)
def D8 (B : Nat) (R : Ob) (a b : Value) (w : World) : Prop := ∃ us lo hi q, a = .agg (List.toArray us) ∧ b = .pointer (some ⟨q, 0, none⟩) ∧ B ≤ lo ∧ B ≤ q ∧ ObI lo hi w R us ∧ (q < lo ∨ hi ≤ q) ∧ Blk w q 26 #[.int .i64 0, .int .i64 0, .slice none 0 0, .slice none 0 0, .slice none 0 0]
theorem D8_mono {B : Nat} {R : Ob} (a b : Value) (w w' : World) (h : D8 B R a b w) (hk : Below w.heap.size w w') : D8 B R a b w' := by
 obtain ⟨us, lo, hi, q, h1, h2, h3, h4, h5, h6, h7⟩ := h
 exact ⟨us, lo, hi, q, h1, h2, h3, h4, obI_below h5 hk, h6, h7.below hk h7.lt⟩
theorem dict_call {k n : Int} {b : List UInt8} {l : List Ob} {d : List (List UInt8 × Ob)} {w : World} {v0 v1 v2 v3 : Value} {AD : Option Addr} {m cD : Nat} (h : ObAt w (.mk k n b l d) [v0, v1, v2, v3, .slice AD m cD]) (hN : bulkD d ≤ 1048576) (hT : Tab w) :
 m = d.length ∧ Calls Tryz.prog 46 #[.slice AD m cD] w (RB w (dictB d)) := by
 cases h with
 | mk k n b l d A AL AD c cL cD gL oL gD oD vl vd h1 h2 h3 h4 h5 h6 h7 h8 h9 h10 h11 h12 h13 h14 hA hl hkey hlv =>
  exact ⟨rfl, prt_dict 1048576 (Nat.le_refl _) (showC_up 1048576 (Nat.le_refl _)) w AD gD oD cD d vd hT hA hl hkey hlv hN⟩
def G9 (p q : Nat) (v0 v2 v7 : Value) (D E : List UInt8) (S8 : ByteArray) : Nat → Value → World → Prop := fun j v w => match j with
 | 0 => v = v0
 | 1 => v = .pointer (some ⟨q, 4, none⟩)
 | 2 => v = v2
 | 3 => ∃ A c, v = .slice A D.length c ∧ Byt w A D
 | 4 => ∃ g, v = .slice (some ⟨g, 0, none⟩) 1 1 ∧ w.cell? ⟨g, 0, none⟩ = some (.string ⟨#[10, 115, 116, 114, 101, 97, 109, 10]⟩)
 | 5 => ∃ A c, v = .slice A strmL.length c ∧ Byt w A strmL
 | 6 => v = .pointer (some ⟨p, 2, none⟩)
 | 7 => v = v7
 | 8 => ∃ g, v = .slice (some ⟨g, 0, none⟩) 1 1 ∧ w.cell? ⟨g, 0, none⟩ = some (.string S8)
 | _ => ∃ A c, v = .slice A E.length c ∧ Byt w A E
theorem G9_mono {p q : Nat} {v0 v2 v7 : Value} {D E : List UInt8} {S8 : ByteArray} (j : Nat) (v : Value) (w w' : World) (hG : G9 p q v0 v2 v7 D E S8 j v w) (hk : Below w.heap.size w w') : G9 p q v0 v2 v7 D E S8 j v w' := by
 unfold G9 at hG ⊢
 split at hG <;> first
  | exact hG
  | (obtain ⟨A, c, e, hb⟩ := hG; exact ⟨A, c, e, hb.below hk⟩)
  | (obtain ⟨g, e, hb⟩ := hG; exact ⟨g, e, (hk.cell (cell_lt hb)).trans hb⟩)
set_option maxHeartbeats 8000000 in
set_option maxRecDepth 100000 in
theorem item_str (num : Int) (hn : i64 num) (n : Int) (b : List UInt8) (l : List Ob) (d : List (List UInt8 × Ob)) (vs : List Value) (w : World) (h : ObAt w (.mk 8 n b l d) vs) (hbk : (Ob.mk 8 n b l d).bulk ≤ 1048569) (hT : Tab w) (hgood : itemB num (.mk 8 n b l d) = true) : Calls Tryz.prog 17 #[.agg (List.toArray (.int .i64 num :: vs))] w (VIC w num (.mk 8 n b l d)) := by
 obtain ⟨o, ho⟩ : ∃ o, o = Ob.mk 8 n b l d := ⟨_, rfl⟩
 have hvs : ∃ (A1 A2 A3 : Option Addr) (c1 c2 c3 : Nat), vs = [.int .i64 8, .int .i64 n, .slice A1 b.length c1, .slice A2 l.length c2, .slice A3 d.length c3] ∧ Byt w A1 b := by
  cases h with
  | mk k n b l d A AL AD c cL cD gL oL gD oD vl vd h1 h2 h3 h4 h5 h6 h7 h8 h9 h10 h11 h12 h13 h14 hA hl hkey hlv => exact ⟨A, AL, AD, c, cL, cD, rfl, by assumption⟩
 obtain ⟨E1, E2, E3, ec1, ec2, ec3, hys, hbb⟩ := hvs
 subst hys
 have zk : b.length + bulkL l + bulkD d + 1 ≤ 1048569 := hbk
 have hfd : ∀ e ∈ d, Fits e.2 := by have := h.fits; cases this with | mk _ _ _ _ _ _ _ hd => exact hd
 have zd := ins_len b d hfd (by omega)
 have zdb : bulkD (insE lenL (numO b.length) d) ≤ 1048576 + 8 := by
  rw [insE_bulk, numO_bulk]; have : lenL.length = 6 := rfl; omega
 have hg2 := hgood
 unfold itemB at hg2
 simp only [Bool.and_eq_true, decide_eq_true_eq] at hg2
 obtain ⟨⟨⟨t1, t2⟩, t3⟩, t4⟩ := hg2
 have t4 : (Ob.get lenL (.mk 8 n b l d)).kind = 0 := by
  have e : (Ob.mk 8 n b l d).kind = 8 := rfl
  rw [e] at t4
  simpa using t4
 have hno := get_null t3 rfl t4 rfl
 have zd2 : bulkD (insE lenL (numO b.length) d) ≤ 1048576 := by
  rw [insE_bulk, numO_bulk]; have : lenL.length = 6 := rfl; omega
 obtain ⟨W1, hW1⟩ : ∃ W, W = w.alloc (.cells #[.int .i64 num, .int .i64 8, .int .i64 n, .slice E1 b.length ec1, .slice E2 l.length ec2, .slice E3 d.length ec3] 41) := ⟨_, rfl⟩
 obtain ⟨W2, hW2⟩ : ∃ W, W = W1.alloc (.cells #[.int .i64 8, .int .i64 n, .slice E1 b.length ec1, .slice E2 l.length ec2, .slice E3 d.length ec3] 26) := ⟨_, rfl⟩
 have hb1 : Below w.heap.size w W1 := by rw [hW1]; exact (Below.refl _ _).alloc (Nat.le_refl _) _
 have z1 : W1.heap.size = w.heap.size + 1 := by rw [hW1, World.size_alloc]
 have hb12 : Below W1.heap.size W1 W2 := by rw [hW2]; exact (Below.refl _ _).alloc (Nat.le_refl _) _
 have z2 : W2.heap.size = w.heap.size + 2 := by rw [hW2, World.size_alloc, z1]
 have hb2 : Below w.heap.size w W2 := bthen hb1 hb12
 have ff := five_cells hW2
 rw [z1] at ff
 obtain ⟨f0, f1, f2, f3, f4⟩ := id ff
 obtain ⟨g0, g1, g2, g3, g4, g5⟩ := six_cells41 hW1
 have g0' := (hb12.cell (cell_lt g0)).trans g0
 have gg := fun W (hW : Below W2.heap.size W2 W) => (hW.cell (cell_lt g0')).trans g0'
 have hbulk : o.bulk ≤ 1048576 := by rw [ho]; omega
 have cm := cos_May o _ W2 (by rw [ho]; exact h.kept hb2) hbulk
 have cg := fun W (hW : Below W2.heap.size W2 W) => cos_Get o _ W (by rw [ho]; exact h.kept (bthen hb2 hW)) hbulk lenB
 have ct := fun W (hW : Below W2.heap.size W2 W) => fixed_Text_whole num hn W (hT.below (bthen hb2 hW))
 have hob := fun W (hW : Below W2.heap.size W2 W) => h.kept (bthen hb2 hW)
 have hbw := fun W (hW : Below W2.heap.size W2 W) => hbb.below (bthen hb2 hW)
 have hTw := fun W (hW : Below W2.heap.size W2 W) => hT.below (bthen hb2 hW)
 have zt := numT_le num hn
 have hX5 : ∀ e ∈ insE lenL (numO b.length) d, Fits e.2 := fun e he => by
  rcases insE_mem he with rfl | he
  ·exact numO_fits _ (by omega)
  ·exact hfd e he
 obtain ⟨D, hD⟩ : ∃ D, D = dictB (insE lenL (numO b.length) d) := ⟨_, rfl⟩
 obtain ⟨E, hE⟩ : ∃ E, E = endsL ++ endoL := ⟨_, rfl⟩
 have zE : E.length = 18 := by rw [hE]; rfl
 rw [← hD] at zd
 obtain ⟨T, hT2⟩ : ∃ T, T = numT num true := ⟨_, rfl⟩
 obtain ⟨TB, hTB⟩ : ∃ B : ByteArray, B = ⟨T.toArray⟩ := ⟨_, rfl⟩
 obtain ⟨H, hH⟩ : ∃ H, H = T ++ objL := ⟨_, rfl⟩
 obtain ⟨R, hR⟩ : ∃ R, R = H ++ (D ++ (strmL ++ (b ++ E))) := ⟨_, rfl⟩
 have hend : itmS num (.mk 8 n b l d) = R := by
  unfold itmS
  rw [if_pos hgood]
  have e : itmB (.mk 8 n b l d) = dictB (insE lenL (numO b.length) d) ++ (strmL ++ (b ++ endsL)) := by
   show (if (8 : Int) = 8 then dictB (insE lenL (numO b.length) d) ++ (strmL ++ (b ++ endsL)) else (Ob.mk 8 n b l d).show) = _
   rw [if_pos rfl]
  rw [e, hR, hH, hT2, hD, hE]
  simp only [List.append_assoc]
 have hz : itmZ num (.mk 8 n b l d) = 0 := by unfold itmZ; rw [if_pos hgood]
 have hfin : ∀ A c w', Byt w' A R → R.length ≤ c → Below w.heap.size w w' → VIC w num (.mk 8 n b l d) (.returned (.tuple #[.slice A R.length c, .int .i64 0])) w' := fun A c w' h1 hcc h2 => ⟨A, c, by rw [hend, hz], by rw [hend]; exact h1, by rw [hend]; exact hcc, h2⟩
 have ct2 : ∀ W, Below W2.heap.size W2 W → Calls Tryz.prog 41 #[.int .i64 num, .bool true] W fun e w' => e = .returned (.string TB) ∧ Below W.heap.size W w' := by rw [hTB, hT2]; exact ct
 have t3o : o.may 28 = true := by rw [ho]; exact t3
 rw [t3o] at cm
 have zH : H.length ≤ 110 := by rw [← hT2] at zt; rw [hH]; simp only [List.length_append, objL, List.length_cons, List.length_nil]; omega
 rw [← hT2] at zt
 have d1 : decide (num < 1) = false := decide_eq_false (by omega)
 have d2 : decide (8388607 < num) = false := decide_eq_false (by omega)
 have cg2 : ∀ W (hW : Below W2.heap.size W2 W), Calls Tryz.prog 40 #[.agg #[.int .i64 8, .int .i64 n, .slice E1 b.length ec1, .slice E2 l.length ec2, .slice E3 d.length ec3], .string ⟨#[76, 101, 110, 103, 116, 104]⟩] W fun e w' => ∃ u1 u2 u3 u4, e = .returned (.agg #[.int .i64 0, u1, u2, u3, u4]) ∧ Below W.heap.size W w' := fun W hW => (cg W hW).mono fun e w' ⟨us, h1, h2, h3⟩ => by
  obtain ⟨gn, G1, G2, G3, gn1, gc1, gn2, gc2, gn3, gc3, hus⟩ := ob_five2 h2.ob
  subst hus
  have e1 : (Ob.get lenB.data.toList o).kind = 0 := by rw [ho]; exact t4
  rw [e1] at h1
  exact ⟨_, _, _, _, h1, h3⟩
 obtain ⟨nb, hnb⟩ : ∃ m, m = b.length := ⟨_, rfl⟩
 obtain ⟨nl, hnl⟩ : ∃ m, m = l.length := ⟨_, rfl⟩
 obtain ⟨nd, hnd⟩ : ∃ m, m = d.length := ⟨_, rfl⟩
 have zz : nb ≤ 1048576 := by omega
 have zR : nb + D.length + 200 ≤ 100000000 := by omega
 have zdl := bulkD_len d
 rw [← hnb, ← hnl, ← hnd] at hW1 hW2 ff cg2 hob
 rw [← hnb] at f2
 rw [← hnl] at f3
 rw [← hnd] at f4
 have hff := field0 0
 rw [← hnb, ← hnl, ← hnd]
 have cm2 : Calls Tryz.prog 30 #[.agg #[.int .i64 8, .int .i64 n, .slice E1 nb ec1, .slice E2 nl ec2, .slice E3 nd ec3]] W2 fun e w' => e = .returned (.bool true) ∧ Below W2.heap.size W2 w' := by rw [hnb, hnl, hnd]; exact cm
 have hbk := Nat.le_trans hbk (by omega : 1048569 ≤ 1048576)
 clear cm cg ct h hgood t1 t2 t3 t4 hend hz hT t3o hbulk hT2 zdb hbb
 replace hn := hi_ hn
 replace ho := hi_ ho
 replace hb1 := hi_ hb1
 replace hb12 := hi_ hb12
 replace hb2 := hi_ hb2
 replace ff := hi_ ff
 replace gg := hi_ gg
 replace hob := hi_ hob
 replace hbw := hi_ hbw
 replace hTw := hi_ hTw
 replace ct2 := hi_ ct2
 replace cg2 := hi_ cg2
 replace hfin := hi_ hfin
 replace z1 := hi_ z1
 replace z2 := hi_ z2
 replace hTB := hi_ hTB
 replace hH := hi_ hH
 replace hR := hi_ hR
 replace hD := hi_ hD
 replace hE := hi_ hE
 replace zE := hi_ zE
 replace hX5 := hi_ hX5
 replace hno := hi_ hno
 replace hnb := hi_ hnb
 replace hbk := hi_ hbk
 replace hnl := hi_ hnl
 replace hnd := hi_ hnd
 replace zdl := hi_ zdl
 replace zd := hi_ zd
 replace zk := hi_ zk
 go_enter Tryz.func17, Tryz.ntmps17
 go_upto_region 2 with (fail)
 rw [← hW1, ← hW2]
 replace hW1 := hi_ hW1
 replace hW2 := hi_ hW2
 go_upto_region 8 with (first
  | (go_at_call 30; (with_reducible refine cm2.mono ?_); rintro e w3 ⟨rfl, hB3⟩; have g3' := gg.out w3 hB3; have cg3 := cg2.out w3 hB3; obtain ⟨f0, f1, f2, f3, f4⟩ := five_kept ff.out hB3; replace hB3 := hi_ hB3)
  | (go_at_call 40; (with_reducible refine cg3.mono ?_); rintro e w3b ⟨u1, u2, u3, u4, rfl, hB3b⟩; have hD3 := bthen hB3.out hB3b; have g3' := gg.out w3b hD3; have ct3 := ct2.out w3b hD3; have cr4 := fun W => row_head W T TB hTB.out H hH.out zt; replace cr4 := hi_ cr4; replace hD3 := hi_ hD3; replace hB3b := hi_ hB3b)
  | (go_at_call 41; (with_reducible refine ct3.mono ?_); rintro e w4 ⟨rfl, hB4⟩; have cr5 := cr4.out w4; have hD4 := bthen hD3.out hB4; replace hB4 := hi_ hB4; replace hD4 := hi_ hD4)
  | (go_at_call 34; (with_reducible refine cr5.mono ?_); rintro e w5 ⟨A5, c5, rfl, hb5, hA5, hB5⟩; have hD5 := bthen hD4.out hB5; obtain ⟨f0, f1, f2, f3, f4⟩ := five_kept ff.out hD5; replace hB5 := hi_ hB5; replace hD5 := hi_ hD5; replace hb5 := hi_ hb5; replace hA5 := hi_ hA5; clear cr5))
 refine wp_lin_pair (by kernel_rfl) [none, none, none, none, none, none, none, some 8, none, none, none, none, none, none, none, none, none, none, none, none, none, none, none, none, none, none, none, none, none, none, none, none, none, none, none, none, none, none, none, none, none, none, none, none, none, none, none, none, none, some 0, some 1, some 2, some 3, some 4, some 5, some 6, some 7, none, none, none, none, none, none, none, none, none, none, none, none] (fun w' => Below w5.heap.size w5 w') (fun w' w'' => Below w'.heap.size w' w'') (G8 (w.heap.size + 1) (.agg #[.int .i64 8, .int .i64 n, .slice E1 nb ec1, .slice E2 nl ec2, .slice E3 nd ec3]) (.slice E1 nb ec1) nb w5.heap.size (.mk 8 n b l (insE lenL (numO nb) d))) (D8 w5.heap.size (.mk 8 n b l (insE lenL (numO nb) d))) (by rfl) (by kernel_rfl) 9 7 8 (by decide) (by decide) (by decide) _ rfl (by decide) (by kernel_rfl) [9, 9, 9, 9, 9, 9, 9, 9, 9, 0] (by kernel_rfl) ?hR ?mono D8_mono (stepX_of [0, 6, 5] rfl (by kernel_rfl) ?s7) (stepX_of [] rfl (by kernel_rfl) ?s8) (.cons 8 (.inr (.inl rfl)) (.cons 7 (.inl rfl) (.cons 6 (.inr (.inr (step_of [5] rfl (by kernel_rfl) ?s6))) (.cons 5 (.inr (.inr (step_of [4] rfl (by kernel_rfl) ?s5))) (.cons 4 (.inr (.inr (step_of [3] rfl (by kernel_rfl) ?s4))) (.cons 3 (.inr (.inr (step_of [2] rfl (by kernel_rfl) ?s3))) (.cons 2 (.inr (.inr (step_of [1] rfl (by kernel_rfl) ?s2))) (.cons 1 (.inr (.inr (step_of [] rfl (by kernel_rfl) ?s1))) (.cons 0 (.inr (.inr (step_of [] rfl (by kernel_rfl) ?s0))) (.nil)))))))))) ?done
 case hR => exact (Below.refl _ _).drew
 case mono => exact G8_mono
 case s0 =>
  intro x w' hRw hd K' hK
  simp only [All, G8] at hd
  have tf0 := (hRw.cell (cell_lt f0)).trans f0
  have tf1 := (hRw.cell (cell_lt f1)).trans f1
  have tf2 := (hRw.cell (cell_lt f2)).trans f2
  have tf3 := (hRw.cell (cell_lt f3)).trans f3
  have tf4 := (hRw.cell (cell_lt f4)).trans f4
  simp +decide only [upd, G8, fillL, if_true, if_false] at hK ⊢
  go_simp
  have hK2 := hK _ _ ⟨hRw, Below.refl _ _, rfl⟩
  exact hK2
 case s1 =>
  intro x w' hRw hd K' hK
  simp only [All, G8] at hd
  simp +decide only [upd, G8, fillL, if_true, if_false] at hK ⊢
  go_simp
  have hK2 := hK _ _ ⟨hRw, Below.refl _ _, rfl⟩
  exact hK2
 case s2 =>
  intro x w' hRw hd K' hK
  simp only [All, G8] at hd
  obtain ⟨e1, _⟩ := hd
  have tf2 := (hRw.cell (cell_lt f2)).trans f2
  simp +decide only [upd, G8, fillL, if_true, if_false] at hK ⊢
  simp only [e1] at hK ⊢
  go_simp
  have hK2 := hK _ _ ⟨hRw, Below.refl _ _, rfl⟩
  exact hK2
 case s3 =>
  intro x w' hRw hd K' hK
  simp only [All, G8] at hd
  obtain ⟨e2, _⟩ := hd
  simp +decide only [upd, G8, fillL, if_true, if_false] at hK ⊢
  simp only [e2] at hK ⊢
  go_simp
  have hK2 := hK _ _ ⟨hRw, Below.refl _ _, rfl⟩
  exact hK2
 case s4 =>
  intro x w' hRw hd K' hK
  simp only [All, G8] at hd
  obtain ⟨e3, _⟩ := hd
  simp +decide only [upd, G8, fillL, if_true, if_false] at hK ⊢
  simp only [e3] at hK ⊢
  go_simp
  refine (cos_Int nb w' (by omega) (by omega)).mono ?_
  rintro e' w2 ⟨rfl, hB9⟩
  have hK2 := hK _ _ ⟨bthen hRw hB9, hB9, rfl⟩
  exact hK2
 case s5 =>
  intro x w' hRw hd K' hK
  simp only [All, G8] at hd
  obtain ⟨e4, _⟩ := hd
  simp +decide only [upd, G8, fillL, if_true, if_false] at hK ⊢
  simp only [e4] at hK ⊢
  go_simp
  refine (cos_Pair (numO nb) _ w' (num_I (B := 0) (w := w') nb (by omega) (by omega)).ob (by rw [numO_bulk]; omega) ⟨#[76, 101, 110, 103, 116, 104]⟩).mono ?_
  rintro e' w2 ⟨us, rfl, hI9, hB9⟩
  have hK2 := hK _ _ ⟨bthen hRw hB9, hB9, us, rfl, hI9.ob⟩
  exact hK2
 case s6 =>
  intro x w' hRw hd K' hK
  simp only [All, G8] at hd
  obtain ⟨⟨us5, e5, h5⟩, _⟩ := hd
  simp +decide only [upd, G8, fillL, if_true, if_false] at hK ⊢
  simp only [e5] at hK ⊢
  obtain ⟨xn, F1, F2, F3, fn1, fc1, fn2, fc2, fn3, fc3, hxs⟩ := ob_five2 h5
  have hkd : (numO nb).kind = 2 := rfl
  rw [hkd] at hxs
  subst hxs
  have al : Below w'.heap.size w' (w'.alloc (.cells #[.string ⟨#[76, 101, 110, 103, 116, 104]⟩, .int .i64 2, .int .i64 xn, .slice F1 fn1 fc1, .slice F2 fn2 fc2, .slice F3 fn3 fc3] 53)) := (Below.refl _ _).alloc (Nat.le_refl _) _
  have hcl : ∀ j u, ([.string ⟨#[76, 101, 110, 103, 116, 104]⟩, .int .i64 2, .int .i64 xn, .slice F1 fn1 fc1, .slice F2 fn2 fc2, .slice F3 fn3 fc3] : List Value)[j]? = some u → (w'.alloc (.cells #[.string ⟨#[76, 101, 110, 103, 116, 104]⟩, .int .i64 2, .int .i64 xn, .slice F1 fn1 fc1, .slice F2 fn2 fc2, .slice F3 fn3 fc3] 53)).cell? ⟨w'.heap.size, j, none⟩ = some u := fun j u hj => by
   have h0 := alloc_cell (w := w') (vs := #[.string ⟨#[76, 101, 110, 103, 116, 104]⟩, .int .i64 2, .int .i64 xn, .slice F1 fn1 fc1, .slice F2 fn2 fc2, .slice F3 fn3 fc3]) (e := 53) (i := j)
   rw [Nat.zero_add] at h0
   rw [h0, ← hj]; simp
  go_simp
  have hK2 := hK _ _ ⟨bthen hRw al, al, w'.heap.size, _, rfl, h5.kept al, hcl⟩
  exact hK2
 case s7 =>
  intro bp x w' hRw hd hb8 K' hK
  simp only [All, G8] at hd hb8
  obtain ⟨e0, ⟨g6, us6, e6, hx6, hc6⟩, _⟩ := hd
  simp +decide only [upd, G8, fillL, if_true, if_false] at hK ⊢
  simp only [e0, e6] at hK ⊢
  go_simp
  refine (cos_Set 8 n b l d _ w' (hob.out w' (bthen hD5.out hRw)) hbk.out rfl (numO nb) us6 g6 ⟨#[76, 101, 110, 103, 116, 104]⟩ hx6 (by rw [numO_bulk]; omega) rfl hc6 hno.out (by decide)).mono ?_
  rintro e' w2 ⟨us, rfl, hI9, hB9⟩
  have hI9' : ObI w'.heap.size w2.heap.size w2 (.mk 8 n b l (insE lenL (numO nb) d)) us := hI9
  have zw := hRw.size
  have hK2 := hK _ _ ⟨bthen hRw hB9, hB9, ⟨us, _, _, rfl, zw, hI9'⟩, fun hbp => by
   obtain ⟨q, hq, hBq, hblk⟩ := hb8 hbp
   exact ⟨us, _, _, q, rfl, hq, zw, hBq, hI9', .inl hblk.lt, hblk.below hB9 hblk.lt⟩⟩
  exact hK2
 case s8 =>
  intro bp x w' hRw hd hb7 K' hK
  simp only [G8] at hb7
  simp +decide only [upd, G8, fillL, if_true, if_false] at hK ⊢
  have zw := hRw.size
  have al : Below w'.heap.size w' (w'.alloc (.cells #[.int .i64 0, .int .i64 0, .slice none 0 0, .slice none 0 0, .slice none 0 0] 26)) := (Below.refl _ _).alloc (Nat.le_refl _) _
  have bl := Blk.new w' 26 #[.int .i64 0, .int .i64 0, .slice none 0 0, .slice none 0 0, .slice none 0 0]
  go_simp
  have hK2 := hK _ _ ⟨bthen hRw al, al, ⟨_, rfl, zw, bl⟩, fun hbp => by
   obtain ⟨us, lo, hi, h1, h2, h3⟩ := hb7 hbp
   exact ⟨us, lo, hi, _, h1, rfl, h2, zw, obI_below h3 al, .inr h3.1, bl⟩⟩
  exact hK2
 case done =>
  intro x w6 hR2 hG hDD fr hfr
  obtain ⟨us, lo, hi, q, a7, a8, hlo, hBq, hI6, hdis, hblk⟩ := hDD
  obtain ⟨en', A1, A2, A3, n1, c1, n2, c2, n3, c3, hus⟩ := ob_five2 hI6.ob
  have hkd : (Ob.mk 8 n b l (insE lenL (numO nb) d)).kind = 8 := rfl
  rw [hkd] at hus
  subst hus
  simp only [fillL] at hfr
  rw [a7, a8] at hfr
  subst hfr
  clear hG a7 a8 f0 f1 f2 f3 f4
  have v0 := hblk.frozen 0
  have v1 := hblk.frozen 1
  have v2 := hblk.frozen 2
  have v3 := hblk.frozen 3
  have v4 := hblk.frozen 4
  have y0 := hblk.cell 0
  have y1 := hblk.cell 1
  have y2 := hblk.cell 2
  have y3 := hblk.cell 3
  have y4 := hblk.cell 4
  have z56 := hR2.size
  have zq := hblk.lt
  replace hblk := hi_ hblk
  replace hI6 := hi_ hI6
  replace hR2 := hi_ hR2
  replace hdis := hi_ hdis
  go_upto_region 9 with (fail)
  obtain ⟨Wf, hWf⟩ : ∃ W, W = ((((w6.setCell ⟨q, 0, none⟩ (.int .i64 8)).setCell ⟨q, 1, none⟩ (.int .i64 en')).setCell ⟨q, 2, none⟩ (.slice A1 n1 c1)).setCell ⟨q, 3, none⟩ (.slice A2 n2 c2)).setCell ⟨q, 4, none⟩ (.slice A3 n3 c3) := ⟨_, rfl⟩
  rw [← hWf]
  obtain ⟨hbf, hgf, hzf⟩ := set_five hblk.out hWf
  have q4 := hbf.cell 4
  have hIt := hI6.out.1
  have hBf : Below w5.heap.size w5 Wf := hR2.out.grown hgf (by omega) (fun r hr => by injection hr with hr; omega)
  have hIf : ObAt Wf (.mk 8 n b l (insE lenL (numO nb) d)) [.int .i64 8, .int .i64 en', .slice A1 n1 c1, .slice A2 n2 c2, .slice A3 n3 c3] :=
   (hI6.out.keep (fun r h1 h2 => hgf.block r (by omega) (fun e => by injection e with e; rcases hdis.out with h | h <;> omega)) (by omega)).ob
  have hDf := bthen hD5.out hBf
  have hdc := fun W (hW : Below Wf.heap.size Wf W) => (dict_call (hIf.kept hW) (by rw [hnb.out]; exact zd2) (hTw.out W (bthen hDf hW))).2
  have eD : dictB (insE lenL (numO nb) d) = D := by rw [hnb.out]; exact hD.out.symm
  rw [eD] at hdc
  obtain ⟨k0, k1, f2, k3, k4⟩ := five_kept ff.out hDf
  have hb5f := hb5.out.below hBf
  have hbwf := fun W (hW : Below Wf.heap.size Wf W) => hbw.out W (bthen hDf hW)
  clear v0 v1 v2 v3 v4 y0 y1 y2 y3 y4 k0 k1 k3 k4 eD
  replace hdc := hi_ hdc
  replace hIf := hi_ hIf
  replace hDf := hi_ hDf
  replace hBf := hi_ hBf
  replace hWf := hi_ hWf
  replace hb5f := hi_ hb5f
  replace hbwf := hi_ hbwf
  replace hbf := hi_ hbf
  replace hgf := hi_ hgf
  refine wp_lin_tail (by kernel_rfl) [none, none, none, none, none, none, none, none, none, none, none, none, none, none, none, none, none, none, none, none, none, none, none, none, none, none, none, none, none, none, none, none, none, none, none, none, none, none, none, none, none, none, none, none, none, none, none, none, none, none, none, none, none, none, none, none, none, some 0, some 1, some 2, some 3, some 4, some 5, some 6, some 7, some 8, some 9, none, none] (fun w' => Below Wf.heap.size Wf w') (fun w' w'' => Below w'.heap.size w' w'') (G9 (w.heap.size + 1) q (.slice A5 H.length c5) (.slice A3 n3 c3) (.slice E1 nb ec1) D E ⟨#[10, 101, 110, 100, 115, 116, 114, 101, 97, 109, 10, 101, 110, 100, 111, 98, 106, 10]⟩) (by rfl) (by kernel_rfl) 10 _ rfl (by decide) (by kernel_rfl) [10, 2, 3, 10, 5, 10, 7, 10, 9, 10, 0] (by kernel_rfl) ?hR9 ?mono9 (.cons 9 (step_of [8, 5] rfl (by kernel_rfl) ?r9) (.cons 8 (step_of [] rfl (by kernel_rfl) ?r8) (.cons 7 (step_of [6] rfl (by kernel_rfl) ?r7) (.cons 6 (step_of [] rfl (by kernel_rfl) ?r6) (.cons 5 (step_of [4, 3] rfl (by kernel_rfl) ?r5) (.cons 4 (step_of [] rfl (by kernel_rfl) ?r4) (.cons 3 (step_of [2] rfl (by kernel_rfl) ?r3) (.cons 2 (step_of [1] rfl (by kernel_rfl) ?r2) (.cons 1 (step_of [] rfl (by kernel_rfl) ?r1) (.cons 0 (step_of [] rfl (by kernel_rfl) ?r0) (.nil))))))))))) ?done9
  case hR9 => exact (Below.refl _ _).drew
  case mono9 => exact G9_mono
  case r0 =>
   intro x w' hRw hd K' hK
   simp only [All, G9] at hd
   simp +decide only [upd, G9, fillL, if_true, if_false] at hK ⊢
   go_simp
   have hK2 := hK _ _ ⟨hRw, Below.refl _ _, rfl⟩
   exact hK2
  case r1 =>
   intro x w' hRw hd K' hK
   simp only [All, G9] at hd
   simp +decide only [upd, G9, fillL, if_true, if_false] at hK ⊢
   go_simp
   have hK2 := hK _ _ ⟨hRw, Below.refl _ _, rfl⟩
   exact hK2
  case r2 =>
   intro x w' hRw hd K' hK
   simp only [All, G9] at hd
   obtain ⟨e1, _⟩ := hd
   have tq4 := (hRw.cell (cell_lt q4)).trans q4
   simp +decide only [upd, G9, fillL, if_true, if_false] at hK ⊢
   simp only [e1] at hK ⊢
   go_simp
   have hK2 := hK _ _ ⟨hRw, Below.refl _ _, rfl⟩
   exact hK2
  case r3 =>
   intro x w' hRw hd K' hK
   simp only [All, G9] at hd
   obtain ⟨e2, _⟩ := hd
   simp +decide only [upd, G9, fillL, if_true, if_false] at hK ⊢
   simp only [e2] at hK ⊢
   go_simp
   refine (hdc.out w' hRw).mono ?_
   rintro e' w2 ⟨A9, c9, rfl, hb9, hA9, hB9⟩
   have hK2 := hK _ _ ⟨bthen hRw hB9, hB9, A9, c9, rfl, hb9⟩
   exact hK2
  case r4 =>
   intro x w' hRw hd K' hK
   simp only [All, G9] at hd
   simp +decide only [upd, G9, fillL, if_true, if_false] at hK ⊢
   have al : Below w'.heap.size w' (w'.alloc (.cells #[.string ⟨#[10, 115, 116, 114, 101, 97, 109, 10]⟩] 9)) := (Below.refl _ _).alloc (Nat.le_refl _) _
   go_simp
   have hK2 := hK _ _ ⟨bthen hRw al, al, w'.heap.size, rfl, one_cell w' _ 9⟩
   exact hK2
  case r5 =>
   intro x w' hRw hd K' hK
   simp only [All, G9] at hd
   obtain ⟨⟨g4, e4, h4⟩, _⟩ := hd
   simp +decide only [upd, G9, fillL, if_true, if_false] at hK ⊢
   simp only [e4] at hK ⊢
   go_simp
   refine (rowAnyS strmL ⟨#[10, 115, 116, 114, 101, 97, 109, 10]⟩ rfl (by decide) g4 w' h4).mono ?_
   rintro e' w2 ⟨A9, c9, rfl, hb9, hA9, hB9⟩
   have hK2 := hK _ _ ⟨bthen hRw hB9, hB9, A9, c9, rfl, hb9⟩
   exact hK2
  case r6 =>
   intro x w' hRw hd K' hK
   simp only [All, G9] at hd
   simp +decide only [upd, G9, fillL, if_true, if_false] at hK ⊢
   go_simp
   have hK2 := hK _ _ ⟨hRw, Below.refl _ _, rfl⟩
   exact hK2
  case r7 =>
   intro x w' hRw hd K' hK
   simp only [All, G9] at hd
   obtain ⟨e6, _⟩ := hd
   have tf2 := (hRw.cell (cell_lt f2)).trans f2
   simp +decide only [upd, G9, fillL, if_true, if_false] at hK ⊢
   simp only [e6] at hK ⊢
   go_simp
   have hK2 := hK _ _ ⟨hRw, Below.refl _ _, rfl⟩
   exact hK2
  case r8 =>
   intro x w' hRw hd K' hK
   simp only [All, G9] at hd
   simp +decide only [upd, G9, fillL, if_true, if_false] at hK ⊢
   have al : Below w'.heap.size w' (w'.alloc (.cells #[.string ⟨#[10, 101, 110, 100, 115, 116, 114, 101, 97, 109, 10, 101, 110, 100, 111, 98, 106, 10]⟩] 9)) := (Below.refl _ _).alloc (Nat.le_refl _) _
   go_simp
   have hK2 := hK _ _ ⟨bthen hRw al, al, w'.heap.size, rfl, one_cell w' _ 9⟩
   exact hK2
  case r9 =>
   intro x w' hRw hd K' hK
   simp only [All, G9] at hd
   obtain ⟨⟨g8, e8, h8⟩, _⟩ := hd
   simp +decide only [upd, G9, fillL, if_true, if_false] at hK ⊢
   simp only [e8] at hK ⊢
   go_simp
   refine (rowAnyS E ⟨#[10, 101, 110, 100, 115, 116, 114, 101, 97, 109, 10, 101, 110, 100, 111, 98, 106, 10]⟩ (by rw [hE.out]; rfl) (by rw [zE.out]; decide) g8 w' h8).mono ?_
   rintro e' w2 ⟨A9, c9, rfl, hb9, hA9, hB9⟩
   have hK2 := hK _ _ ⟨bthen hRw hB9, hB9, A9, c9, rfl, hb9⟩
   exact hK2
  case done9 =>
   intro x w7 hR9 hG fr hfr
   have a0 := hG 0 (by omega)
   have a3 := hG 3 (by omega)
   have a5 := hG 5 (by omega)
   have a7 := hG 7 (by omega)
   have a9 := hG 9 (by omega)
   simp only [G9] at a0 a3 a5 a7 a9
   obtain ⟨A3', c3', a3, hb3'⟩ := a3
   obtain ⟨A5', c5', a5, hb5'⟩ := a5
   obtain ⟨A9', c9', a9, hb9'⟩ := a9
   clear hG
   simp only [fillL] at hfr
   rw [a0, a3, a5, a7, a9] at hfr
   subst hfr
   have cc := cur_Of5 w7 A5 A3' A5' E1 A9' c5 c3' c5' ec1 c9' H D strmL b E (hb5f.out.below hR9) hb3' hb5' (hbwf.out w7 hR9) hb9' (by have h1 := zE.out; have h2 := hnb.out; have h3 := zd.out; have h4 := zk.out; have h5 : strmL.length = 8 := rfl; omega)
   rw [← hR.out, ← hnb.out] at cc
   replace hR9 := hi_ hR9
   clear a0 a3 a5 a7 a9 q4 f2
   go_wp2_with (go_at_call 42; (with_reducible refine cc.mono ?_); rintro e w8 ⟨A8, c8, rfl, hb8, hA8, hB8⟩; replace hB8 := hi_ hB8; replace hb8 := hi_ hb8; replace hA8 := hi_ hA8)
   go_ret2
   exact hfin.out _ _ _ hb8.out hA8.out.2 (bthen hb2.out (bthen hDf.out (bthen hR9.out (bthen ((Below.refl _ _).alloc (Nat.le_refl _) _) hB8.out))))

/- Bytes of an object with its number, by the document. No condition. -/

/- Bytes of a Stream with its number, by the document. No condition. -/

/- The law of PrintItems. No condition. -/
theorem prt_ItemC (num : Int) (hn : i64 num) (o : Ob) (vs : List Value) (w : World) (h : ObAt w o vs) (hbk : o.bulk ≤ 1048569) (hT : Tab w) : Calls Tryz.prog 17 #[.agg (List.toArray (.int .i64 num :: vs))] w (VIC w num o) := by
 by_cases hg : itemB num o = true
 ·by_cases h8 : o.kind = 8
  ·cases o with
   | mk k n b l d =>
    have h8 : k = 8 := h8
    subst h8
    exact item_str num hn n b l d vs w h hbk hT hg
  ·exact item_obj num hn o vs w h (by omega) hT hg h8
 ·exact (item_no num hn o vs w h (by omega) (by simpa using hg)).mono fun e w' hq => hq.c (by simpa using hg)
theorem prt_Item (num : Int) (hn : i64 num) (o : Ob) (vs : List Value) (w : World) (h : ObAt w o vs) (hbk : o.bulk ≤ 1048569) (hT : Tab w) : Calls Tryz.prog 17 #[.agg (List.toArray (.int .i64 num :: vs))] w (VI w num o) :=
 (prt_ItemC num hn o vs w h hbk hT).mono fun _ _ hq => hq.vi
end Go.Proofs.YthacnnmlephkhaaGreatDoor

/- Objects that may be have the same bytes just if they are the same: plain. No condition. -/
namespace Go.Wk
open Go
mutual
def sameB : Ob → Ob → Bool
 | .mk k n b l d, .mk k' n' b' l' d' => k == k' && (
  if k = 1 ∨ k = 2 ∨ k = 3 ∨ k = 9 then n == n'
  else if k = 4 ∨ k = 5 then b == b'
  else if k = 6 then sameL l l'
  else if k = 7 ∨ k = 8 then (k == 7 || b == b') && sameD d d'
  else true)
def sameL : List Ob → List Ob → Bool
 | [], [] => true
 | o :: r, o' :: r' => sameB o o' && sameL r r'
 | [], _ :: _ => false
 | _ :: _, [] => false
def sameD : List (List UInt8 × Ob) → List (List UInt8 × Ob) → Bool
 | [], [] => true
 | e :: r, e' :: r' => (e.1 == e'.1 && sameB e.2 e'.2) && sameD r r'
 | [], _ :: _ => false
 | _ :: _, [] => false
end
mutual
theorem show_same : ∀ (a b : Ob), sameB a b = true → a.show = b.show
 | .mk k n b l d, .mk k' n' b' l' d', h => by
  simp only [sameB, Bool.and_eq_true, beq_iff_eq] at h
  obtain ⟨rfl, h⟩ := h
  have h6 := showL_same l l'
  have h7 := showD_same d d'
  simp only [Ob.show]
  by_cases k1 : k = 1
  ·subst k1; simp at h; simp [h]
  by_cases k2 : k = 2
  ·subst k2; simp at h; simp [h]
  by_cases k3 : k = 3
  ·subst k3; simp at h; simp [h]
  by_cases k4 : k = 4
  ·subst k4; simp at h; simp [h]
  by_cases k5 : k = 5
  ·subst k5; simp at h; simp [h]
  by_cases k9 : k = 9
  ·subst k9; simp at h; simp [h]
  by_cases k6 : k = 6
  ·subst k6; simp at h; simp [h6 h]
  by_cases k78 : k = 7 ∨ k = 8
  ·simp only [k1, k2, k3, k4, k5, k9, k6, k78, or_self, if_false, if_true] at h ⊢
   simp at h
   rw [h7 h.2]
  ·simp only [k1, k2, k3, k4, k5, k9, k6, k78, if_false]
theorem showL_same : ∀ (l l' : List Ob), sameL l l' = true → ∀ f, showL f l = showL f l'
 | [], [], _, _ => rfl
 | [], _ :: _, h, _ => by simp [sameL] at h
 | _ :: _, [], h, _ => by simp [sameL] at h
 | o :: r, o' :: r', h, f => by
  simp only [sameL, Bool.and_eq_true] at h
  simp only [showL, show_same o o' h.1, showL_same r r' h.2 false]
theorem showD_same : ∀ (l l' : List (List UInt8 × Ob)), sameD l l' = true → showD l = showD l'
 | [], [], _ => rfl
 | [], _ :: _, h => by simp [sameD] at h
 | _ :: _, [], h => by simp [sameD] at h
 | e :: r, e' :: r', h => by
  simp only [sameD, Bool.and_eq_true, beq_iff_eq] at h
  simp only [showD, h.1.1, show_same e.2 e'.2 h.1.2, showD_same r r' h.2]
end
theorem cut_while {p : UInt8 → Bool} : ∀ {a b s t : List UInt8}, a.all p = true → b.all p = true → (∀ c r, s = c :: r → p c = false) → (∀ c r, t = c :: r → p c = false) → a ++ s = b ++ t → a = b ∧ s = t := by
 intro a
 induction a with
 | nil =>
  intro b s t _ hb hs _ e
  cases b with
  | nil => exact ⟨rfl, e⟩
  | cons y b =>
   have := hs y (b ++ t) (by simpa using e)
   simp at hb
   rw [hb.1] at this; cases this
 | cons x a ih =>
  intro b s t ha hb hs ht e
  cases b with
  | nil =>
   have := ht x (a ++ s) (by simpa using e.symm)
   simp at ha
   rw [ha.1] at this; cases this
  | cons y b =>
   simp only [List.all_cons, Bool.and_eq_true] at ha hb
   simp only [List.cons_append] at e
   injection e with e1 e2
   obtain ⟨h1, h2⟩ := ih ha.2 hb.2 hs ht e2
   exact ⟨by rw [e1, h1], h2⟩
def digB (c : UInt8) : Bool := decide (48 ≤ c.toNat ∧ c.toNat ≤ 57)
def dval (l : List UInt8) : Nat := l.foldl (fun n c => 10 * n + (c.toNat - 48)) 0
theorem dig_nat (u : Nat) (h : u < 10) : (UInt8.ofNat (48 + u)).toNat = 48 + u := UInt8.toNat_ofNat_of_lt' (by show _ < 256; omega)
theorem dec_digs : ∀ u, (Lib.decDigits u).all digB = true := by
 intro u
 induction u using Nat.strongRecOn with
 | _ u ih =>
  rw [Lib.decDigits]
  split
  ·rename_i h
   simp only [List.all_cons, List.all_nil, Bool.and_true, digB, dig_nat u h, decide_eq_true_eq]; omega
  ·rename_i h
   simp only [List.all_append, ih (u / 10) (by omega), List.all_cons, List.all_nil, Bool.and_true, Bool.true_and, digB, dig_nat (u % 10) (by omega), decide_eq_true_eq]; omega
theorem dval_dec : ∀ u, dval (Lib.decDigits u) = u := by
 intro u
 induction u using Nat.strongRecOn with
 | _ u ih =>
  rw [Lib.decDigits]
  split
  ·rename_i h; unfold dval; simp only [List.foldl_cons, List.foldl_nil, dig_nat u h]; omega
  ·rename_i h
   have := ih (u / 10) (by omega)
   unfold dval at this ⊢
   rw [List.foldl_append, this]
   simp only [List.foldl_cons, List.foldl_nil, dig_nat (u % 10) (by omega)]
   omega
theorem dec_inj {u v : Nat} (h : Lib.decDigits u = Lib.decDigits v) : u = v := by rw [← dval_dec u, ← dval_dec v, h]
theorem dec_head (u : Nat) : ∃ c r, Lib.decDigits u = c :: r ∧ digB c = true := by
 have h := dec_digs u
 cases e : Lib.decDigits u with
 | nil =>
  exfalso
  rw [Lib.decDigits] at e
  split at e
  ·cases e
  ·simp at e
 | cons c r => rw [e] at h; simp at h; exact ⟨c, r, rfl, h.1⟩
theorem trim_more (l : List UInt8) (c : UInt8) : ∃ k, l = Lib.trimRightB l c ++ List.replicate k c := by
 unfold Lib.trimRightB
 have key : ∀ m : List UInt8, ∃ k, m = List.replicate k c ++ m.dropWhile (· == c) := by
  intro m
  induction m with
  | nil => exact ⟨0, rfl⟩
  | cons x m ih =>
   by_cases hx : x = c
   ·subst hx
    obtain ⟨k, hk⟩ := ih
    refine ⟨k + 1, ?_⟩
    simp only [List.dropWhile_cons, beq_self_eq_true, if_true, List.replicate_succ, List.cons_append]
    rw [← hk]
   ·refine ⟨0, ?_⟩
    simp [List.dropWhile_cons, hx]
 obtain ⟨k, hk⟩ := key l.reverse
 refine ⟨k, ?_⟩
 have := congrArg List.reverse hk
 simpa using this
theorem trim_inj {l m : List UInt8} {c : UInt8} (hl : l.length = m.length) (h : Lib.trimRightB l c = Lib.trimRightB m c) : l = m := by
 obtain ⟨k, hk⟩ := trim_more l c
 obtain ⟨j, hj⟩ := trim_more m c
 rw [h] at hk
 have : k = j := by
  have h1 := congrArg List.length hk
  have h2 := congrArg List.length hj
  simp at h1 h2
  omega
 subst this
 exact hk.trans hj.symm
theorem six_dig (r : Nat) (h : r < 100000) : (Lib.decDigits (100000 + r)).length = 6 := by
 have ten : ∀ u, 10 ≤ u → (Lib.decDigits u).length = (Lib.decDigits (u / 10)).length + 1 := fun u hu => by
  rw [Lib.decDigits, dif_neg (by omega)]; simp
 rw [ten _ (by omega), ten _ (by omega), ten _ (by omega), ten _ (by omega), ten _ (by omega), Lib.decDigits, dif_pos (by omega)]
 rfl
theorem one_dig (r : Nat) (h : r < 100000) : ∃ p, Lib.decDigits (100000 + r) = 49 :: p ∧ p.length = 5 := by
 have ten : ∀ u, 10 ≤ u → Lib.decDigits u = Lib.decDigits (u / 10) ++ [UInt8.ofNat (48 + u % 10)] := fun u hu => by
  rw [Lib.decDigits, dif_neg (by omega)]
 have h6 := six_dig r h
 rw [ten _ (by omega), ten _ (by omega), ten _ (by omega), ten _ (by omega), ten _ (by omega), Lib.decDigits, dif_pos (by omega)] at h6 ⊢
 have e : (100000 + r) / 10 / 10 / 10 / 10 / 10 = 1 := by omega
 rw [e]
 refine ⟨_, rfl, ?_⟩
 rfl
theorem frac_inj {r s : Nat} (hr : r < 100000) (hs : s < 100000) (h : fracL r = fracL s) : r = s := by
 obtain ⟨p, hp, lp⟩ := one_dig r hr
 obtain ⟨q, hq, lq⟩ := one_dig s hs
 unfold fracL at h
 simp only [hp, hq, List.drop_succ_cons, List.drop_zero] at h
 cases p with
 | nil => simp at lp
 | cons x p =>
  cases q with
  | nil => simp at lq
  | cons y q =>
   simp only [List.take_succ_cons, List.take_zero, List.drop_succ_cons, List.drop_zero, List.cons_append, List.nil_append] at h
   injection h with h1 h2
   have := trim_inj (by simp at lp lq; omega) h2
   have e : Lib.decDigits (100000 + r) = Lib.decDigits (100000 + s) := by rw [hp, hq, h1, this]
   have := dec_inj e
   omega
def numB (c : UInt8) : Bool := digB c || c == 45 || c == 46
theorem dig_num {l : List UInt8} (h : l.all digB = true) : l.all numB = true := by
 rw [List.all_eq_true] at h ⊢
 intro x hx; simp [numB, h x hx]
theorem frac_digs (r : Nat) : (fracL r).all digB = true := by
 have h := dec_digs (100000 + r)
 rw [List.all_eq_true] at h ⊢
 intro x hx
 unfold fracL at hx
 refine h x ?_
 rcases List.mem_append.1 hx with h1 | h1
 ·exact List.mem_of_mem_drop (List.mem_of_mem_take h1)
 ·obtain ⟨k, hk⟩ := trim_more (((Lib.decDigits (100000 + r)).drop 1).drop 1) 48
  have : x ∈ ((Lib.decDigits (100000 + r)).drop 1).drop 1 := by rw [hk]; exact List.mem_append_left _ h1
  exact List.mem_of_mem_drop (List.mem_of_mem_drop this)
theorem num_all (n : Int) (w : Bool) : (numT n w).all numB = true := by
 unfold numT
 split
 ·unfold Lib.itoa
  split
  ·rw [List.all_cons, dig_num (dec_digs _)]; rfl
  ·exact dig_num (dec_digs _)
 ·rw [List.all_append, List.all_append, List.all_cons, dig_num (dec_digs _), dig_num (frac_digs _)]
  split <;> rfl
theorem dig_ne {c : UInt8} (h : digB c = true) : c ≠ 45 ∧ c ≠ 46 := by
 constructor <;> (rintro rfl; revert h; decide)
theorem num_inj {n m : Int} {w v : Bool} (h : numT n w = numT m v) : n = m ∧ w = v := by
 have nodot : ∀ k, (46 : UInt8) ∉ numT k true := by
  intro k hk
  unfold numT Lib.itoa at hk
  simp only [if_true] at hk
  have d := fun u => List.all_eq_true.1 (dec_digs u) 46
  split at hk
  ·rcases List.mem_cons.1 hk with e | e
   ·cases e
   ·exact absurd (d _ e) (by decide)
  ·exact absurd (d _ hk) (by decide)
 have dot : ∀ k, (46 : UInt8) ∈ numT k false := by intro k; unfold numT; simp
 have wv : w = v := by
  cases w <;> cases v
  ·rfl
  ·exact absurd (h ▸ dot n) (nodot m)
  ·exact absurd (h ▸ dot m) (nodot n)
  ·rfl
 subst wv
 refine ⟨?_, rfl⟩
 -- signs
 have first : ∀ k w, ∃ c r, numT k w = c :: r ∧ (c = 45 ↔ k < 0) := by
  intro k w
  unfold numT Lib.itoa
  have hd := fun u => dec_head u
  cases w with
  | true =>
   simp only [if_true]
   split
   ·rename_i hk; exact ⟨45, _, rfl, by simp [hk]⟩
   ·rename_i hk
    obtain ⟨c, r, e, hc⟩ := hd k.toNat
    exact ⟨c, r, e, ⟨fun e2 => absurd e2 (dig_ne hc).1, fun h2 => absurd h2 hk⟩⟩
  | false =>
   simp only [Bool.false_eq_true, if_false]
   split
   ·rename_i hk; exact ⟨45, _, rfl, by simp [hk]⟩
   ·rename_i hk
    obtain ⟨c, r, e, hc⟩ := hd (k.natAbs / 100000)
    rw [e]
    exact ⟨c, _, rfl, ⟨fun e2 => absurd e2 (dig_ne hc).1, fun h2 => absurd h2 hk⟩⟩
 have sg : n < 0 ↔ m < 0 := by
  obtain ⟨c, r, e, hc⟩ := first n w
  obtain ⟨c', r', e', hc'⟩ := first m w
  rw [e, e'] at h
  injection h with h1 _
  rw [← hc, ← hc', h1]
 cases w with
 | true =>
  unfold numT Lib.itoa at h
  simp only [if_true] at h
  by_cases hn : n < 0
  ·rw [if_pos hn, if_pos (sg.1 hn)] at h
   injection h with _ h
   have := dec_inj h
   have := sg.1 hn
   omega
  ·have hm : ¬ m < 0 := fun h => hn (sg.2 h)
   rw [if_neg hn, if_neg hm] at h
   have := dec_inj h
   omega
 | false =>
  unfold numT at h
  simp only [Bool.false_eq_true, if_false] at h
  have h2 : Lib.decDigits (n.natAbs / 100000) ++ (46 :: fracL (n.natAbs % 100000)) = Lib.decDigits (m.natAbs / 100000) ++ (46 :: fracL (m.natAbs % 100000)) := by
   by_cases hn : n < 0
   ·rw [if_pos hn, if_pos (sg.1 hn)] at h
    simpa using h
   ·have hm : ¬ m < 0 := fun h => hn (sg.2 h)
    rw [if_neg hn, if_neg hm] at h
    simpa using h
  obtain ⟨h3, h4⟩ := cut_while (p := digB) (dec_digs _) (dec_digs _) (fun c r e => by injection e with e _; subst e; rfl) (fun c r e => by injection e with e _; subst e; rfl) h2
  injection h4 with _ h4
  have e1 := dec_inj h3
  have e2 := frac_inj (Nat.mod_lt _ (by omega)) (Nat.mod_lt _ (by omega)) h4
  have e3 : n.natAbs = m.natAbs := by omega
  omega
theorem hexD_inj {a b : Nat} (ha : a < 16) (hb : b < 16) (h : hexD a = hexD b) : a = b := by
 have key : ∀ a : Fin 16, ∀ b : Fin 16, hexD a.val = hexD b.val → a = b := by decide +kernel
 have := key ⟨a, ha⟩ ⟨b, hb⟩ h
 exact congrArg Fin.val this
theorem hexD_reg (a : Nat) (h : a < 16) : regB (hexD a) = true ∧ hexD a ≠ 62 ∧ hexD a ≠ 60 := by
 have key : ∀ a : Fin 16, regB (hexD a.val) = true ∧ hexD a.val ≠ 62 ∧ hexD a.val ≠ 60 := by decide +kernel
 exact key ⟨a, h⟩
theorem hex_two (c : UInt8) : hexS [c] = [hexD (c.toNat / 16), hexD (c.toNat % 16)] := by simp [hexS]
theorem hex_inj1 {a b : UInt8} (h1 : hexD (a.toNat / 16) = hexD (b.toNat / 16)) (h2 : hexD (a.toNat % 16) = hexD (b.toNat % 16)) : a = b := by
 have ha := a.toNat_lt
 have hb := b.toNat_lt
 have e1 := hexD_inj (by omega) (by omega) h1
 have e2 := hexD_inj (by omega) (by omega) h2
 exact UInt8.toNat_inj.1 (by omega)
theorem hexS_inj : ∀ {a b : List UInt8}, hexS a = hexS b → a = b := by
 intro a
 induction a with
 | nil =>
  intro b h
  cases b with
  | nil => rfl
  | cons y b => simp [hexS] at h
 | cons x a ih =>
  intro b h
  cases b with
  | nil => simp [hexS] at h
  | cons y b =>
   simp only [hexS, List.flatMap_cons, List.cons_append, List.nil_append] at h
   injection h with h1 h
   injection h with h2 h
   rw [hex_inj1 h1 h2, ih h]
theorem nameC_all (c : UInt8) : (nameC c).all regB = true := by
 unfold nameC
 split
 ·rename_i h; simp [h.2.2.2]
 ·have := c.toNat_lt
  rw [hex_two]
  simp [(hexD_reg (c.toNat / 16) (by omega)).1, (hexD_reg (c.toNat % 16) (by omega)).1]
  decide
theorem names_all : ∀ s : List UInt8, (s.flatMap nameC).all regB = true := by
 intro s
 induction s with
 | nil => rfl
 | cons x s ih => rw [List.flatMap_cons, List.all_append, nameC_all, ih]; rfl
theorem names_inj : ∀ {a b : List UInt8}, a.flatMap nameC = b.flatMap nameC → a = b := by
 have pos : ∀ c, ∃ x r, nameC c = x :: r := fun c => by unfold nameC; split <;> exact ⟨_, _, rfl⟩
 intro a
 induction a with
 | nil =>
  intro b h
  cases b with
  | nil => rfl
  | cons y b => obtain ⟨x, r, e⟩ := pos y; simp [e] at h
 | cons x a ih =>
  intro b h
  cases b with
  | nil => obtain ⟨y, r, e⟩ := pos x; simp [e] at h
  | cons y b =>
   simp only [List.flatMap_cons] at h
   have key : x = y ∧ a.flatMap nameC = b.flatMap nameC := by
    unfold nameC at h
    rw [hex_two, hex_two] at h
    split at h <;> split at h
    ·simp only [List.cons_append, List.nil_append] at h
     injection h with h1 h2
     exact ⟨h1, h2⟩
    ·rename_i hx hy
     simp only [List.cons_append, List.nil_append] at h
     injection h with h1 _
     exact absurd h1 hx.2.2.1
    ·rename_i hx hy
     simp only [List.cons_append, List.nil_append] at h
     injection h with h1 _
     exact absurd h1.symm hy.2.2.1
    ·simp only [List.cons_append, List.nil_append] at h
     injection h with _ h
     injection h with h1 h
     injection h with h2 h
     exact ⟨hex_inj1 h1 h2, h⟩
   rw [key.1, ih key.2]
def Stop (s : List UInt8) : Prop := ∀ c r, s = c :: r → c = 32 ∨ c = 93 ∨ c = 47 ∨ c = 62
theorem Stop.reg {s : List UInt8} (h : Stop s) : ∀ c r, s = c :: r → regB c = false := by
 intro c r e
 rcases h c r e with rfl | rfl | rfl | rfl <;> decide
theorem Stop.num {s : List UInt8} (h : Stop s) : ∀ c r, s = c :: r → numB c = false := by
 intro c r e
 rcases h c r e with rfl | rfl | rfl | rfl <;> decide
theorem nameT_cut {a b s t : List UInt8} (hs : Stop s) (ht : Stop t) (h : nameT a ++ s = nameT b ++ t) : a = b ∧ s = t := by
 unfold nameT at h
 simp only [List.cons_append] at h
 injection h with _ h
 obtain ⟨h1, h2⟩ := cut_while (names_all a) (names_all b) hs.reg ht.reg h
 exact ⟨names_inj h1, h2⟩
theorem textT_cut {a b s t : List UInt8} (h : textT a ++ s = textT b ++ t) : a = b ∧ s = t := by
 have hexa : ∀ b : List UInt8, (hexS b).all (fun c => c != 62) = true := by
  intro b
  unfold hexS
  induction b with
  | nil => rfl
  | cons x b ih =>
   have := x.toNat_lt
   rw [List.flatMap_cons, List.all_append, ih]
   simp [(hexD_reg (x.toNat / 16) (by omega)).2.1, (hexD_reg (x.toNat % 16) (by omega)).2.1]
 have pl : ∀ b : List UInt8, b.all plainB = true → b.all (fun c => c != 41) = true := by
  intro b hb
  rw [List.all_eq_true] at hb ⊢
  intro x hx
  have := hb x hx
  unfold plainB at this
  simp at this
  simp [this]
 unfold textT at h
 split at h <;> split at h
 ·rename_i ha hb
  simp only [List.cons_append, List.append_assoc, List.nil_append] at h
  injection h with _ h
  obtain ⟨h1, h2⟩ := cut_while (pl a ha) (pl b hb) (fun c r e => by injection e with e _; subst e; rfl) (fun c r e => by injection e with e _; subst e; rfl) h
  injection h2 with _ h2
  exact ⟨h1, h2⟩
 ·simp only [List.cons_append] at h
  injection h with h _
  cases h
 ·simp only [List.cons_append] at h
  injection h with h _
  cases h
 ·simp only [List.cons_append, List.append_assoc, List.nil_append] at h
  injection h with _ h
  obtain ⟨h1, h2⟩ := cut_while (hexa a) (hexa b) (fun c r e => by injection e with e _; subst e; rfl) (fun c r e => by injection e with e _; subst e; rfl) h
  injection h2 with _ h2
  exact ⟨hexS_inj h1, h2⟩
end Go.Wk

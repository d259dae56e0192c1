/- Walks and laws, joined: part I. No condition. -/
import Derived.Test.YthffpbkndnhlfaaGreatDoorTbJH
import Derived.Test.YthffpbkndnhlfaaGreatDoorTbJF
import Derived.Lib.SlBytesConst
import Derived.Test.YthffpbkndnhlfaaGreatDoorTbJA
import Derived.Test.YthffpbkndnhlfaaGreatDoorTbJE
import Derived.BigRegion
import Derived.Shelf.Strings.Builder1
import Derived.Shelf.Strings.Builder2
import Derived.Shelf.Strings.Trim
import Derived.Shelf.Small.Utf8
import Derived.Shelf.Small.Strs
import Derived.Shelf.Strings.BuilderF
import Derived.Shelf.Strings.BuilderK
import Derived.Shelf.Strings.Builder2Cap
import Derived.Shelf.Strconv.Itoa0
import Derived.Shelf.Strconv.Itoa1
import Derived.Shelf.LaysM
import Derived.Shelf.Strconv.Itoa2
import Derived.Shelf.Strconv.Itoa3
import Derived.Shelf.Strconv.Itoa4
import Derived.Shelf.Strings.Search1
import Derived.Shelf.Strings.Search2
import Derived.Shelf.Strings.Search3
import Derived.Shelf.Strings.Shaped
import Derived.Shelf.Strings.Prefix
import Derived.Shelf.Unicode.Decode
import Derived.Shelf.Strings.Runes
import Derived.Shelf.Strings.AsciiSet
import Derived.Shelf.Bits.Mul64
import Derived.Shelf.Strings.Repeat
import Derived.Shelf.Unicode.DecodeSlow
import Derived.Shelf.Unicode.DecodeAny
import Derived.Shelf.Unicode.DecodeLast
import Derived.Shelf.Strings.BuilderCap
import Derived.Shelf.Bytes.SlClone
import Derived.Shelf.Bytes.SlJoin
import Derived.Test.YthffpbkndnhlfaaGreatDoorProg
set_option linter.unusedSimpArgs false
set_option linter.unusedVariables false
set_option maxRecDepth 100000
set_option maxHeartbeats 32000000
namespace Go.Proofs.YthffpbkndnhlfaaGreatDoor
open Go Go.RowKit Go.Wk Go.Rd Go.Fx
section
variable {P L R : Nat} {A : Option Addr} {c : Nat} {bs : Bs} {d dd : Nat} {pl : Bool} {W X X' w w' : World} {r r' u v : Bs} {k s : Tok}
theorem px_Value (hd : d ≤ 1001) (hsm6 : bs.length ≤ 100000000) (W : World) (h : PS P L R A c bs d pl W r) : Calls Tryz.prog 29 #[.pointer (some ⟨P, 0, none⟩)] W (ValP P L R A c bs d pl W (valS pl d r)) := by
 have cv := hi_ fun W h => px_value d hd (pl := pl) P L R A c bs d W r hsm6 h
 obtain ⟨RR, hRR⟩ : ∃ x, x = valS pl d r := ⟨_, rfl⟩
 rw [← hRR] at cv ⊢
 replace hRR := hi_ hRR
 obtain ⟨W1, hW1, b1, hT⟩ := newB W 32 #[.int .i64 0, .int .i64 0, .slice none 0 0, .slice none 0 0, .slice none 0 0]
 have zs : W1.heap.size = W.heap.size + 1 := by rw [hW1]; exact World.size_alloc _ _
 have hP := h.belowW b1
 have hLT := h.L_lt
 have hRT := h.R_lt
 have hPT := h.P_lt
 have hAT := h.a_lt
 have hneL : W.heap.size ≠ L := by omega
 have hneR : W.heap.size ≠ R := by omega
 have hsuf := (blank_sufL false r).trans h.suf
 have cm := hi_ fun W h => px_made (P := P) (L := L) (R := R) (A := A) (c := c) (bs := bs) (d := d) (pl := pl) (r := r) W h
 have p0 := hP.p0
 have q0 := hP.q0
 have hF := hi_ (Fr.of_below (L := L) (R := R) b1)
 have p1 := hP.par.cell 1
 refine h8_ hsuf hP hT b1 zs hneL hneR hAT ?_; clear hsuf hP hT b1 zs hneL hneR hAT; intro hsuf hP hT b1 zs hneL hneR hAT
 clear h
 go_enter Tryz.func29, Tryz.ntmps29
 go_upto_region 1 with fail
 rw [← hW1]
 replace hW1 := hi_ hW1
 cases RR with
 | err n v =>
  go_upto_region 4 with (first | (go_at_call 63; (with_reducible refine (cm.out _ hP.out).mono ?_); rintro e w2 ⟨rfl, rfl⟩) | (go_at_call 64; (with_reducible refine (cv.out _ hP.out).mono ?_); rintro e w4 ⟨hn0, rfl, hP2, hF2⟩; replace hT := hi_ (hF2.blk hneL.out hneR.out hT.out); replace hF := hi_ (hF.out.trans hF2); replace hP := hi_ hP2; replace p0 := hP.out.p0; replace q0 := hP.out.q0; have hnb := bne_iff_ne.2 hn0; replace hn0 := hi_ hn0; clear hP2 hF2))
  obtain ⟨WA, hWA, bWA, hUWA⟩ := newB w4 32 #[.int .i64 0, .int .i64 0, .slice none 0 0, .slice none 0 0, .slice none 0 0]
  rw [← hWA]
  obtain ⟨x0, x1, x2, x3, x4, -⟩ := hUWA.b5
  replace hT := hi_ (hT.out.below bWA hT.out.lt)
  replace hP := hi_ (hP.out.belowW bWA)
  replace hF := hi_ (hF.out.trans (Fr.of_below (L := L) (R := R) bWA))
  replace p0 := hP.out.p0
  replace q0 := hP.out.q0
  replace hUWA := hi_ hUWA
  replace hWA := hi_ hWA
  obtain ⟨z0, z1, z2, z3, z4, v0, v1, v2, v3, v4⟩ := hT.out.b5
  go_wp2
  generalize hWf : World.setCell _ _ _ = Wf
  replace hWf := hWf.symm
  obtain ⟨hb, hg⟩ := set5L hT.out hWf
  obtain ⟨u0, u1, u2, u3, u4, -⟩ := hb.b5
  have hPf := hi_ (hP.out.grownL hg (by omega) (by omega) (by omega) (fun h0 x hx => by have := hAT.out h0 x hx; omega))
  have hFf := hi_ (hF.out.grownL hg (Nat.le_refl _))
  replace hg := hi_ hg
  replace hWf := hi_ hWf
  clear hb z0 v0 z1 v1 z2 v2 z3 v3 z4 v4
  refine bodyPost_ret (by simp [results, Tryz.results29, go_sem, u0, u1, u2, u3, u4]; try rfl) rfl ?_
  exact ⟨hn0.out, rfl, hPf.out, hFf.out⟩
 | ok o v =>
  go_upto_region 4 with (first | (go_at_call 63; (with_reducible refine (cm.out _ hP.out).mono ?_); rintro e w2 ⟨rfl, rfl⟩) | (go_at_call 64; (with_reducible refine (cv.out _ hP.out).mono ?_); rintro e w4 ⟨us, rfl, hI, hP2, hF2⟩; obtain ⟨xk, xn, F1, F2, F3, fn1, fc1, fn2, fc2, fn3, fc3, rfl⟩ := five_exL hI.ob; replace hI := hi_ hI; have hwb := hi_ hF.out.size; have hwT := hi_ hT.out.lt; replace hT := hi_ (hF2.blk hneL.out hneR.out hT.out); replace hF := hi_ (hF.out.trans hF2); replace hP := hi_ hP2; replace p0 := hP.out.p0; replace q0 := hP.out.q0; clear hP2 hF2))
  obtain ⟨WA, hWA, bWA, hUWA⟩ := newB w4 32 #[.int .i64 xk, .int .i64 xn, .slice F1 fn1 fc1, .slice F2 fn2 fc2, .slice F3 fn3 fc3]
  rw [← hWA]
  obtain ⟨x0, x1, x2, x3, x4, -⟩ := hUWA.b5
  replace hT := hi_ (hT.out.below bWA hT.out.lt)
  replace hP := hi_ (hP.out.belowW bWA)
  replace hF := hi_ (hF.out.trans (Fr.of_below (L := L) (R := R) bWA))
  replace p0 := hP.out.p0
  replace q0 := hP.out.q0
  replace hUWA := hi_ hUWA
  replace hWA := hi_ hWA
  replace hI := hi_ (hI.out.keep (fun b hb1 hb2 => bWA.block b (by have := hI.out.1; omega)) (Nat.le_trans hI.out.1 bWA.size))
  obtain ⟨z0, z1, z2, z3, z4, v0, v1, v2, v3, v4⟩ := hT.out.b5
  go_wp2
  generalize hWf : World.setCell _ _ _ = Wf
  replace hWf := hWf.symm
  obtain ⟨hb, hg⟩ := set5L hT.out hWf
  obtain ⟨u0, u1, u2, u3, u4, -⟩ := hb.b5
  have hPf := hi_ (hP.out.grownL hg (by omega) (by omega) (by omega) (fun h0 x hx => by have := hAT.out h0 x hx; omega))
  have hFf := hi_ (hF.out.grownL hg (Nat.le_refl _))
  replace hg := hi_ hg
  replace hWf := hi_ hWf
  clear hb z0 v0 z1 v1 z2 v2 z3 v3 z4 v4
  refine bodyPost_ret (by simp [results, Tryz.results29, go_sem, u0, u1, u2, u3, u4]; try rfl) rfl ?_
  have hIf := (hI.out.keep (fun b hb1 hb2 => hg.out.block b (by have := hI.out.1; omega) (by intro e; injection e with e; have := hwT.out; omega)) (Nat.le_trans hI.out.1 hg.out.size)).wide hwb.out
  have hIg : ObI W.heap.size Wf.heap.size Wf o _ := ⟨Nat.le_refl _, fun w' h hz => hIf.2 w' (fun b h1 h2 => h b h1 (Nat.lt_of_lt_of_le h2 hIf.1)) (Nat.le_trans hIf.1 hz)⟩
  exact ⟨_, rfl, hIg, hPf.out, hFf.out⟩
def WantP (P L R : Nat) (A : Option Addr) (c : Nat) (bs : Bs) (d : Nat) (pl : Bool) (w : World) (res : Res Tok) (e : Ending) (w' : World) : Prop := match res with
 | .ok t u => ∃ (a : Int) (Av : Option Addr) (nv cv : Nat), e = .returned (.tuple #[.agg #[.int .i64 t.k, .int .i64 a, .int .i64 t.n, .slice Av nv cv], .int .i64 0]) ∧ PS P L R A c bs d pl w' u ∧ Fr L R w w'
 | .err n u => n ≠ 0 ∧ e = .returned (.tuple #[.agg #[.int .i64 0, .int .i64 0, .int .i64 0, .slice none 0 0], .int .i64 n]) ∧ PS P L R A c bs d pl w' u ∧ Fr L R w w'
theorem clo_W {B : Nat} {b : Bs} {a2 : Option Addr} {n2 c2 : Nat} (kk a n : Int) (S : ByteArray) (q : Nat) (W : World) (hO : Own B W (.slice a2 n2 c2) b) (hq : W.cell? ⟨q, 0, none⟩ = some (.string S)) : Calls Tryz.prog 52 #[.agg #[.int .i64 kk, .int .i64 a, .int .i64 n, .slice a2 n2 c2], .pointer (some ⟨q, 0, none⟩)] W fun e w' => e = .returned (.bool (decide (kk = 9 ∧ b = S.data.toList))) ∧ Below W.heap.size W w' := by
 have hb : Below W.heap.size W (W.alloc (.cells #[.int .i64 kk, .int .i64 a, .int .i64 n, .slice a2 n2 c2] 108)) := (Below.refl _ _).alloc (Nat.le_refl _) _
 have hcv := conv_ownL (hO.below hb)
 have ql := cell_lt hq
 replace hb := hi_ hb
 replace hO := hi_ hO
 obtain ⟨D, hD⟩ : ∃ D, D = decide (kk = 9 ∧ b = S.data.toList) := ⟨_, rfl⟩
 rw [← hD]
 replace hD := hi_ hD
 by_cases hk : kk = 9
 ·subst hk
  go_enter Tryz.func52, Tryz.ntmps52
  go_wp2
  go_ret
  refine ⟨?_, hb.out⟩
  rw [hD.out]
  refine congrArg (fun x => Ending.returned (Value.bool x)) ?_
  rw [ByteArray.toList_eq, Bool.eq_iff_iff]
  simp
 ·have hkb : (kk == 9) = false := beq_eq_false_iff_ne.2 hk
  replace hk := hi_ hk
  go_enter Tryz.func52, Tryz.ntmps52
  go_wp2
  go_ret
  refine ⟨?_, hb.out⟩
  rw [hD.out, decide_eq_false (fun h => hk.out h.1)]
  rfl
theorem clo_N (kk a n lo hi : Int) (v : Value) (p q : Nat) (W : World) (hp : W.cell? ⟨p, 0, none⟩ = some (.int .i64 lo)) (hq : W.cell? ⟨q, 0, none⟩ = some (.int .i64 hi)) (hv : ∃ a2 n2 c2, v = .slice a2 n2 c2) : Calls Tryz.prog 85 #[.agg #[.int .i64 kk, .int .i64 a, .int .i64 n, v], .pointer (some ⟨p, 0, none⟩), .pointer (some ⟨q, 0, none⟩)] W fun e w' => e = .returned (.bool (decide (kk = 1 ∧ lo ≤ n ∧ n ≤ hi))) ∧ Below W.heap.size W w' := by
 obtain ⟨a2, n2, c2, rfl⟩ := hv
 have hb : Below W.heap.size W (W.alloc (.cells #[.int .i64 kk, .int .i64 a, .int .i64 n, .slice a2 n2 c2] 108)) := (Below.refl _ _).alloc (Nat.le_refl _) _
 have pl := cell_lt hp
 have ql := cell_lt hq
 replace hb := hi_ hb
 obtain ⟨D, hD⟩ : ∃ D, D = decide (kk = 1 ∧ lo ≤ n ∧ n ≤ hi) := ⟨_, rfl⟩
 rw [← hD]
 replace hD := hi_ hD
 by_cases hk : kk = 1
 ·subst hk
  go_enter Tryz.func85, Tryz.ntmps85
  go_wp2
  all_goals go_ret
  all_goals refine ⟨?_, hb.out⟩
  all_goals rw [hD.out]
  all_goals refine congrArg (fun x => Ending.returned (Value.bool x)) ?_
  all_goals first
   | (exact decide_eq_decide.2 ⟨fun _ => ⟨trivial, by omega, by omega⟩, fun h => h.2.2⟩)
   | (exact (decide_eq_false (fun h => by omega)).symm)
 ·have hkb : (kk == 1) = false := beq_eq_false_iff_ne.2 hk
  replace hk := hi_ hk
  go_enter Tryz.func85, Tryz.ntmps85
  go_wp2
  go_ret
  refine ⟨?_, hb.out⟩
  rw [hD.out, decide_eq_false (fun h => hk.out h.1)]
  rfl
theorem px_WantW {S : ByteArray} {q : Nat} (W : World) (h : PS P L R A c bs d pl W r) (hQq : Blk W q 9 #[.string S]) (hqL : q ≠ L) (hqR : q ≠ R) : Calls Tryz.prog 51 #[.pointer (some ⟨P, 0, none⟩), .func (.func 52) #[] #[.pointer (some ⟨q, 0, none⟩)]] W (WantP P L R A c bs d pl W (wantW S.data.toList r)) := by
 obtain ⟨RR, hRR⟩ : ∃ x, x = wantW S.data.toList r := ⟨_, rfl⟩
 rw [← hRR]
 replace hRR := hi_ hRR
 obtain ⟨W1, hW1, b1, hT⟩ := newB W 108 #[.int .i64 0, .int .i64 0, .int .i64 0, .slice none 0 0]
 have zs : W1.heap.size = W.heap.size + 1 := by rw [hW1]; exact World.size_alloc _ _
 have hP := h.belowW b1
 have hLT := h.L_lt
 have hRT := h.R_lt
 have hPT := h.P_lt
 have hAT := h.a_lt
 have hneL : W.heap.size ≠ L := by omega
 have hneR : W.heap.size ≠ R := by omega
 have hsuf := (blank_sufL false r).trans h.suf
 have cm := hi_ fun W h => px_made (P := P) (L := L) (R := R) (A := A) (c := c) (bs := bs) (d := d) (pl := pl) (r := r) W h
 have p0 := hP.p0
 have q0 := hP.q0
 have hF := hi_ (Fr.of_below (L := L) (R := R) b1)
 replace hQq := hi_ (hQq.below b1 hQq.lt)
 replace hqL := hi_ hqL
 replace hqR := hi_ hqR
 obtain ⟨at1, ha1⟩ : ∃ a : Int, a = (pos bs (blankM false r) : Nat) := ⟨_, rfl⟩
 have cst := fun (n : Int) => Lib.hid fun (r2 : Bs) W h => px_stop (P := P) (L := L) (R := R) (A := A) (c := c) (bs := bs) (d := d) (pl := pl) (r := r2) hsuf ha1 n W h
 cases ht : tokS r with
 | err n u =>
  obtain rfl : RR = .err n u := hRR.out.trans (w_err ht)
  have ct := hi_ fun W h => px_err (P := P) (L := L) (R := R) (A := A) (c := c) (bs := bs) (d := d) (pl := pl) ht ha1 W h
  replace ha1 := hi_ ha1
  clear cst ht hRR
  refine h8_ hsuf hP hT b1 zs hneL hneR hAT ?_; clear hsuf hP hT b1 zs hneL hneR hAT; intro hsuf hP hT b1 zs hneL hneR hAT
  clear h
  go_enter Tryz.func51, Tryz.ntmps51
  go_upto_region 1 with fail
  rw [← hW1]
  replace hW1 := hi_ hW1
  go_upto_region 4 with (first | (go_at_call 63; (with_reducible refine (cm.out _ hP.out).mono ?_); rintro e w2 ⟨rfl, rfl⟩) | (go_at_call 82; (with_reducible refine (ct.out _ hP.out).mono ?_); rintro e w4 ⟨hn0, rfl, hP2, hF2⟩; replace hT := hi_ (hF2.blk hneL.out hneR.out hT.out); replace hF := hi_ (hF.out.trans hF2); replace hP := hi_ hP2; replace p0 := hP.out.p0; replace q0 := hP.out.q0; replace hQq := hi_ (hF2.blk hqL.out hqR.out hQq.out); have hnb := bne_iff_ne.2 hn0; replace hn0 := hi_ hn0; clear hP2 hF2))
  obtain ⟨WA, hWA, bWA, hUWA⟩ := newB w4 108 #[.int .i64 0, .int .i64 at1, .int .i64 0, .slice none 0 0]
  rw [← hWA]
  obtain ⟨x0, x1, x2, x3, -⟩ := hUWA.b4
  replace hT := hi_ (hT.out.below bWA hT.out.lt)
  replace hP := hi_ (hP.out.belowW bWA)
  replace hF := hi_ (hF.out.trans (Fr.of_below (L := L) (R := R) bWA))
  replace p0 := hP.out.p0
  replace q0 := hP.out.q0
  replace hUWA := hi_ hUWA
  replace hWA := hi_ hWA
  replace hQq := hi_ (hQq.out.below bWA hQq.out.lt)
  obtain ⟨z0, z1, z2, z3, v0, v1, v2, v3⟩ := hT.out.b4
  go_wp2
  generalize hWf : World.setCell _ _ _ = Wf
  replace hWf := hWf.symm
  obtain ⟨hb, hg⟩ := set4L hT.out hWf
  obtain ⟨u0, u1, u2, u3, -⟩ := hb.b4
  have hPf := hi_ (hP.out.grownL hg (by omega) (by omega) (by omega) (fun h0 x hx => by have := hAT.out h0 x hx; omega))
  have hFf := hi_ (hF.out.grownL hg (Nat.le_refl _))
  replace hg := hi_ hg
  replace hWf := hi_ hWf
  clear hb z0 v0 z1 v1 z2 v2 z3 v3
  refine bodyPost_ret (by simp [results, Tryz.results51, go_sem, u0, u1, u2, u3]; try rfl) rfl ?_
  exact ⟨hn0.out, rfl, hPf.out, hFf.out⟩
 | ok k u =>
  have ct := hi_ fun W h => px_ok (P := P) (L := L) (R := R) (A := A) (c := c) (bs := bs) (d := d) (pl := pl) ht ha1 W h
  replace ha1 := hi_ ha1
  obtain ⟨kk, hkk⟩ : ∃ x, x = k.k := ⟨_, rfl⟩
  rw [← hkk] at ct
  by_cases hk0 : kk = 0
  ·obtain rfl : RR = .err 2 (blankM false r) := hRR.out.trans (w_end ht (hkk.symm.trans hk0))
   have cs := cst 2
   subst hk0
   replace hkk := hi_ hkk
   clear cst ht hRR
   refine h8_ hsuf hP hT b1 zs hneL hneR hAT ?_; clear hsuf hP hT b1 zs hneL hneR hAT; intro hsuf hP hT b1 zs hneL hneR hAT
   clear h
   go_enter Tryz.func51, Tryz.ntmps51
   go_upto_region 1 with fail
   rw [← hW1]
   replace hW1 := hi_ hW1
   go_upto_region 4 with (first | (go_at_call 63; (with_reducible refine (cm.out _ hP.out).mono ?_); rintro e w2 ⟨rfl, rfl⟩) | (go_at_call 82; (with_reducible refine (ct.out _ hP.out).mono ?_); rintro e w4 ⟨a2, c2, rfl, hO, hP2, hF2⟩; replace hT := hi_ (hF2.blk hneL.out hneR.out hT.out); replace hF := hi_ (hF.out.trans hF2); replace hP := hi_ hP2; replace p0 := hP.out.p0; replace q0 := hP.out.q0; replace hQq := hi_ (hF2.blk hqL.out hqR.out hQq.out); replace hO := hi_ hO; clear hP2 hF2))
   obtain ⟨WA, hWA, bWA, hUWA⟩ := newB w4 108 #[.int .i64 0, .int .i64 at1, .int .i64 k.n, .slice a2 k.b.length c2]
   rw [← hWA]
   obtain ⟨x0, x1, x2, x3, -⟩ := hUWA.b4
   replace hT := hi_ (hT.out.below bWA hT.out.lt)
   replace hP := hi_ (hP.out.belowW bWA)
   replace hF := hi_ (hF.out.trans (Fr.of_below (L := L) (R := R) bWA))
   replace p0 := hP.out.p0
   replace q0 := hP.out.q0
   replace hUWA := hi_ hUWA
   replace hWA := hi_ hWA
   replace hQq := hi_ (hQq.out.below bWA hQq.out.lt)
   go_wp2_with (go_at_call 83; (with_reducible refine (cs.out _ _ hP.out).mono ?_); rintro e w6 ⟨rfl, hP2, hF2⟩; replace hT := hi_ (hF2.blk hneL.out hneR.out hT.out); replace hF := hi_ (hF.out.trans hF2); replace hP := hi_ hP2; replace p0 := hP.out.p0; replace q0 := hP.out.q0; replace hQq := hi_ (hF2.blk hqL.out hqR.out hQq.out); obtain ⟨z0, z1, z2, z3, v0, v1, v2, v3⟩ := hT.out.b4; clear hP2 hF2)
   generalize hWf : World.setCell _ _ _ = Wf
   replace hWf := hWf.symm
   obtain ⟨hb, hg⟩ := set4L hT.out hWf
   obtain ⟨u0, u1, u2, u3, -⟩ := hb.b4
   have hPf := hi_ (hP.out.grownL hg (by omega) (by omega) (by omega) (fun h0 x hx => by have := hAT.out h0 x hx; omega))
   have hFf := hi_ (hF.out.grownL hg (Nat.le_refl _))
   replace hg := hi_ hg
   replace hWf := hi_ hWf
   clear hb z0 v0 z1 v1 z2 v2 z3 v3
   refine bodyPost_ret (by simp [results, Tryz.results51, go_sem, u0, u1, u2, u3]; try rfl) rfl ?_
   exact ⟨by decide, rfl, hPf.out, hFf.out⟩
  ·have hb0 : (kk == 0) = false := beq_eq_false_iff_ne.2 hk0
   by_cases hw : kk = 9 ∧ k.b = S.data.toList
   ·obtain rfl : RR = .ok k u := hRR.out.trans (w_yes ht (by rw [← hkk]; exact hw))
    have hDD := hi_ (decide_eq_true hw)
    refine h3_ hkk hk0 hw ?_; clear hkk hk0 hw; intro hkk hk0 hw
    clear cst ht hRR
    refine h8_ hsuf hP hT b1 zs hneL hneR hAT ?_; clear hsuf hP hT b1 zs hneL hneR hAT; intro hsuf hP hT b1 zs hneL hneR hAT
    clear h
    go_enter Tryz.func51, Tryz.ntmps51
    go_upto_region 1 with fail
    rw [← hW1]
    replace hW1 := hi_ hW1
    go_upto_region 4 with (first | (go_at_call 63; (with_reducible refine (cm.out _ hP.out).mono ?_); rintro e w2 ⟨rfl, rfl⟩) | (go_at_call 82; (with_reducible refine (ct.out _ hP.out).mono ?_); rintro e w4 ⟨a2, c2, rfl, hO, hP2, hF2⟩; replace hT := hi_ (hF2.blk hneL.out hneR.out hT.out); replace hF := hi_ (hF.out.trans hF2); replace hP := hi_ hP2; replace p0 := hP.out.p0; replace q0 := hP.out.q0; replace hQq := hi_ (hF2.blk hqL.out hqR.out hQq.out); replace hO := hi_ hO; clear hP2 hF2))
    obtain ⟨WA, hWA, bWA, hUWA⟩ := newB w4 108 #[.int .i64 kk, .int .i64 at1, .int .i64 k.n, .slice a2 k.b.length c2]
    rw [← hWA]
    obtain ⟨x0, x1, x2, x3, -⟩ := hUWA.b4
    replace hT := hi_ (hT.out.below bWA hT.out.lt)
    replace hP := hi_ (hP.out.belowW bWA)
    replace hF := hi_ (hF.out.trans (Fr.of_below (L := L) (R := R) bWA))
    replace p0 := hP.out.p0
    replace q0 := hP.out.q0
    replace hUWA := hi_ hUWA
    replace hWA := hi_ hWA
    replace hQq := hi_ (hQq.out.below bWA hQq.out.lt)
    replace hO := hi_ (hO.out.below bWA)
    have cq0 : WA.cell? ⟨q, 0, none⟩ = some (.string S) := hQq.out.cell 0
    go_wp2_with (go_at_call 52; (with_reducible refine (clo_W kk at1 k.n S q _ hO.out cq0).mono ?_); rw [hDD.out]; rintro e w7 ⟨rfl, hB7⟩; have hF2 := Fr.of_below (L := L) (R := R) hB7; have hP2 := hP.out.belowW hB7; replace hT := hi_ (hF2.blk hneL.out hneR.out hT.out); replace hF := hi_ (hF.out.trans hF2); replace hP := hi_ hP2; replace p0 := hP.out.p0; replace q0 := hP.out.q0; replace hQq := hi_ (hF2.blk hqL.out hqR.out hQq.out); obtain ⟨z0, z1, z2, z3, v0, v1, v2, v3⟩ := hT.out.b4; replace hUWA := hi_ (hUWA.out.below hB7 hUWA.out.lt); obtain ⟨x0, x1, x2, x3, -⟩ := hUWA.out.b4; clear hP2 hF2 hB7)
    generalize hWf : World.setCell _ _ _ = Wf
    replace hWf := hWf.symm
    obtain ⟨hb, hg⟩ := set4L hT.out hWf
    obtain ⟨u0, u1, u2, u3, -⟩ := hb.b4
    have hPf := hi_ (hP.out.grownL hg (by omega) (by omega) (by omega) (fun h0 x hx => by have := hAT.out h0 x hx; omega))
    have hFf := hi_ (hF.out.grownL hg (Nat.le_refl _))
    replace hg := hi_ hg
    replace hWf := hi_ hWf
    clear hb z0 v0 z1 v1 z2 v2 z3 v3
    refine bodyPost_ret (by simp [results, Tryz.results51, go_sem, u0, u1, u2, u3]; try rfl) rfl ?_
    rw [hkk.out]
    exact ⟨at1, a2, _, c2, rfl, hPf.out, hFf.out⟩
   ·obtain rfl : RR = .err 4 (blankM false r) := hRR.out.trans (w_no ht (by rw [← hkk]; exact hk0) (by rw [← hkk]; exact hw))
    have hDD := hi_ (decide_eq_false hw)
    have cs := cst 4
    refine h3_ hkk hk0 hw ?_; clear hkk hk0 hw; intro hkk hk0 hw
    clear cst ht hRR
    refine h8_ hsuf hP hT b1 zs hneL hneR hAT ?_; clear hsuf hP hT b1 zs hneL hneR hAT; intro hsuf hP hT b1 zs hneL hneR hAT
    clear h
    go_enter Tryz.func51, Tryz.ntmps51
    go_upto_region 1 with fail
    rw [← hW1]
    replace hW1 := hi_ hW1
    go_upto_region 4 with (first | (go_at_call 63; (with_reducible refine (cm.out _ hP.out).mono ?_); rintro e w2 ⟨rfl, rfl⟩) | (go_at_call 82; (with_reducible refine (ct.out _ hP.out).mono ?_); rintro e w4 ⟨a2, c2, rfl, hO, hP2, hF2⟩; replace hT := hi_ (hF2.blk hneL.out hneR.out hT.out); replace hF := hi_ (hF.out.trans hF2); replace hP := hi_ hP2; replace p0 := hP.out.p0; replace q0 := hP.out.q0; replace hQq := hi_ (hF2.blk hqL.out hqR.out hQq.out); replace hO := hi_ hO; clear hP2 hF2))
    obtain ⟨WA, hWA, bWA, hUWA⟩ := newB w4 108 #[.int .i64 kk, .int .i64 at1, .int .i64 k.n, .slice a2 k.b.length c2]
    rw [← hWA]
    obtain ⟨x0, x1, x2, x3, -⟩ := hUWA.b4
    replace hT := hi_ (hT.out.below bWA hT.out.lt)
    replace hP := hi_ (hP.out.belowW bWA)
    replace hF := hi_ (hF.out.trans (Fr.of_below (L := L) (R := R) bWA))
    replace p0 := hP.out.p0
    replace q0 := hP.out.q0
    replace hUWA := hi_ hUWA
    replace hWA := hi_ hWA
    replace hQq := hi_ (hQq.out.below bWA hQq.out.lt)
    replace hO := hi_ (hO.out.below bWA)
    have cq0 : WA.cell? ⟨q, 0, none⟩ = some (.string S) := hQq.out.cell 0
    go_wp2_with (first | (go_at_call 52; (with_reducible refine (clo_W kk at1 k.n S q _ hO.out cq0).mono ?_); rw [hDD.out]; rintro e w7 ⟨rfl, hB7⟩; have hF2 := Fr.of_below (L := L) (R := R) hB7; have hP2 := hP.out.belowW hB7; replace hT := hi_ (hF2.blk hneL.out hneR.out hT.out); replace hF := hi_ (hF.out.trans hF2); replace hP := hi_ hP2; replace p0 := hP.out.p0; replace q0 := hP.out.q0; replace hQq := hi_ (hF2.blk hqL.out hqR.out hQq.out); replace hUWA := hi_ (hUWA.out.below hB7 hUWA.out.lt); obtain ⟨x0, x1, x2, x3, -⟩ := hUWA.out.b4; clear hP2 hF2 hB7) | (go_at_call 83; (with_reducible refine (cs.out _ _ hP.out).mono ?_); rintro e w6 ⟨rfl, hP2, hF2⟩; replace hT := hi_ (hF2.blk hneL.out hneR.out hT.out); replace hF := hi_ (hF.out.trans hF2); replace hP := hi_ hP2; replace p0 := hP.out.p0; replace q0 := hP.out.q0; replace hQq := hi_ (hF2.blk hqL.out hqR.out hQq.out); obtain ⟨z0, z1, z2, z3, v0, v1, v2, v3⟩ := hT.out.b4; clear hP2 hF2))
    generalize hWf : World.setCell _ _ _ = Wf
    replace hWf := hWf.symm
    obtain ⟨hb, hg⟩ := set4L hT.out hWf
    obtain ⟨u0, u1, u2, u3, -⟩ := hb.b4
    have hPf := hi_ (hP.out.grownL hg (by omega) (by omega) (by omega) (fun h0 x hx => by have := hAT.out h0 x hx; omega))
    have hFf := hi_ (hF.out.grownL hg (Nat.le_refl _))
    replace hg := hi_ hg
    replace hWf := hi_ hWf
    clear hb z0 v0 z1 v1 z2 v2 z3 v3
    refine bodyPost_ret (by simp [results, Tryz.results51, go_sem, u0, u1, u2, u3]; try rfl) rfl ?_
    exact ⟨by decide, rfl, hPf.out, hFf.out⟩
theorem px_WantN {lo hi : Int} {p q : Nat} (W : World) (h : PS P L R A c bs d pl W r) (hQp : Blk W p 3 #[.int .i64 lo]) (hpL : p ≠ L) (hpR : p ≠ R) (hQq : Blk W q 3 #[.int .i64 hi]) (hqL : q ≠ L) (hqR : q ≠ R) : Calls Tryz.prog 51 #[.pointer (some ⟨P, 0, none⟩), .func (.func 85) #[] #[.pointer (some ⟨p, 0, none⟩), .pointer (some ⟨q, 0, none⟩)]] W (WantP P L R A c bs d pl W (wantN lo hi r)) := by
 obtain ⟨RR, hRR⟩ : ∃ x, x = wantN lo hi r := ⟨_, rfl⟩
 rw [← hRR]
 replace hRR := hi_ hRR
 obtain ⟨W1, hW1, b1, hT⟩ := newB W 108 #[.int .i64 0, .int .i64 0, .int .i64 0, .slice none 0 0]
 have zs : W1.heap.size = W.heap.size + 1 := by rw [hW1]; exact World.size_alloc _ _
 have hP := h.belowW b1
 have hLT := h.L_lt
 have hRT := h.R_lt
 have hPT := h.P_lt
 have hAT := h.a_lt
 have hneL : W.heap.size ≠ L := by omega
 have hneR : W.heap.size ≠ R := by omega
 have hsuf := (blank_sufL false r).trans h.suf
 have cm := hi_ fun W h => px_made (P := P) (L := L) (R := R) (A := A) (c := c) (bs := bs) (d := d) (pl := pl) (r := r) W h
 have p0 := hP.p0
 have q0 := hP.q0
 have hF := hi_ (Fr.of_below (L := L) (R := R) b1)
 replace hQp := hi_ (hQp.below b1 hQp.lt)
 replace hpL := hi_ hpL
 replace hpR := hi_ hpR
 replace hQq := hi_ (hQq.below b1 hQq.lt)
 replace hqL := hi_ hqL
 replace hqR := hi_ hqR
 obtain ⟨at1, ha1⟩ : ∃ a : Int, a = (pos bs (blankM false r) : Nat) := ⟨_, rfl⟩
 have cst := fun (n : Int) => Lib.hid fun (r2 : Bs) W h => px_stop (P := P) (L := L) (R := R) (A := A) (c := c) (bs := bs) (d := d) (pl := pl) (r := r2) hsuf ha1 n W h
 cases ht : tokS r with
 | err n u =>
  obtain rfl : RR = .err n u := hRR.out.trans (n_err ht)
  have ct := hi_ fun W h => px_err (P := P) (L := L) (R := R) (A := A) (c := c) (bs := bs) (d := d) (pl := pl) ht ha1 W h
  replace ha1 := hi_ ha1
  clear cst ht hRR
  refine h8_ hsuf hP hT b1 zs hneL hneR hAT ?_; clear hsuf hP hT b1 zs hneL hneR hAT; intro hsuf hP hT b1 zs hneL hneR hAT
  clear h
  go_enter Tryz.func51, Tryz.ntmps51
  go_upto_region 1 with fail
  rw [← hW1]
  replace hW1 := hi_ hW1
  go_upto_region 4 with (first | (go_at_call 63; (with_reducible refine (cm.out _ hP.out).mono ?_); rintro e w2 ⟨rfl, rfl⟩) | (go_at_call 82; (with_reducible refine (ct.out _ hP.out).mono ?_); rintro e w4 ⟨hn0, rfl, hP2, hF2⟩; replace hT := hi_ (hF2.blk hneL.out hneR.out hT.out); replace hF := hi_ (hF.out.trans hF2); replace hP := hi_ hP2; replace p0 := hP.out.p0; replace q0 := hP.out.q0; replace hQp := hi_ (hF2.blk hpL.out hpR.out hQp.out); replace hQq := hi_ (hF2.blk hqL.out hqR.out hQq.out); have hnb := bne_iff_ne.2 hn0; replace hn0 := hi_ hn0; clear hP2 hF2))
  obtain ⟨WA, hWA, bWA, hUWA⟩ := newB w4 108 #[.int .i64 0, .int .i64 at1, .int .i64 0, .slice none 0 0]
  rw [← hWA]
  obtain ⟨x0, x1, x2, x3, -⟩ := hUWA.b4
  replace hT := hi_ (hT.out.below bWA hT.out.lt)
  replace hP := hi_ (hP.out.belowW bWA)
  replace hF := hi_ (hF.out.trans (Fr.of_below (L := L) (R := R) bWA))
  replace p0 := hP.out.p0
  replace q0 := hP.out.q0
  replace hUWA := hi_ hUWA
  replace hWA := hi_ hWA
  replace hQp := hi_ (hQp.out.below bWA hQp.out.lt)
  replace hQq := hi_ (hQq.out.below bWA hQq.out.lt)
  obtain ⟨z0, z1, z2, z3, v0, v1, v2, v3⟩ := hT.out.b4
  go_wp2
  generalize hWf : World.setCell _ _ _ = Wf
  replace hWf := hWf.symm
  obtain ⟨hb, hg⟩ := set4L hT.out hWf
  obtain ⟨u0, u1, u2, u3, -⟩ := hb.b4
  have hPf := hi_ (hP.out.grownL hg (by omega) (by omega) (by omega) (fun h0 x hx => by have := hAT.out h0 x hx; omega))
  have hFf := hi_ (hF.out.grownL hg (Nat.le_refl _))
  replace hg := hi_ hg
  replace hWf := hi_ hWf
  clear hb z0 v0 z1 v1 z2 v2 z3 v3
  refine bodyPost_ret (by simp [results, Tryz.results51, go_sem, u0, u1, u2, u3]; try rfl) rfl ?_
  exact ⟨hn0.out, rfl, hPf.out, hFf.out⟩
 | ok k u =>
  have ct := hi_ fun W h => px_ok (P := P) (L := L) (R := R) (A := A) (c := c) (bs := bs) (d := d) (pl := pl) ht ha1 W h
  replace ha1 := hi_ ha1
  obtain ⟨kk, hkk⟩ : ∃ x, x = k.k := ⟨_, rfl⟩
  rw [← hkk] at ct
  by_cases hk0 : kk = 0
  ·obtain rfl : RR = .err 2 (blankM false r) := hRR.out.trans (n_end ht (hkk.symm.trans hk0))
   have cs := cst 2
   subst hk0
   replace hkk := hi_ hkk
   clear cst ht hRR
   refine h8_ hsuf hP hT b1 zs hneL hneR hAT ?_; clear hsuf hP hT b1 zs hneL hneR hAT; intro hsuf hP hT b1 zs hneL hneR hAT
   clear h
   go_enter Tryz.func51, Tryz.ntmps51
   go_upto_region 1 with fail
   rw [← hW1]
   replace hW1 := hi_ hW1
   go_upto_region 4 with (first | (go_at_call 63; (with_reducible refine (cm.out _ hP.out).mono ?_); rintro e w2 ⟨rfl, rfl⟩) | (go_at_call 82; (with_reducible refine (ct.out _ hP.out).mono ?_); rintro e w4 ⟨a2, c2, rfl, hO, hP2, hF2⟩; replace hT := hi_ (hF2.blk hneL.out hneR.out hT.out); replace hF := hi_ (hF.out.trans hF2); replace hP := hi_ hP2; replace p0 := hP.out.p0; replace q0 := hP.out.q0; replace hQp := hi_ (hF2.blk hpL.out hpR.out hQp.out); replace hQq := hi_ (hF2.blk hqL.out hqR.out hQq.out); replace hO := hi_ hO; clear hP2 hF2))
   obtain ⟨WA, hWA, bWA, hUWA⟩ := newB w4 108 #[.int .i64 0, .int .i64 at1, .int .i64 k.n, .slice a2 k.b.length c2]
   rw [← hWA]
   obtain ⟨x0, x1, x2, x3, -⟩ := hUWA.b4
   replace hT := hi_ (hT.out.below bWA hT.out.lt)
   replace hP := hi_ (hP.out.belowW bWA)
   replace hF := hi_ (hF.out.trans (Fr.of_below (L := L) (R := R) bWA))
   replace p0 := hP.out.p0
   replace q0 := hP.out.q0
   replace hUWA := hi_ hUWA
   replace hWA := hi_ hWA
   replace hQp := hi_ (hQp.out.below bWA hQp.out.lt)
   replace hQq := hi_ (hQq.out.below bWA hQq.out.lt)
   go_wp2_with (go_at_call 83; (with_reducible refine (cs.out _ _ hP.out).mono ?_); rintro e w6 ⟨rfl, hP2, hF2⟩; replace hT := hi_ (hF2.blk hneL.out hneR.out hT.out); replace hF := hi_ (hF.out.trans hF2); replace hP := hi_ hP2; replace p0 := hP.out.p0; replace q0 := hP.out.q0; replace hQp := hi_ (hF2.blk hpL.out hpR.out hQp.out); replace hQq := hi_ (hF2.blk hqL.out hqR.out hQq.out); obtain ⟨z0, z1, z2, z3, v0, v1, v2, v3⟩ := hT.out.b4; clear hP2 hF2)
   generalize hWf : World.setCell _ _ _ = Wf
   replace hWf := hWf.symm
   obtain ⟨hb, hg⟩ := set4L hT.out hWf
   obtain ⟨u0, u1, u2, u3, -⟩ := hb.b4
   have hPf := hi_ (hP.out.grownL hg (by omega) (by omega) (by omega) (fun h0 x hx => by have := hAT.out h0 x hx; omega))
   have hFf := hi_ (hF.out.grownL hg (Nat.le_refl _))
   replace hg := hi_ hg
   replace hWf := hi_ hWf
   clear hb z0 v0 z1 v1 z2 v2 z3 v3
   refine bodyPost_ret (by simp [results, Tryz.results51, go_sem, u0, u1, u2, u3]; try rfl) rfl ?_
   exact ⟨by decide, rfl, hPf.out, hFf.out⟩
  ·have hb0 : (kk == 0) = false := beq_eq_false_iff_ne.2 hk0
   by_cases hw : kk = 1 ∧ lo ≤ k.n ∧ k.n ≤ hi
   ·obtain rfl : RR = .ok k u := hRR.out.trans (n_yes ht (by rw [← hkk]; exact hw))
    have hDD := hi_ (decide_eq_true hw)
    refine h3_ hkk hk0 hw ?_; clear hkk hk0 hw; intro hkk hk0 hw
    clear cst ht hRR
    refine h8_ hsuf hP hT b1 zs hneL hneR hAT ?_; clear hsuf hP hT b1 zs hneL hneR hAT; intro hsuf hP hT b1 zs hneL hneR hAT
    clear h
    go_enter Tryz.func51, Tryz.ntmps51
    go_upto_region 1 with fail
    rw [← hW1]
    replace hW1 := hi_ hW1
    go_upto_region 4 with (first | (go_at_call 63; (with_reducible refine (cm.out _ hP.out).mono ?_); rintro e w2 ⟨rfl, rfl⟩) | (go_at_call 82; (with_reducible refine (ct.out _ hP.out).mono ?_); rintro e w4 ⟨a2, c2, rfl, hO, hP2, hF2⟩; replace hT := hi_ (hF2.blk hneL.out hneR.out hT.out); replace hF := hi_ (hF.out.trans hF2); replace hP := hi_ hP2; replace p0 := hP.out.p0; replace q0 := hP.out.q0; replace hQp := hi_ (hF2.blk hpL.out hpR.out hQp.out); replace hQq := hi_ (hF2.blk hqL.out hqR.out hQq.out); replace hO := hi_ hO; clear hP2 hF2))
    obtain ⟨WA, hWA, bWA, hUWA⟩ := newB w4 108 #[.int .i64 kk, .int .i64 at1, .int .i64 k.n, .slice a2 k.b.length c2]
    rw [← hWA]
    obtain ⟨x0, x1, x2, x3, -⟩ := hUWA.b4
    replace hT := hi_ (hT.out.below bWA hT.out.lt)
    replace hP := hi_ (hP.out.belowW bWA)
    replace hF := hi_ (hF.out.trans (Fr.of_below (L := L) (R := R) bWA))
    replace p0 := hP.out.p0
    replace q0 := hP.out.q0
    replace hUWA := hi_ hUWA
    replace hWA := hi_ hWA
    replace hQp := hi_ (hQp.out.below bWA hQp.out.lt)
    replace hQq := hi_ (hQq.out.below bWA hQq.out.lt)
    replace hO := hi_ (hO.out.below bWA)
    have cp0 : WA.cell? ⟨p, 0, none⟩ = some (.int .i64 lo) := hQp.out.cell 0
    have cq0 : WA.cell? ⟨q, 0, none⟩ = some (.int .i64 hi) := hQq.out.cell 0
    go_wp2_with (go_at_call 85; (with_reducible refine (clo_N kk at1 k.n lo hi _ p q _ cp0 cq0 ⟨_, _, _, rfl⟩).mono ?_); rw [hDD.out]; rintro e w7 ⟨rfl, hB7⟩; have hF2 := Fr.of_below (L := L) (R := R) hB7; have hP2 := hP.out.belowW hB7; replace hT := hi_ (hF2.blk hneL.out hneR.out hT.out); replace hF := hi_ (hF.out.trans hF2); replace hP := hi_ hP2; replace p0 := hP.out.p0; replace q0 := hP.out.q0; replace hQp := hi_ (hF2.blk hpL.out hpR.out hQp.out); replace hQq := hi_ (hF2.blk hqL.out hqR.out hQq.out); obtain ⟨z0, z1, z2, z3, v0, v1, v2, v3⟩ := hT.out.b4; replace hUWA := hi_ (hUWA.out.below hB7 hUWA.out.lt); obtain ⟨x0, x1, x2, x3, -⟩ := hUWA.out.b4; clear hP2 hF2 hB7)
    generalize hWf : World.setCell _ _ _ = Wf
    replace hWf := hWf.symm
    obtain ⟨hb, hg⟩ := set4L hT.out hWf
    obtain ⟨u0, u1, u2, u3, -⟩ := hb.b4
    have hPf := hi_ (hP.out.grownL hg (by omega) (by omega) (by omega) (fun h0 x hx => by have := hAT.out h0 x hx; omega))
    have hFf := hi_ (hF.out.grownL hg (Nat.le_refl _))
    replace hg := hi_ hg
    replace hWf := hi_ hWf
    clear hb z0 v0 z1 v1 z2 v2 z3 v3
    refine bodyPost_ret (by simp [results, Tryz.results51, go_sem, u0, u1, u2, u3]; try rfl) rfl ?_
    rw [hkk.out]
    exact ⟨at1, a2, _, c2, rfl, hPf.out, hFf.out⟩
   ·obtain rfl : RR = .err 4 (blankM false r) := hRR.out.trans (n_no ht (by rw [← hkk]; exact hk0) (by rw [← hkk]; exact hw))
    have hDD := hi_ (decide_eq_false hw)
    have cs := cst 4
    refine h3_ hkk hk0 hw ?_; clear hkk hk0 hw; intro hkk hk0 hw
    clear cst ht hRR
    refine h8_ hsuf hP hT b1 zs hneL hneR hAT ?_; clear hsuf hP hT b1 zs hneL hneR hAT; intro hsuf hP hT b1 zs hneL hneR hAT
    clear h
    go_enter Tryz.func51, Tryz.ntmps51
    go_upto_region 1 with fail
    rw [← hW1]
    replace hW1 := hi_ hW1
    go_upto_region 4 with (first | (go_at_call 63; (with_reducible refine (cm.out _ hP.out).mono ?_); rintro e w2 ⟨rfl, rfl⟩) | (go_at_call 82; (with_reducible refine (ct.out _ hP.out).mono ?_); rintro e w4 ⟨a2, c2, rfl, hO, hP2, hF2⟩; replace hT := hi_ (hF2.blk hneL.out hneR.out hT.out); replace hF := hi_ (hF.out.trans hF2); replace hP := hi_ hP2; replace p0 := hP.out.p0; replace q0 := hP.out.q0; replace hQp := hi_ (hF2.blk hpL.out hpR.out hQp.out); replace hQq := hi_ (hF2.blk hqL.out hqR.out hQq.out); replace hO := hi_ hO; clear hP2 hF2))
    obtain ⟨WA, hWA, bWA, hUWA⟩ := newB w4 108 #[.int .i64 kk, .int .i64 at1, .int .i64 k.n, .slice a2 k.b.length c2]
    rw [← hWA]
    obtain ⟨x0, x1, x2, x3, -⟩ := hUWA.b4
    replace hT := hi_ (hT.out.below bWA hT.out.lt)
    replace hP := hi_ (hP.out.belowW bWA)
    replace hF := hi_ (hF.out.trans (Fr.of_below (L := L) (R := R) bWA))
    replace p0 := hP.out.p0
    replace q0 := hP.out.q0
    replace hUWA := hi_ hUWA
    replace hWA := hi_ hWA
    replace hQp := hi_ (hQp.out.below bWA hQp.out.lt)
    replace hQq := hi_ (hQq.out.below bWA hQq.out.lt)
    replace hO := hi_ (hO.out.below bWA)
    have cp0 : WA.cell? ⟨p, 0, none⟩ = some (.int .i64 lo) := hQp.out.cell 0
    have cq0 : WA.cell? ⟨q, 0, none⟩ = some (.int .i64 hi) := hQq.out.cell 0
    go_wp2_with (first | (go_at_call 85; (with_reducible refine (clo_N kk at1 k.n lo hi _ p q _ cp0 cq0 ⟨_, _, _, rfl⟩).mono ?_); rw [hDD.out]; rintro e w7 ⟨rfl, hB7⟩; have hF2 := Fr.of_below (L := L) (R := R) hB7; have hP2 := hP.out.belowW hB7; replace hT := hi_ (hF2.blk hneL.out hneR.out hT.out); replace hF := hi_ (hF.out.trans hF2); replace hP := hi_ hP2; replace p0 := hP.out.p0; replace q0 := hP.out.q0; replace hQp := hi_ (hF2.blk hpL.out hpR.out hQp.out); replace hQq := hi_ (hF2.blk hqL.out hqR.out hQq.out); replace hUWA := hi_ (hUWA.out.below hB7 hUWA.out.lt); obtain ⟨x0, x1, x2, x3, -⟩ := hUWA.out.b4; clear hP2 hF2 hB7) | (go_at_call 83; (with_reducible refine (cs.out _ _ hP.out).mono ?_); rintro e w6 ⟨rfl, hP2, hF2⟩; replace hT := hi_ (hF2.blk hneL.out hneR.out hT.out); replace hF := hi_ (hF.out.trans hF2); replace hP := hi_ hP2; replace p0 := hP.out.p0; replace q0 := hP.out.q0; replace hQp := hi_ (hF2.blk hpL.out hpR.out hQp.out); replace hQq := hi_ (hF2.blk hqL.out hqR.out hQq.out); obtain ⟨z0, z1, z2, z3, v0, v1, v2, v3⟩ := hT.out.b4; clear hP2 hF2))
    generalize hWf : World.setCell _ _ _ = Wf
    replace hWf := hWf.symm
    obtain ⟨hb, hg⟩ := set4L hT.out hWf
    obtain ⟨u0, u1, u2, u3, -⟩ := hb.b4
    have hPf := hi_ (hP.out.grownL hg (by omega) (by omega) (by omega) (fun h0 x hx => by have := hAT.out h0 x hx; omega))
    have hFf := hi_ (hF.out.grownL hg (Nat.le_refl _))
    replace hg := hi_ hg
    replace hWf := hi_ hWf
    clear hb z0 v0 z1 v1 z2 v2 z3 v3
    refine bodyPost_ret (by simp [results, Tryz.results51, go_sem, u0, u1, u2, u3]; try rfl) rfl ?_
    exact ⟨by decide, rfl, hPf.out, hFf.out⟩
end
def WordP (P L R : Nat) (A : Option Addr) (c : Nat) (bs : Bs) (d : Nat) (pl : Bool) (w : World) (res : Res Tok) (e : Ending) (w' : World) : Prop := match res with
 | .ok t u => e = .returned (.int .i64 0) ∧ PS P L R A c bs d pl w' u ∧ Fr L R w w'
 | .err n u => n ≠ 0 ∧ e = .returned (.int .i64 n) ∧ PS P L R A c bs d pl w' u ∧ Fr L R w w'
def WholeP (P L R : Nat) (A : Option Addr) (c : Nat) (bs : Bs) (d : Nat) (pl : Bool) (w : World) (res : Res Tok) (e : Ending) (w' : World) : Prop := match res with
 | .ok t u => e = .returned (.tuple #[.int .i64 t.n, .int .i64 0]) ∧ PS P L R A c bs d pl w' u ∧ Fr L R w w'
 | .err n u => n ≠ 0 ∧ e = .returned (.tuple #[.int .i64 0, .int .i64 n]) ∧ PS P L R A c bs d pl w' u ∧ Fr L R w w'
section
variable {P L R : Nat} {A : Option Addr} {c : Nat} {bs : Bs} {d dd : Nat} {pl : Bool} {W X X' w w' : World} {r r' u v : Bs} {k s : Tok}
theorem px_Word (S : ByteArray) (W : World) (h : PS P L R A c bs d pl W r) : Calls Tryz.prog 25 #[.pointer (some ⟨P, 0, none⟩), .string S] W (WordP P L R A c bs d pl W (wantW S.data.toList r)) := by
 obtain ⟨W1, hW1, b1, hQ⟩ := newB W 9 #[.string S]
 have hF := hi_ (Fr.of_below (L := L) (R := R) b1)
 have cw := px_WantW (S := S) (q := W.heap.size) W1 (h.belowW b1) hQ (by have := h.L_lt; omega) (by have := h.R_lt; omega)
 obtain ⟨RR, hRR⟩ : ∃ x, x = wantW S.data.toList r := ⟨_, rfl⟩
 rw [← hRR] at cw ⊢
 refine h3_ hRR hQ b1 ?_; clear hRR hQ b1; intro hRR hQ b1
 clear h
 cases RR with
 | err n u =>
  go_enter Tryz.func25, Tryz.ntmps25
  go_upto_region 1 with fail
  rw [← hW1]
  replace hW1 := hi_ hW1
  go_wp2_with (go_at_call 51; (with_reducible refine cw.mono ?_); rintro e w2 ⟨hn0, rfl, hP2, hF2⟩; replace hP2 := hi_ hP2; replace hF2 := hi_ hF2; replace hn0 := hi_ hn0; clear cw)
  have hb2 := hi_ ((Below.refl w2.heap.size w2).alloc (Nat.le_refl _) (.cells #[.int .i64 0, .int .i64 0, .int .i64 0, .slice none 0 0] 108))
  go_ret
  exact ⟨hn0.out, rfl, hP2.out.belowW hb2.out, hF.out.trans (hF2.out.trans (Fr.of_below hb2.out))⟩
 | ok t u =>
  go_enter Tryz.func25, Tryz.ntmps25
  go_upto_region 1 with fail
  rw [← hW1]
  replace hW1 := hi_ hW1
  go_wp2_with (go_at_call 51; (with_reducible refine cw.mono ?_); rintro e w2 ⟨aa, Av, nv, cv, rfl, hP2, hF2⟩; replace hP2 := hi_ hP2; replace hF2 := hi_ hF2; clear cw)
  have hb2 := hi_ ((Below.refl w2.heap.size w2).alloc (Nat.le_refl _) (.cells #[.int .i64 t.k, .int .i64 aa, .int .i64 t.n, .slice Av nv cv] 108))
  go_ret
  exact ⟨rfl, hP2.out.belowW hb2.out, hF.out.trans (hF2.out.trans (Fr.of_below hb2.out))⟩
theorem px_Whole (lo hi : Int) (W : World) (h : PS P L R A c bs d pl W r) : Calls Tryz.prog 57 #[.pointer (some ⟨P, 0, none⟩), .int .i64 lo, .int .i64 hi] W (WholeP P L R A c bs d pl W (wantN lo hi r)) := by
 obtain ⟨W0, hW0⟩ : ∃ W1, W1 = W.alloc (.cells #[.int .i64 lo] 3) := ⟨_, rfl⟩
 obtain ⟨W1, hW1⟩ : ∃ W1, W1 = W0.alloc (.cells #[.int .i64 hi] 3) := ⟨_, rfl⟩
 have b0 : Below W.heap.size W W0 := by rw [hW0]; exact (Below.refl _ _).alloc (Nat.le_refl _) _
 have z0 : W0.heap.size = W.heap.size + 1 := by rw [hW0]; exact World.size_alloc _ _
 have b01 : Below W0.heap.size W0 W1 := by rw [hW1]; exact (Below.refl _ _).alloc (Nat.le_refl _) _
 have b1 := bthen b0 b01
 have hQ0 : Blk W1 W.heap.size 3 #[.int .i64 lo] := (by rw [hW0]; exact Blk.new W _ _ : Blk W0 W.heap.size 3 #[.int .i64 lo]).below b01 (by omega)
 have hQ1 : Blk W1 (W.heap.size + 1) 3 #[.int .i64 hi] := by rw [hW1, ← z0]; exact Blk.new W0 _ _
 have hF := hi_ (Fr.of_below (L := L) (R := R) b1)
 have cw := px_WantN (lo := lo) (hi := hi) (p := W.heap.size) (q := W.heap.size + 1) W1 (h.belowW b1) hQ0 (by have := h.L_lt; omega) (by have := h.R_lt; omega) hQ1 (by have := h.L_lt; omega) (by have := h.R_lt; omega)
 obtain ⟨RR, hRR⟩ : ∃ x, x = wantN lo hi r := ⟨_, rfl⟩
 rw [← hRR] at cw ⊢
 refine h6_ hRR hQ0 hQ1 b1 b0 b01 ?_; clear hRR hQ0 hQ1 b1 b0 b01; intro hRR hQ0 hQ1 b1 b0 b01
 clear h
 cases RR with
 | err n u =>
  go_enter Tryz.func57, Tryz.ntmps57
  go_upto_region 1 with fail
  rw [← hW0, ← hW1]
  replace hW1 := hi_ hW1
  replace hW0 := hi_ hW0
  go_wp2_with (go_at_call 51; (with_reducible refine cw.mono ?_); rintro e w2 ⟨hn0, rfl, hP2, hF2⟩; replace hP2 := hi_ hP2; replace hF2 := hi_ hF2; replace hn0 := hi_ hn0; clear cw)
  have hb2 := hi_ ((Below.refl w2.heap.size w2).alloc (Nat.le_refl _) (.cells #[.int .i64 0, .int .i64 0, .int .i64 0, .slice none 0 0] 108))
  go_ret2
  exact ⟨hn0.out, rfl, hP2.out.belowW hb2.out, hF.out.trans (hF2.out.trans (Fr.of_below hb2.out))⟩
 | ok t u =>
  go_enter Tryz.func57, Tryz.ntmps57
  go_upto_region 1 with fail
  rw [← hW0, ← hW1]
  replace hW1 := hi_ hW1
  replace hW0 := hi_ hW0
  go_wp2_with (go_at_call 51; (with_reducible refine cw.mono ?_); rintro e w2 ⟨aa, Av, nv, cv, rfl, hP2, hF2⟩; replace hP2 := hi_ hP2; replace hF2 := hi_ hF2; clear cw)
  have hb2 := hi_ ((Below.refl w2.heap.size w2).alloc (Nat.le_refl _) (.cells #[.int .i64 t.k, .int .i64 aa, .int .i64 t.n, .slice Av nv cv] 108))
  go_ret2
  exact ⟨rfl, hP2.out.belowW hb2.out, hF.out.trans (hF2.out.trans (Fr.of_below hb2.out))⟩
end
theorem cu_New (A : Option Addr) (n c : Nat) (W : World) (hcap : n ≤ c) (hc : n ≤ maxLen) : Calls Tryz.prog 50 #[.slice A n c] W fun e w' => e = .returned (.pointer (some ⟨W.heap.size, 0, none⟩)) ∧ w' = W.alloc (.cells #[.slice A n n, .int .i64 0] 93) := by
 go_enter Tryz.func50, Tryz.ntmps50
 go_wp2
 all_goals go_ret
 all_goals exact ⟨rfl, rfl⟩
theorem lx_New (A : Option Addr) (n c : Nat) (W : World) (hcap : n ≤ c) (hc : n ≤ maxLen) : Calls Tryz.prog 24 #[.slice A n c] W fun e w' => e = .returned (.pointer (some ⟨W.heap.size + 1, 0, none⟩)) ∧ w' = (W.alloc (.cells #[.slice A n n, .int .i64 0] 93)).alloc (.cells #[.pointer (some ⟨W.heap.size, 0, none⟩), .int .i64 0, .slice none 0 0] 51) := by
 have cn := cu_New A n c W hcap hc
 obtain ⟨W1, hW1⟩ : ∃ W1, W1 = W.alloc (.cells #[.slice A n n, .int .i64 0] 93) := ⟨_, rfl⟩
 have z1 : W1.heap.size = W.heap.size + 1 := by rw [hW1, World.size_alloc]
 rw [← hW1] at cn ⊢
 replace hW1 := hi_ hW1
 clear hcap hc
 go_enter Tryz.func24, Tryz.ntmps24
 go_wp2_with (go_at_call 50; (with_reducible refine cn.mono ?_); rintro e w1 ⟨rfl, rfl⟩)
 go_ret
 exact ⟨rfl, rfl⟩
theorem px_New0 (A : Option Addr) (n c : Nat) (dep : Int) (d : Nat) (hd : min (max dep 0) 28 = (d : Int)) (W : World) (hcap : n ≤ c) (hc : n ≤ maxLen) : Calls Tryz.prog 8 #[.slice A n c, .int .i64 dep] W fun e w' => e = .returned (.pointer (some ⟨W.heap.size + 2, 0, none⟩)) ∧ w' = ((W.alloc (.cells #[.slice A n n, .int .i64 0] 93)).alloc (.cells #[.pointer (some ⟨W.heap.size, 0, none⟩), .int .i64 0, .slice none 0 0] 51)).alloc (.cells #[.pointer (some ⟨W.heap.size + 1, 0, none⟩), .int .i64 d, .bool false] 48) := by
 have cn := lx_New A n c W hcap hc
 obtain ⟨W2, hW2⟩ : ∃ W1, W1 = (W.alloc (.cells #[.slice A n n, .int .i64 0] 93)).alloc (.cells #[.pointer (some ⟨W.heap.size, 0, none⟩), .int .i64 0, .slice none 0 0] 51) := ⟨_, rfl⟩
 have z2 : W2.heap.size = W.heap.size + 2 := by rw [hW2, World.size_alloc, World.size_alloc]
 rw [← hW2] at cn ⊢
 replace hW2 := hi_ hW2
 clear hcap hc
 obtain ⟨D, hD⟩ : ∃ D : Int, D = (d : Nat) := ⟨_, rfl⟩
 rw [← hD] at hd ⊢
 rw [← hd]
 replace hD := hi_ hD
 replace hd := hi_ hd
 go_enter Tryz.func8, Tryz.ntmps8
 go_wp2_with (go_at_call 24; (with_reducible refine cn.mono ?_); rintro e w1 ⟨rfl, rfl⟩)
 go_ret
 exact ⟨by rw [← z2]; rfl, rfl⟩
theorem px_New (A : Option Addr) (c : Nat) (bs : Bs) (W : World) (hby : Byt W A bs) (hcap : bs.length ≤ c) (hsm : bs.length ≤ 1000000000) (dep : Int) (d : Nat) (hd : min (max dep 0) 28 = (d : Int)) :
 Calls Tryz.prog 8 #[.slice A bs.length c, .int .i64 dep] W fun e w' => e = .returned (.pointer (some ⟨W.heap.size + 2, 0, none⟩)) ∧ PS (W.heap.size + 2) W.heap.size (W.heap.size + 1) A bs.length bs d false w' bs ∧ Below W.heap.size W w' := by
 refine (px_New0 A bs.length c dep d hd W hcap hby.1).mono ?_
 rintro e w' ⟨rfl, rfl⟩
 have hAl : 0 < bs.length → ∀ x, A = some x → x.block < W.heap.size := by
  rintro h0 x rfl
  obtain ⟨b, o, e, hcell⟩ := hby.2 h0
  cases e
  exact cell_lt (hcell 0 h0)
 obtain ⟨W1, hW1⟩ : ∃ W1, W1 = W.alloc (.cells #[.slice A bs.length bs.length, .int .i64 0] 93) := ⟨_, rfl⟩
 obtain ⟨W2, hW2⟩ : ∃ W2, W2 = W1.alloc (.cells #[.pointer (some ⟨W.heap.size, 0, none⟩), .int .i64 0, .slice none 0 0] 51) := ⟨_, rfl⟩
 obtain ⟨W3, hW3⟩ : ∃ W3, W3 = W2.alloc (.cells #[.pointer (some ⟨W.heap.size + 1, 0, none⟩), .int .i64 (d : Nat), .bool false] 48) := ⟨_, rfl⟩
 rw [← hW1, ← hW2, ← hW3]
 have b1 : Below W.heap.size W W1 := by rw [hW1]; exact (Below.refl _ _).alloc (Nat.le_refl _) _
 have z1 : W1.heap.size = W.heap.size + 1 := by rw [hW1, World.size_alloc]
 have b2 : Below W1.heap.size W1 W2 := by rw [hW2]; exact (Below.refl _ _).alloc (Nat.le_refl _) _
 have z2 : W2.heap.size = W.heap.size + 2 := by rw [hW2, World.size_alloc, z1]
 have b3 : Below W2.heap.size W2 W3 := by rw [hW3]; exact (Below.refl _ _).alloc (Nat.le_refl _) _
 have z3 : W3.heap.size = W.heap.size + 3 := by rw [hW3, World.size_alloc, z2]
 have hC1 : Blk W1 W.heap.size 93 #[.slice A bs.length bs.length, .int .i64 0] := by rw [hW1]; exact Blk.new W _ _
 have hC : Blk W3 W.heap.size 93 #[.slice A bs.length bs.length, .int .i64 0] := (hC1.below b2 (by omega)).below b3 (by omega)
 have hR2 : Blk W2 (W.heap.size + 1) 51 #[.pointer (some ⟨W.heap.size, 0, none⟩), .int .i64 0, .slice none 0 0] := by rw [hW2, ← z1]; exact Blk.new W1 _ _
 have hR := hR2.below b3 (by omega)
 have hP : Blk W3 (W.heap.size + 2) 48 #[.pointer (some ⟨W.heap.size + 1, 0, none⟩), .int .i64 (d : Nat), .bool false] := by rw [hW3, ← z2]; exact Blk.new W2 _ _
 have hB := bthen (bthen b1 b2) b3
 refine ⟨rfl, ⟨⟨.int .i64 0, .slice none 0 0, ?_⟩, hP, by omega, by omega⟩, hB⟩
 have hp : pos bs bs = 0 := by unfold pos; omega
 exact ⟨⟨fun h0 x hx => by have := hAl h0 x hx; omega, Save.refl _ _, hC.cell 0, by rw [hp]; exact hC.cell 1, hC.frozen 1, hby.below hB, by rw [hp]; omega, hsm⟩, hR, by omega, fun h0 x hx => by have := hAl h0 x hx; omega, Nat.le_refl _, List.suffix_refl _⟩
section
open Go Go.RowKit Go.Wk

end
section
open Go Go.RowKit Go.Wk
def OwnX (B : Nat) (w : World) (v : Value) (bs : List UInt8) : Prop := Own B w v bs ∨ ∃ g, v = .slice (some ⟨g, 0, none⟩) bs.length bs.length ∧ g < w.heap.size ∧ Byt w (some ⟨g, 0, none⟩) bs
theorem OwnX.below {B : Nat} {w w' : World} {v : Value} {bs : List UInt8} (h : OwnX B w v bs) (hb : Below w.heap.size w w') : OwnX B w' v bs := by
 rcases h with h | ⟨g, h1, h2, h3⟩
 ·exact .inl (h.below hb)
 ·exact .inr ⟨g, h1, Nat.lt_of_lt_of_le h2 hb.size, h3.below hb⟩
theorem conv_const (w : World) (C : Array Value) (n c : Nat) : (convert 22 22 (.slice (some ⟨w.heap.size, 0, none⟩) n c)).run Tryz.prog (w.alloc (.cells C 5)) = .ok (.slice (some ⟨w.heap.size, 0, none⟩) n c) (w.alloc (.cells C 5 (C.size, C.size + 1))) :=
 Lib.run_convert_bytes_const w 22 5 C n c Tryz.underlying22 Tryz.underlying5
theorem below_mark (w : World) (C : Array Value) (m : Nat × Nat) : Below w.heap.size w (w.alloc (.cells C 5 m)) := (Below.refl _ _).alloc (Nat.le_refl _) _
end
section
open Go Go.RowKit Go.Wk
theorem OwnX.rb {B : Nat} {w : World} {v : Value} {bs : List UInt8} (h : Own B w v bs) : OwnX B w v bs := .inl h
end
section
open Go Go.RowKit Go.Wk

end
section
open Go Go.RowKit Go.Wk
theorem ref_In (n : Int) (w : World) : Calls Tryz.prog 72 #[.int .i64 n] w fun e w' => e = .returned (.bool (decide (-214748364799999 ≤ n ∧ n ≤ 214748364799999))) ∧ w = w' := by
 go_enter Tryz.func72, Tryz.ntmps72
 go_wp2
 all_goals go_ret
 all_goals refine ⟨?_, rfl⟩
 all_goals first | (simp_all; done) | (simp_all; omega)
theorem ob_five {w : World} {o : Ob} {vs : List Value} (h : ObAt w o vs) : ∃ (n : Int) (A1 A2 A3 : Option Addr) (n1 c1 n2 c2 n3 c3 : Nat), vs = [.int .i64 o.kind, .int .i64 n, .slice A1 n1 c1, .slice A2 n2 c2, .slice A3 n3 c3] := by
 cases h with
 | mk k n b l d A AL AD c cL cD gL oL gD oD vl vd => exact ⟨_, _, _, _, _, _, _, _, _, _, rfl⟩
def RMayC (dep : Nat) : Prop := ∀ (o : Ob) (vs : List Value) (w : World), ObAt w o vs → o.bulk ≤ 1048576 → Calls Tryz.prog 39 #[.agg vs.toArray, .int .i64 (dep : Int)] w fun e w' => e = .returned (.bool (o.may dep)) ∧ Below w.heap.size w w'
def entQ (dep : Nat) (d : List (List UInt8 × Ob)) (i : Nat) : Bool := atI d (fun e => nameOk e.1 && (e.2.kind != 8 && (e.2.kind != 0 && e.2.may dep))) i && (i == 0 || riseF d i)
theorem entQ_all (dep : Nat) (d : List (List UInt8 × Ob)) : ((List.range d.length).all (entQ dep d)) = (risesB d && mayD dep d) := by
 rw [← rises_upTo, mayD_all]
 unfold upTo entQ
 rw [Bool.eq_iff_iff]
 simp only [List.all_eq_true, List.mem_range, Bool.and_eq_true, Bool.or_eq_true]
 constructor
 ·intro h
  refine ⟨fun i hi => (h i hi).2, fun e he => ?_⟩
  obtain ⟨i, hi, rfl⟩ := List.getElem_of_mem he
  have := (h i hi).1
  unfold atI at this
  rw [List.getElem?_eq_getElem hi] at this
  simp only [Bool.and_eq_true] at this
  exact ⟨⟨this.1, this.2.2.1⟩, this.2.1, this.2.2.2⟩
 ·rintro ⟨h1, h2⟩ i hi
  refine ⟨?_, h1 i hi⟩
  unfold atI
  rw [List.getElem?_eq_getElem hi]
  have := h2 d[i] (List.getElem_mem hi)
  simp only [Bool.and_eq_true]
  exact ⟨this.1.1, this.2.1, this.1.2, this.2.2⟩
def G7 (p q gD oD m3 cD jj : Nat) (ii kk d1 d0 : Int) (S S0 : ByteArray) (ag : Array Value) (nk pos le a2 a3 a4 b8 b0 mm : Bool) : Nat → Value → World → Prop := fun j v w => match j with
 | 0 => v = .pointer (some ⟨p, 0, none⟩)
 | 1 => v = .string S
 | 2 => ∃ A c, v = .slice A S.size c ∧ Byt w A S.data.toList
 | 3 => v = .bool nk
 | 4 | 5 => v = .bool (!nk)
 | 6 => nk = true → v = .int .i64 ii
 | 7 => nk = true → v = .bool pos
 | 8 => (nk = true → v = .bool pos) ∧ (nk = false → v = undef)
 | 9 => nk = true → pos = true → v = .pointer (some ⟨p, 0, none⟩)
 | 10 => nk = true → pos = true → v = .string S
 | 11 => nk = true → pos = true → v = .pointer (some ⟨q, 4, none⟩)
 | 12 => nk = true → pos = true → v = .slice (some ⟨gD, oD, none⟩) m3 cD
 | 13 => nk = true → pos = true → v = .int .i64 ii
 | 14 => nk = true → pos = true → v = .int .i64 (jj : Int)
 | 15 | 16 => nk = true → pos = true → v = .pointer (some ⟨gD, oD + jj * 6, none⟩)
 | 17 => nk = true → pos = true → v = .string S0
 | 18 => nk = true → pos = true → v = .bool le
 | 19 => nk = true → v = .bool (pos && le)
 | 20 | 21 => v = .bool a2
 | 22 | 23 => a2 = false → v = .pointer (some ⟨p, 1, none⟩)
 | 24 => a2 = false → v = .int .i64 kk
 | 25 => a2 = false → v = .bool b8
 | 26 | 27 => v = .bool a3
 | 28 | 29 => a3 = false → v = .pointer (some ⟨p, 1, none⟩)
 | 30 => a3 = false → v = .int .i64 kk
 | 31 => a3 = false → v = .bool b0
 | 32 | 33 => v = .bool a4
 | 34 => a4 = false → v = .pointer (some ⟨p, 1, none⟩)
 | 35 => a4 = false → v = .agg ag
 | 36 => a4 = false → v = .int .i64 d1
 | 37 => a4 = false → v = .int .i64 d0
 | 38 => a4 = false → v = .bool mm
 | _ => a4 = false → v = .bool (!mm)
theorem G7_mono {p q gD oD m3 cD jj : Nat} {ii kk d1 d0 : Int} {S S0 : ByteArray} {ag : Array Value} {nk pos le a2 a3 a4 b8 b0 mm : Bool} (j : Nat) (v : Value) (w w' : World) (hG : G7 p q gD oD m3 cD jj ii kk d1 d0 S S0 ag nk pos le a2 a3 a4 b8 b0 mm j v w) (hk : Below w.heap.size w w') : G7 p q gD oD m3 cD jj ii kk d1 d0 S S0 ag nk pos le a2 a3 a4 b8 b0 mm j v w' := by
 unfold G7 at hG ⊢
 split at hG <;> first
  | exact hG
  | (obtain ⟨A, c, e, hb⟩ := hG; exact ⟨A, c, e, hb.below hk⟩)
theorem ref_ents (dep : Nat) (hd : dep ≤ 28) (hi : ∀ d', dep = d' + 1 → RMayC d') (k n : Int) (b : List UInt8) (l : List Ob) (d : List (List UInt8 × Ob)) (vs : List Value) (w : World) (h : ObAt w (.mk k n b l d) vs) (hbk : (Ob.mk k n b l d).bulk ≤ 1048576) :
 Calls Tryz.prog 74 #[.agg vs.toArray, .int .i64 (dep : Int)] w fun e w' => e = .returned (.bool (decide (0 < dep) && (risesB d && mayD (dep - 1) d))) ∧ Below w.heap.size w w' := by
 have zk : b.length + bulkL l + bulkD d + 1 ≤ 1048576 := hbk
 have zd := bulkD_len d
 have zdk := fun i hi => bulkD_at d i hi
 have zbd : bulkD d ≤ 1048576 := by omega
 rw [← entQ_all]
 cases h with
 | mk _ _ _ _ _ A AL AD c cL cD gL oL gD oD vl vd h1 h2 h3 h4 hB hbc hAc hlc hlm hdc hdm hAL hl hlv hAD hdo hdk hdv =>
 obtain ⟨W2, hW2, hb2⟩ := newA w 32 #[.int .i64 k, .int .i64 n, .slice A b.length c, .slice AL l.length cL, .slice AD d.length cD]
 have ocell : ∀ i v, #[Value.int .i64 k, .int .i64 n, .slice A b.length c, .slice AL l.length cL, .slice AD d.length cD][i]? = some v → W2.cell? ⟨w.heap.size, i, none⟩ = some v := by
  intro i v hv
  have h0 := alloc_cell (w := w) (vs := #[.int .i64 k, .int .i64 n, .slice A b.length c, .slice AL l.length cL, .slice AD d.length cD]) (e := 32) (i := i)
  rw [Nat.zero_add, hv] at h0
  rw [hW2]; exact h0
 have o2 := ocell 2 _ rfl
 have o4 := ocell 4 _ rfl
 clear ocell
 obtain ⟨m1, hm1⟩ : ∃ m, m = b.length := ⟨_, rfl⟩
 have zb : m1 ≤ 1048576 := by omega
 obtain ⟨m2, hm2⟩ : ∃ m, m = l.length := ⟨_, rfl⟩
 obtain ⟨m3, hm3⟩ : ∃ m, m = d.length := ⟨_, rfl⟩
 have zd3 : m3 ≤ 1048576 := by omega
 rw [← hm1] at hW2 o2 ⊢
 rw [← hm2] at hW2 ⊢
 rw [← hm3] at hW2 o4 ⊢
 clear hB hbc hAc hlc hlm hdc hdm hAL hl hlv hm1 hm2 zk zd
 refine h8_ hm3 hAD hdo hdk hdv zdk hW2 hb2 ?_; clear hm3 hAD hdo hdk hdv zdk hW2 hb2; intro hm3 hAD hdo hdk hdv zdk hW2 hb2
 cases dep with
 | zero =>
  clear hi
  go_enter Tryz.func74, Tryz.ntmps74
  go_upto_region 1 with (fail)
  rw [← hW2.out]
  go_wp2
  go_ret
  exact ⟨rfl, hb2.out⟩
 | succ dp =>
  have hi := hi dp rfl
  have e1 : decide (0 < dp + 1) = true := by simp
  rw [e1, Bool.true_and, Nat.add_sub_cancel]
  replace hi := hi_ hi
  clear e1
  obtain ⟨E, hE⟩ : ∃ E, E = (List.range m3).all (entQ dp d) := ⟨_, rfl⟩
  rw [← hE]
  replace hE := hi_ hE
  have e2 : (((dp + 1 : Nat) : Int)) = (dp : Int) + 1 := by omega
  rw [e2]
  clear e2
  go_enter Tryz.func74, Tryz.ntmps74
  go_upto_region 1 with (fail)
  rw [← hW2.out]
  go_wp2
  go_loopw [5, 6] (fun s5 _ wr => ∃ i : Nat, i ≤ m3 ∧ s5 = .int .i64 i ∧ (∀ j, j < i → entQ dp d j = true) ∧ Below W2.heap.size W2 wr) (fun s5 _ _ => m3 - (RowKit.intOf s5).toNat)
  case atStart => exact ⟨0, by omega, rfl, fun j hj => by omega, Below.refl _ _⟩
  case round =>
   obtain ⟨i, hin, rfl, hP, hBr⟩ := hrel
   have r2 := (hBr.cell (cell_lt o2)).trans o2
   have r4 := (hBr.cell (cell_lt o4)).trans o4
   by_cases him : i < m3
   ·have hil : i < d.length := by rw [← hm3.out]; exact him
    have hAe := hAD.out (by omega)
    subst hAe
    obtain ⟨e, he⟩ : ∃ e, e = d[i] := ⟨_, rfl⟩
    have hob := hdo.out i hil
    rw [← he] at hob
    have hzk := zdk.out i hil
    rw [← he] at hzk
    obtain ⟨us, hus⟩ : ∃ us, us = vd i := ⟨_, rfl⟩
    have hcv := hdv.out i hil
    rw [← hus] at hob hcv
    have hck := (hdk.out i hil).2
    rw [← he] at hck
    have hbw : Below w.heap.size w wr := bthen hb2.out hBr
    have hobr := hob.kept hbw
    have x0 : wr.cell? ⟨gD, oD + i * 6, none⟩ = some (.string (bytes e.1)) := by
     rw [Nat.mul_comm] at hck; exact (hbw.cell (cell_lt hck)).trans hck
    obtain ⟨en, E1, E2, E3, en1, ec1, en2, ec2, en3, ec3, hys⟩ := ob_five hob
    obtain ⟨S, hS⟩ : ∃ S, S = bytes e.1 := ⟨_, rfl⟩
    rw [← hS] at x0
    have hSl : S.data.toList = e.1 := by rw [hS]; rfl
    have hSz : S.size = e.1.length := by rw [hS, bytes_size]
    have zS : S.size ≤ 1048576 := by omega
    subst hys
    obtain ⟨kk, hkk⟩ : ∃ k, k = e.2.kind := ⟨_, rfl⟩
    rw [← hkk] at hob hcv hobr
    have five : ∀ j u, [Value.int .i64 kk, .int .i64 en, .slice E1 en1 ec1, .slice E2 en2 ec2, .slice E3 en3 ec3][j]? = some u → wr.cell? ⟨gD, oD + i * 6 + 1 + j, none⟩ = some u := fun j u hj => by
     have h0 := hcv j (by have := (List.getElem?_eq_some_iff.1 hj).1; simpa using this)
     rw [hj] at h0
     have h1 := (hbw.cell (cell_lt h0)).trans h0
     rw [show oD + (6 * i + 1 + j) = oD + i * 6 + 1 + j by omega] at h1
     exact h1
    have x1 := five 0 _ rfl
    have x2 := five 1 _ rfl
    have x3 := five 2 _ rfl
    have x4 := five 3 _ rfl
    have x5 := five 4 _ rfl
    have hrise : i ≠ 0 → ∀ (S0 : ByteArray), S0 = bytes (d[i - 1]'(by omega)).1 → riseF d i = ltB S0.data.toList S.data.toList := fun h0 S0 hS0 => by
     unfold riseF
     rw [List.getElem?_eq_getElem (by omega : i - 1 < d.length), List.getElem?_eq_getElem hil, hSl, hS0, he]
     rfl
    have hentq : entQ dp d i = ((nameOk e.1 && (kk != 8 && (kk != 0 && e.2.may dp))) && (i == 0 || riseF d i)) := by
     unfold entQ atI
     rw [List.getElem?_eq_getElem hil, ← he, hkk]
    clear five hcv hck hob hSz
    have hP' := hP
    refine h9_ hP hS he hkk hus hentq hrise hSl hobr ?_; clear hP hS he hkk hus hentq hrise hSl hobr; intro hP hS he hkk hus hentq hrise hSl hobr
    replace hBr := hi_ hBr
    replace hbw := hi_ hbw
    replace hP' := hi_ hP'
    have hgeD : gD < wr.heap.size := cell_lt x0
    have hgw : w.heap.size < wr.heap.size := cell_lt r4
    go_upto_region 7 with (fail)
    clear x0 x1 x2 x3 x4 x5
    obtain ⟨W3, hW3, hb3⟩ := newA wr 91 #[.string S, .int .i64 kk, .int .i64 en, .slice E1 en1 ec1, .slice E2 en2 ec2, .slice E3 en3 ec3]
    have ecell : ∀ i v, #[Value.string S, .int .i64 kk, .int .i64 en, .slice E1 en1 ec1, .slice E2 en2 ec2, .slice E3 en3 ec3][i]? = some v → W3.cell? ⟨wr.heap.size, i, none⟩ = some v := by
     intro i v hv
     have h0 := alloc_cell (w := wr) (vs := #[Value.string S, .int .i64 kk, .int .i64 en, .slice E1 en1 ec1, .slice E2 en2 ec2, .slice E3 en3 ec3]) (e := 91) (i := i)
     rw [Nat.zero_add, hv] at h0
     rw [hW3]; exact h0
    rw [← hW3]
    obtain ⟨nk, hnk⟩ : ∃ z, nameOk e.1 = z := ⟨_, rfl⟩
    obtain ⟨mm, hmm⟩ : ∃ z, e.2.may dp = z := ⟨_, rfl⟩
    obtain ⟨b8, hb8⟩ : ∃ z, (kk == 8) = z := ⟨_, rfl⟩
    obtain ⟨b0, hb0⟩ : ∃ z, (kk == 0) = z := ⟨_, rfl⟩
    obtain ⟨pos, hpos⟩ : ∃ z, decide ((0 : Int) < (i : Int)) = z := ⟨_, rfl⟩
    obtain ⟨jj, hjj⟩ : ∃ z : Nat, z = i - 1 := ⟨_, rfl⟩
    have hjm : jj < m3 := by omega
    have hij : pos = true → (i : Int) - 1 = (jj : Int) := fun h => by rw [← hpos] at h; have := of_decide_eq_true h; omega
    have hwj : IntKind.i64.wrap (jj : Int) = (jj : Int) := IntWalk.i64_in _ (by omega)
    have hwd : IntKind.i64.wrap (dp : Int) = (dp : Int) := IntWalk.i64_in _ (by omega)
    have hpos2 : decide (0 < i) = pos := by rw [← hpos]; simp
    have hii2 : 0 ≤ (i : Int) ∧ (i : Int) ≤ 1048576 := by omega
    have hpi : (i == 0) = !pos := by rw [← hpos]; cases i <;> simp
    obtain ⟨S0, hS0⟩ : ∃ S0 : ByteArray, pos = true → wr.cell? ⟨gD, oD + jj * 6, none⟩ = some (.string S0) ∧ riseF d i = ltB S0.data.toList S.data.toList := by
     cases hp : pos with
     | false => exact ⟨S, fun h => by cases h⟩
     | true =>
      rw [hp] at hpos
      have hi0 : 0 < i := by have := of_decide_eq_true hpos; omega
      have hjl : jj < d.length := by omega
      have h0 := (hdk.out jj hjl).2
      rw [Nat.mul_comm] at h0
      have h1 := (hbw.out.cell (cell_lt h0)).trans h0
      refine ⟨bytes d[jj].1, fun _ => ⟨h1, ?_⟩⟩
      exact hrise.out (by omega) (bytes d[jj].1) (by simp only [hjj])
    obtain ⟨le, hle⟩ : ∃ z, (Op.bytesLess S.toList S0.toList || S.toList == S0.toList) = z := ⟨_, rfl⟩
    have hle2 : pos = true → riseF d i = !le := fun h => by rw [(hS0 h).2, ← hle, le_keys]; simp
    obtain ⟨a2, ha2⟩ : ∃ z, z = (!nk || (pos && le)) := ⟨_, rfl⟩
    obtain ⟨a3, ha3⟩ : ∃ z, z = (a2 || b8) := ⟨_, rfl⟩
    obtain ⟨a4, ha4⟩ : ∃ z, z = (a3 || b0) := ⟨_, rfl⟩
    have hent : entQ dp d i = !(a4 || !mm) := by
     rw [hentq.out, hnk, hmm, hpi, show (kk != 8) = !b8 by rw [← hb8]; rfl, show (kk != 0) = !b0 by rw [← hb0]; rfl, ha4, ha3, ha2]
     cases hp : pos with
     | false => cases nk <;> cases b8 <;> cases b0 <;> cases mm <;> rfl
     | true => rw [hle2 hp]; cases nk <;> cases b8 <;> cases b0 <;> cases mm <;> cases le <;> rfl
    have hEf : entQ dp d i = false → E = false := fun h => by
     rw [hE.out, List.all_eq_false]; exact ⟨i, List.mem_range.2 him, by rw [h]; decide⟩
    have zz : ∀ W, Below W3.heap.size W3 W → (W.cell? ⟨wr.heap.size, 0, none⟩ = some (.string S) ∧ W.cell? ⟨wr.heap.size, 1, none⟩ = some (.int .i64 kk) ∧ W.cell? ⟨wr.heap.size, 2, none⟩ = some (.int .i64 en) ∧ W.cell? ⟨wr.heap.size, 3, none⟩ = some (.slice E1 en1 ec1) ∧ W.cell? ⟨wr.heap.size, 4, none⟩ = some (.slice E2 en2 ec2) ∧ W.cell? ⟨wr.heap.size, 5, none⟩ = some (.slice E3 en3 ec3)) ∧ W.cell? ⟨w.heap.size, 4, none⟩ = some (.slice (some ⟨gD, oD, none⟩) m3 cD) ∧ (pos = true → W.cell? ⟨gD, oD + jj * 6, none⟩ = some (.string S0)) := fun W hW => by
     have ez : ∀ t v, #[Value.string S, .int .i64 kk, .int .i64 en, .slice E1 en1 ec1, .slice E2 en2 ec2, .slice E3 en3 ec3][t]? = some v → W.cell? ⟨wr.heap.size, t, none⟩ = some v := fun t v hv => (hW.cell (cell_lt (ecell t v hv))).trans (ecell t v hv)
     refine ⟨⟨ez 0 _ rfl, ez 1 _ rfl, ez 2 _ rfl, ez 3 _ rfl, ez 4 _ rfl, ez 5 _ rfl⟩, ?_, fun h => ?_⟩
     ·have h0 := (hb3.cell (cell_lt r4)).trans r4
      exact (hW.cell (cell_lt h0)).trans h0
     ·have h0 := (hb3.cell (cell_lt (hS0 h).1)).trans (hS0 h).1
      exact (hW.cell (cell_lt h0)).trans h0
    have c76 : ∀ W A c, Byt W A S.data.toList → Calls Tryz.prog 73 #[.slice A S.size c] W fun e' w' => e' = .returned (.bool nk) ∧ W = w' := fun W A c hb => by
     have h0 := ref_name A c S.data.toList W hb
     rw [show S.data.toList.length = S.size from Array.length_toList, hSl.out, hnk] at h0
     exact h0
    have c49 : ∀ W, Below W3.heap.size W3 W → Calls Tryz.prog 39 #[.agg #[.int .i64 kk, .int .i64 en, .slice E1 en1 ec1, .slice E2 en2 ec2, .slice E3 en3 ec3], .int .i64 (dp : Int)] W fun e' w' => e' = .returned (.bool mm) ∧ Below W.heap.size W w' := fun W hW => by
     have h0 := hi.out e.2 _ W (hobr.out.kept (bthen hb3 hW)) (by omega)
     rw [hmm] at h0
     exact h0
    have hW3' := hi_ hb3
    clear ecell hrise hentq hS0 hobr hpi hnk hmm hb3
    refine h9_ hent hEf hle2 zz hW3 c76 c49 hjj ha2 ?_; clear hent hEf hle2 zz hW3 c76 c49 hjj ha2; intro hent hEf hle2 zz hW3 c76 c49 hjj ha2
    refine h3_ ha3 ha4 hij ?_; clear ha3 ha4 hij; intro ha3 ha4 hij
    refine wp_lin_tail (by kernel_rfl) [none, none, none, none, none, none, none, none, none, none, none, none, none, none, none, none, none, none, none, none, none, none, none, none, none, none, none, some 0, some 1, some 2, some 3, some 4, some 5, some 6, some 7, some 8, some 9, some 10, some 11, some 12, some 13, some 14, some 15, some 16, some 17, some 18, some 19, some 20, some 21, some 22, some 23, some 24, some 25, some 26, some 27, some 28, some 29, some 30, some 31, some 32, some 33, some 34, some 35, some 36, some 37, some 38, some 39, none] (fun w' => Below W3.heap.size W3 w') (fun w' w'' => Below w'.heap.size w' w'') (G7 wr.heap.size w.heap.size gD oD m3 cD jj (i : Int) kk ((dp : Int) + 1) (dp : Int) S S0 #[.int .i64 kk, .int .i64 en, .slice E1 en1 ec1, .slice E2 en2 ec2, .slice E3 en3 ec3] nk pos le a2 a3 a4 b8 b0 mm) (by rfl) (by kernel_rfl) 40 _ rfl (by decide) (by kernel_rfl) [1, 2, 3, 5, 5, 20, 7, 8, 21, 10, 18, 12, 15, 14, 15, 16, 17, 18, 19, 20, 21, 27, 23, 24, 25, 26, 27, 33, 29, 30, 31, 32, 33, 40, 35, 38, 37, 38, 39, 40, 0] (by kernel_rfl) ?hR ?mono (.cons 39 (step_of [38, 33] rfl (by kernel_rfl) ?s39) (.cons 38 (step_of [35, 37, 33] rfl (by kernel_rfl) ?s38) (.cons 37 (step_of [36, 33] rfl (by kernel_rfl) ?s37) (.cons 36 (step_of [33] rfl (by kernel_rfl) ?s36) (.cons 35 (step_of [34, 33] rfl (by kernel_rfl) ?s35) (.cons 34 (step_of [33] rfl (by kernel_rfl) ?s34) (.cons 33 (step_of [32, 27] rfl (by kernel_rfl) ?s33) (.cons 32 (step_of [27, 31] rfl (by kernel_rfl) ?s32) (.cons 31 (step_of [30, 27] rfl (by kernel_rfl) ?s31) (.cons 30 (step_of [29, 27] rfl (by kernel_rfl) ?s30) (.cons 29 (step_of [28, 27] rfl (by kernel_rfl) ?s29) (.cons 28 (step_of [27] rfl (by kernel_rfl) ?s28) (.cons 27 (step_of [26, 21] rfl (by kernel_rfl) ?s27) (.cons 26 (step_of [21, 25] rfl (by kernel_rfl) ?s26) (.cons 25 (step_of [24, 21] rfl (by kernel_rfl) ?s25) (.cons 24 (step_of [23, 21] rfl (by kernel_rfl) ?s24) (.cons 23 (step_of [22, 21] rfl (by kernel_rfl) ?s23) (.cons 22 (step_of [21] rfl (by kernel_rfl) ?s22) (.cons 21 (step_of [20, 8] rfl (by kernel_rfl) ?s21) (.cons 20 (step_of [5, 19] rfl (by kernel_rfl) ?s20) (.cons 19 (step_of [8, 18, 5] rfl (by kernel_rfl) ?s19) (.cons 18 (step_of [10, 17, 8] rfl (by kernel_rfl) ?s18) (.cons 17 (step_of [16, 8] rfl (by kernel_rfl) ?s17) (.cons 16 (step_of [15, 8] rfl (by kernel_rfl) ?s16) (.cons 15 (step_of [12, 14, 8] rfl (by kernel_rfl) ?s15) (.cons 14 (step_of [13, 8] rfl (by kernel_rfl) ?s14) (.cons 13 (step_of [8] rfl (by kernel_rfl) ?s13) (.cons 12 (step_of [11, 8] rfl (by kernel_rfl) ?s12) (.cons 11 (step_of [8] rfl (by kernel_rfl) ?s11) (.cons 10 (step_of [9, 8] rfl (by kernel_rfl) ?s10) (.cons 9 (step_of [8] rfl (by kernel_rfl) ?s9) (.cons 8 (step_of [7, 5] rfl (by kernel_rfl) ?s8) (.cons 7 (step_of [6, 5] rfl (by kernel_rfl) ?s7) (.cons 6 (step_of [5] rfl (by kernel_rfl) ?s6) (.cons 5 (step_of [4, 3] rfl (by kernel_rfl) ?s5) (.cons 4 (step_of [3] rfl (by kernel_rfl) ?s4) (.cons 3 (step_of [2] rfl (by kernel_rfl) ?s3) (.cons 2 (step_of [1] rfl (by kernel_rfl) ?s2) (.cons 1 (step_of [0] rfl (by kernel_rfl) ?s1) (.cons 0 (step_of [] rfl (by kernel_rfl) ?s0) (.nil))))))))))))))))))))))))))))))))))))))))) ?done
    case hR => exact (Below.refl _ _).drew
    case mono => exact G7_mono
    case done =>
     intro x w4 hR2 hG fr hfr
     have g33 := hG 33 (by omega)
     have g39 := hG 39 (by omega)
     simp only [G7] at g33 g39
     clear hG
     simp only [fillL] at hfr
     rw [g33] at hfr
     have hBw : Below wr.heap.size wr w4 := bthen hW3'.out hR2
     replace hBw := hi_ hBw
     replace hR2 := hi_ hR2
     cases a4 with
     | true =>
      have hF : E = false := hEf.out (by rw [hent.out]; rfl)
      subst hfr
      clear g39
      go_wp2
      go_ret
      exact ⟨by first | rfl | (rw [hF]; rfl), bthen hbw.out hBw.out⟩
     | false =>
      rw [g39 rfl] at hfr
      subst hfr
      clear g39
      cases mm with
      | false =>
       have hF : E = false := hEf.out (by rw [hent.out]; rfl)
       go_wp2
       go_ret
       exact ⟨by first | rfl | (rw [hF]; rfl), bthen hbw.out hBw.out⟩
      | true =>
       have hP2 : ∀ t, t < i + 1 → entQ dp d t = true := fun t ht => by
        by_cases h : t = i
        ·rw [h, hent.out]; rfl
        ·exact hP.out t (by omega)
       replace hP2 := hi_ hP2
       clear hEf
       go_wp2
       go_roundw
       case rel => exact ⟨i + 1, by omega, by go_num, hP2.out, hBr.out.trans (hBw.out.mono hBr.out.size)⟩
       case measure => simp [RowKit.intOf]; omega
    case' s0 | s1 | s2 | s3 | s4 | s5 | s6 | s7 | s8 | s9 | s10 | s11 | s12 | s13 | s14 | s15 | s16 | s17 | s18 | s19 | s20 | s21 | s22 | s23 | s24 | s25 | s26 | s27 | s28 | s29 | s30 | s31 | s32 | s33 | s34 | s35 | s36 | s37 | s38 | s39 =>
     intro x w' hRw hd K hK
     simp only [All, G7] at hd
     simp +decide only [upd, G7, fillL, if_true, if_false] at hK ⊢
    case s0 =>
     obtain ⟨_⟩ := hd
     go_simp
     have hK2 := hK _ _ ⟨hRw, Below.refl _ _, rfl⟩
     exact hK2
    case s1 =>
     obtain ⟨e0, _⟩ := hd
     obtain ⟨⟨z0, z1, z2, z3, z4, z5⟩, z6, z7⟩ := zz.out w' hRw
     simp only [e0] at hK ⊢
     go_simp
     have hK2 := hK _ _ ⟨hRw, Below.refl _ _, rfl⟩
     exact hK2
    case s2 =>
     obtain ⟨e1, _⟩ := hd
     obtain ⟨cc, Wc, hcv, hbc, hBc, _, _⟩ := conv_bytes w' S (by omega)
     simp only [e1] at hK ⊢
     go_simp
     have hK2 := hK _ _ ⟨bthen hRw hBc, hBc, _, cc, rfl, hbc⟩
     exact hK2
    case s3 =>
     obtain ⟨⟨A2, c2, e2, hb2⟩, _⟩ := hd
     simp only [e2] at hK ⊢
     go_simp
     refine (c76.out w' A2 c2 hb2).mono ?_
     rintro e' w2 ⟨rfl, rfl⟩
     have hK2 := hK _ _ ⟨hRw, Below.refl _ _, rfl⟩
     exact hK2
    case s4 =>
     obtain ⟨e3, _⟩ := hd
     simp only [e3] at hK ⊢
     go_simp
     have hK2 := hK _ _ ⟨hRw, Below.refl _ _, rfl⟩
     exact hK2
    case s5 =>
     obtain ⟨e4, e3, _⟩ := hd
     simp only [e4, e3] at hK ⊢
     go_simp
     have hK2 := hK _ _ ⟨hRw, Below.refl _ _, rfl⟩
     exact hK2
    case s6 =>
     obtain ⟨e5, _⟩ := hd
     simp only [e5] at hK ⊢
     cases nk with
     | false =>
      go_simp
      have hK2 := hK undef _ ⟨hRw, Below.refl _ _, fun h => by cases h⟩
      exact hK2
     | true =>
      go_simp
      have hK2 := hK _ _ ⟨hRw, Below.refl _ _, fun _ => rfl⟩
      exact hK2
    case s7 =>
     obtain ⟨e6, e5, _⟩ := hd
     simp only [e5] at hK ⊢
     cases nk with
     | false =>
      go_simp
      have hK2 := hK undef _ ⟨hRw, Below.refl _ _, fun h => by cases h⟩
      exact hK2
     | true =>
      simp only [e6 rfl] at hK ⊢
      go_simp
      try simp only [hpos, hpos2]
      have hK2 := hK _ _ ⟨hRw, Below.refl _ _, fun _ => rfl⟩
      exact hK2
    case s8 =>
     obtain ⟨e7, e5, _⟩ := hd
     simp only [e5] at hK ⊢
     cases nk with
     | false =>
      go_simp
      have hK2 := hK undef _ ⟨hRw, Below.refl _ _, (fun h => by cases h), fun _ => rfl⟩
      exact hK2
     | true =>
      simp only [e7 rfl] at hK ⊢
      go_simp
      have hK2 := hK _ _ ⟨hRw, Below.refl _ _, (fun _ => rfl), fun h => by cases h⟩
      exact hK2
    case s9 =>
     obtain ⟨⟨e8, n8⟩, _⟩ := hd
     cases nk with
     | false =>
      simp only [n8 rfl] at hK ⊢
      go_simp
      have hK2 := hK undef _ ⟨hRw, Below.refl _ _, fun h => by cases h⟩
      exact hK2
     | true =>
      simp only [e8 rfl] at hK ⊢
      cases pos with
      | false =>
       go_simp
       have hK2 := hK undef _ ⟨hRw, Below.refl _ _, fun _ h => by cases h⟩
       exact hK2
      | true =>
       go_simp
       have hK2 := hK _ _ ⟨hRw, Below.refl _ _, fun _ _ => rfl⟩
       exact hK2
    case s10 =>
     obtain ⟨e9, ⟨e8, n8⟩, _⟩ := hd
     obtain ⟨⟨z0, z1, z2, z3, z4, z5⟩, z6, z7⟩ := zz.out w' hRw
     cases nk with
     | false =>
      simp only [n8 rfl] at hK ⊢
      go_simp
      have hK2 := hK undef _ ⟨hRw, Below.refl _ _, fun h => by cases h⟩
      exact hK2
     | true =>
      simp only [e8 rfl] at hK ⊢
      cases pos with
      | false =>
       go_simp
       have hK2 := hK undef _ ⟨hRw, Below.refl _ _, fun _ h => by cases h⟩
       exact hK2
      | true =>
       simp only [e9 rfl rfl] at hK ⊢
       go_simp
       have hK2 := hK _ _ ⟨hRw, Below.refl _ _, fun _ _ => rfl⟩
       exact hK2
    case s11 =>
     obtain ⟨⟨e8, n8⟩, _⟩ := hd
     cases nk with
     | false =>
      simp only [n8 rfl] at hK ⊢
      go_simp
      have hK2 := hK undef _ ⟨hRw, Below.refl _ _, fun h => by cases h⟩
      exact hK2
     | true =>
      simp only [e8 rfl] at hK ⊢
      cases pos with
      | false =>
       go_simp
       have hK2 := hK undef _ ⟨hRw, Below.refl _ _, fun _ h => by cases h⟩
       exact hK2
      | true =>
       go_simp
       have hK2 := hK _ _ ⟨hRw, Below.refl _ _, fun _ _ => rfl⟩
       exact hK2
    case s12 =>
     obtain ⟨e11, ⟨e8, n8⟩, _⟩ := hd
     obtain ⟨⟨z0, z1, z2, z3, z4, z5⟩, z6, z7⟩ := zz.out w' hRw
     cases nk with
     | false =>
      simp only [n8 rfl] at hK ⊢
      go_simp
      have hK2 := hK undef _ ⟨hRw, Below.refl _ _, fun h => by cases h⟩
      exact hK2
     | true =>
      simp only [e8 rfl] at hK ⊢
      cases pos with
      | false =>
       go_simp
       have hK2 := hK undef _ ⟨hRw, Below.refl _ _, fun _ h => by cases h⟩
       exact hK2
      | true =>
       simp only [e11 rfl rfl] at hK ⊢
       go_simp
       have hK2 := hK _ _ ⟨hRw, Below.refl _ _, fun _ _ => rfl⟩
       exact hK2
    case s13 =>
     obtain ⟨⟨e8, n8⟩, _⟩ := hd
     cases nk with
     | false =>
      simp only [n8 rfl] at hK ⊢
      go_simp
      have hK2 := hK undef _ ⟨hRw, Below.refl _ _, fun h => by cases h⟩
      exact hK2
     | true =>
      simp only [e8 rfl] at hK ⊢
      cases pos with
      | false =>
       go_simp
       have hK2 := hK undef _ ⟨hRw, Below.refl _ _, fun _ h => by cases h⟩
       exact hK2
      | true =>
       go_simp
       have hK2 := hK _ _ ⟨hRw, Below.refl _ _, fun _ _ => rfl⟩
       exact hK2
    case s14 =>
     obtain ⟨e13, ⟨e8, n8⟩, _⟩ := hd
     cases nk with
     | false =>
      simp only [n8 rfl] at hK ⊢
      go_simp
      have hK2 := hK undef _ ⟨hRw, Below.refl _ _, fun h => by cases h⟩
      exact hK2
     | true =>
      simp only [e8 rfl] at hK ⊢
      cases pos with
      | false =>
       go_simp
       have hK2 := hK undef _ ⟨hRw, Below.refl _ _, fun _ h => by cases h⟩
       exact hK2
      | true =>
       have hij' := hij.out rfl
       simp only [e13 rfl rfl] at hK ⊢
       go_simp
       try simp only [hij', hwj]
       have hK2 := hK _ _ ⟨hRw, Below.refl _ _, fun _ _ => rfl⟩
       exact hK2
    case s15 =>
     obtain ⟨e12, e14, ⟨e8, n8⟩, _⟩ := hd
     cases nk with
     | false =>
      simp only [n8 rfl] at hK ⊢
      go_simp
      have hK2 := hK undef _ ⟨hRw, Below.refl _ _, fun h => by cases h⟩
      exact hK2
     | true =>
      simp only [e8 rfl] at hK ⊢
      cases pos with
      | false =>
       go_simp
       have hK2 := hK undef _ ⟨hRw, Below.refl _ _, fun _ h => by cases h⟩
       exact hK2
      | true =>
       simp only [e12 rfl rfl, e14 rfl rfl] at hK ⊢
       go_simp
       have hK2 := hK _ _ ⟨hRw, Below.refl _ _, fun _ _ => rfl⟩
       exact hK2
    case s16 =>
     obtain ⟨e15, ⟨e8, n8⟩, _⟩ := hd
     cases nk with
     | false =>
      simp only [n8 rfl] at hK ⊢
      go_simp
      have hK2 := hK undef _ ⟨hRw, Below.refl _ _, fun h => by cases h⟩
      exact hK2
     | true =>
      simp only [e8 rfl] at hK ⊢
      cases pos with
      | false =>
       go_simp
       have hK2 := hK undef _ ⟨hRw, Below.refl _ _, fun _ h => by cases h⟩
       exact hK2
      | true =>
       simp only [e15 rfl rfl] at hK ⊢
       go_simp
       have hK2 := hK _ _ ⟨hRw, Below.refl _ _, fun _ _ => rfl⟩
       exact hK2
    case s17 =>
     obtain ⟨e16, ⟨e8, n8⟩, _⟩ := hd
     obtain ⟨⟨z0, z1, z2, z3, z4, z5⟩, z6, z7⟩ := zz.out w' hRw
     cases nk with
     | false =>
      simp only [n8 rfl] at hK ⊢
      go_simp
      have hK2 := hK undef _ ⟨hRw, Below.refl _ _, fun h => by cases h⟩
      exact hK2
     | true =>
      simp only [e8 rfl] at hK ⊢
      cases pos with
      | false =>
       go_simp
       have hK2 := hK undef _ ⟨hRw, Below.refl _ _, fun _ h => by cases h⟩
       exact hK2
      | true =>
       have z7' := z7 rfl
       simp only [e16 rfl rfl] at hK ⊢
       go_simp
       have hK2 := hK _ _ ⟨hRw, Below.refl _ _, fun _ _ => rfl⟩
       exact hK2
    case s18 =>
     obtain ⟨e10, e17, ⟨e8, n8⟩, _⟩ := hd
     cases nk with
     | false =>
      simp only [n8 rfl] at hK ⊢
      go_simp
      have hK2 := hK undef _ ⟨hRw, Below.refl _ _, fun h => by cases h⟩
      exact hK2
     | true =>
      simp only [e8 rfl] at hK ⊢
      cases pos with
      | false =>
       go_simp
       have hK2 := hK undef _ ⟨hRw, Below.refl _ _, fun _ h => by cases h⟩
       exact hK2
      | true =>
       simp only [e10 rfl rfl, e17 rfl rfl] at hK ⊢
       go_simp
       try simp only [hle]
       have hK2 := hK _ _ ⟨hRw, Below.refl _ _, fun _ _ => rfl⟩
       exact hK2
    case s19 =>
     obtain ⟨⟨e8, n8⟩, e18, e5, _⟩ := hd
     simp only [e5] at hK ⊢
     cases nk with
     | false =>
      simp only [n8 rfl] at hK ⊢
      go_simp
      have hK2 := hK undef _ ⟨hRw, Below.refl _ _, fun h => by cases h⟩
      exact hK2
     | true =>
      simp only [e8 rfl] at hK ⊢
      cases pos with
      | false =>
       go_simp
       have hK2 := hK _ _ ⟨hRw, Below.refl _ _, fun _ => rfl⟩
       exact hK2
      | true =>
       simp only [e18 rfl rfl] at hK ⊢
       go_simp
       have hK2 := hK _ _ ⟨hRw, Below.refl _ _, fun _ => rfl⟩
       exact hK2
    case s20 =>
     obtain ⟨e5, e19, _⟩ := hd
     have hq := ha2.out
     simp only [e5] at hK ⊢
     cases nk with
     | false =>
      subst hq
      go_simp
      have hK2 := hK _ _ ⟨hRw, Below.refl _ _, rfl⟩
      exact hK2
     | true =>
      simp only [e19 rfl] at hK ⊢
      subst hq
      go_simp
      have hK2 := hK _ _ ⟨hRw, Below.refl _ _, rfl⟩
      exact hK2
    case s21 =>
     obtain ⟨e20, ⟨e8, n8⟩, _⟩ := hd
     simp only [e20] at hK ⊢
     go_simp
     have hK2 := hK _ _ ⟨hRw, Below.refl _ _, rfl⟩
     exact hK2
    case s22 =>
     obtain ⟨e21, _⟩ := hd
     simp only [e21] at hK ⊢
     cases a2 with
     | true =>
      go_simp
      have hK2 := hK undef _ ⟨hRw, Below.refl _ _, fun h => by cases h⟩
      exact hK2
     | false =>
      go_simp
      have hK2 := hK _ _ ⟨hRw, Below.refl _ _, fun _ => rfl⟩
      exact hK2
    case s23 =>
     obtain ⟨e22, e21, _⟩ := hd
     simp only [e21] at hK ⊢
     cases a2 with
     | true =>
      go_simp
      have hK2 := hK undef _ ⟨hRw, Below.refl _ _, fun h => by cases h⟩
      exact hK2
     | false =>
      simp only [e22 rfl] at hK ⊢
      go_simp
      have hK2 := hK _ _ ⟨hRw, Below.refl _ _, fun _ => rfl⟩
      exact hK2
    case s24 =>
     obtain ⟨e23, e21, _⟩ := hd
     obtain ⟨⟨z0, z1, z2, z3, z4, z5⟩, z6, z7⟩ := zz.out w' hRw
     simp only [e21] at hK ⊢
     cases a2 with
     | true =>
      go_simp
      have hK2 := hK undef _ ⟨hRw, Below.refl _ _, fun h => by cases h⟩
      exact hK2
     | false =>
      simp only [e23 rfl] at hK ⊢
      go_simp
      have hK2 := hK _ _ ⟨hRw, Below.refl _ _, fun _ => rfl⟩
      exact hK2
    case s25 =>
     obtain ⟨e24, e21, _⟩ := hd
     simp only [e21] at hK ⊢
     cases a2 with
     | true =>
      go_simp
      have hK2 := hK undef _ ⟨hRw, Below.refl _ _, fun h => by cases h⟩
      exact hK2
     | false =>
      simp only [e24 rfl] at hK ⊢
      go_simp
      try simp only [hb8]
      have hK2 := hK _ _ ⟨hRw, Below.refl _ _, fun _ => rfl⟩
      exact hK2
    case s26 =>
     obtain ⟨e21, e25, _⟩ := hd
     have hq := ha3.out
     simp only [e21] at hK ⊢
     cases a2 with
     | true =>
      subst hq
      go_simp
      have hK2 := hK _ _ ⟨hRw, Below.refl _ _, rfl⟩
      exact hK2
     | false =>
      simp only [e25 rfl] at hK ⊢
      subst hq
      go_simp
      have hK2 := hK _ _ ⟨hRw, Below.refl _ _, rfl⟩
      exact hK2
    case s27 =>
     obtain ⟨e26, e21, _⟩ := hd
     simp only [e26, e21] at hK ⊢
     go_simp
     have hK2 := hK _ _ ⟨hRw, Below.refl _ _, rfl⟩
     exact hK2
    case s28 =>
     obtain ⟨e27, _⟩ := hd
     simp only [e27] at hK ⊢
     cases a3 with
     | true =>
      go_simp
      have hK2 := hK undef _ ⟨hRw, Below.refl _ _, fun h => by cases h⟩
      exact hK2
     | false =>
      go_simp
      have hK2 := hK _ _ ⟨hRw, Below.refl _ _, fun _ => rfl⟩
      exact hK2
    case s29 =>
     obtain ⟨e28, e27, _⟩ := hd
     simp only [e27] at hK ⊢
     cases a3 with
     | true =>
      go_simp
      have hK2 := hK undef _ ⟨hRw, Below.refl _ _, fun h => by cases h⟩
      exact hK2
     | false =>
      simp only [e28 rfl] at hK ⊢
      go_simp
      have hK2 := hK _ _ ⟨hRw, Below.refl _ _, fun _ => rfl⟩
      exact hK2
    case s30 =>
     obtain ⟨e29, e27, _⟩ := hd
     obtain ⟨⟨z0, z1, z2, z3, z4, z5⟩, z6, z7⟩ := zz.out w' hRw
     simp only [e27] at hK ⊢
     cases a3 with
     | true =>
      go_simp
      have hK2 := hK undef _ ⟨hRw, Below.refl _ _, fun h => by cases h⟩
      exact hK2
     | false =>
      simp only [e29 rfl] at hK ⊢
      go_simp
      have hK2 := hK _ _ ⟨hRw, Below.refl _ _, fun _ => rfl⟩
      exact hK2
    case s31 =>
     obtain ⟨e30, e27, _⟩ := hd
     simp only [e27] at hK ⊢
     cases a3 with
     | true =>
      go_simp
      have hK2 := hK undef _ ⟨hRw, Below.refl _ _, fun h => by cases h⟩
      exact hK2
     | false =>
      simp only [e30 rfl] at hK ⊢
      go_simp
      try simp only [hb0]
      have hK2 := hK _ _ ⟨hRw, Below.refl _ _, fun _ => rfl⟩
      exact hK2
    case s32 =>
     obtain ⟨e27, e31, _⟩ := hd
     have hq := ha4.out
     simp only [e27] at hK ⊢
     cases a3 with
     | true =>
      subst hq
      go_simp
      have hK2 := hK _ _ ⟨hRw, Below.refl _ _, rfl⟩
      exact hK2
     | false =>
      simp only [e31 rfl] at hK ⊢
      subst hq
      go_simp
      have hK2 := hK _ _ ⟨hRw, Below.refl _ _, rfl⟩
      exact hK2
    case s33 =>
     obtain ⟨e32, e27, _⟩ := hd
     simp only [e32, e27] at hK ⊢
     go_simp
     have hK2 := hK _ _ ⟨hRw, Below.refl _ _, rfl⟩
     exact hK2
    case s34 =>
     obtain ⟨e33, _⟩ := hd
     simp only [e33] at hK ⊢
     cases a4 with
     | true =>
      go_simp
      have hK2 := hK undef _ ⟨hRw, Below.refl _ _, fun h => by cases h⟩
      exact hK2
     | false =>
      go_simp
      have hK2 := hK _ _ ⟨hRw, Below.refl _ _, fun _ => rfl⟩
      exact hK2
    case s35 =>
     obtain ⟨e34, e33, _⟩ := hd
     obtain ⟨⟨z0, z1, z2, z3, z4, z5⟩, z6, z7⟩ := zz.out w' hRw
     simp only [e33] at hK ⊢
     cases a4 with
     | true =>
      go_simp
      have hK2 := hK undef _ ⟨hRw, Below.refl _ _, fun h => by cases h⟩
      exact hK2
     | false =>
      simp only [e34 rfl] at hK ⊢
      go_simp
      have hK2 := hK _ _ ⟨hRw, Below.refl _ _, fun _ => rfl⟩
      exact hK2
    case s36 =>
     obtain ⟨e33, _⟩ := hd
     simp only [e33] at hK ⊢
     cases a4 with
     | true =>
      go_simp
      have hK2 := hK undef _ ⟨hRw, Below.refl _ _, fun h => by cases h⟩
      exact hK2
     | false =>
      go_simp
      have hK2 := hK _ _ ⟨hRw, Below.refl _ _, fun _ => rfl⟩
      exact hK2
    case s37 =>
     obtain ⟨e36, e33, _⟩ := hd
     simp only [e33] at hK ⊢
     cases a4 with
     | true =>
      go_simp
      have hK2 := hK undef _ ⟨hRw, Below.refl _ _, fun h => by cases h⟩
      exact hK2
     | false =>
      simp only [e36 rfl] at hK ⊢
      go_simp
      try simp only [Int.add_sub_cancel, hwd]
      have hK2 := hK _ _ ⟨hRw, Below.refl _ _, fun _ => rfl⟩
      exact hK2
    case s38 =>
     obtain ⟨e35, e37, e33, _⟩ := hd
     simp only [e33] at hK ⊢
     cases a4 with
     | true =>
      go_simp
      have hK2 := hK undef _ ⟨hRw, Below.refl _ _, fun h => by cases h⟩
      exact hK2
     | false =>
      simp only [e35 rfl, e37 rfl] at hK ⊢
      go_simp
      refine (c49.out w' hRw).mono ?_
      rintro e' w2 ⟨rfl, hB9⟩
      have hK2 := hK _ _ ⟨bthen hRw hB9, hB9, fun _ => rfl⟩
      exact hK2
    case s39 =>
     obtain ⟨e38, e33, _⟩ := hd
     simp only [e33] at hK ⊢
     cases a4 with
     | true =>
      go_simp
      have hK2 := hK undef _ ⟨hRw, Below.refl _ _, fun h => by cases h⟩
      exact hK2
     | false =>
      simp only [e38 rfl] at hK ⊢
      go_simp
      have hK2 := hK _ _ ⟨hRw, Below.refl _ _, fun _ => rfl⟩
      exact hK2
   ·obtain rfl : i = m3 := by omega
    have hT : E = true := by
     rw [hE.out, List.all_eq_true]; intro j hj; exact hP j (List.mem_range.1 hj)
    subst hT
    replace hP := hi_ hP
    replace hBr := hi_ hBr
    go_wp2
    go_ret
    exact ⟨rfl, bthen hb2.out hBr.out⟩
end
section
open Go Go.RowKit Go.Wk
theorem spare_bad (k n : Int) (b : List UInt8) (l : List Ob) (d : List (List UInt8 × Ob)) : spareB k n b l d = ((k == 1 || k == 2 || k == 3 || k == 9 || n == 0) && !((decide ((0 : Int) < (l.length : Int)) && (k != 6)) || (decide ((0 : Int) < (d.length : Int)) && !hasI k) || (decide ((0 : Int) < (b.length : Int)) && (k != 4) && (k != 5) && (k != 8)))) := by
 have e : ∀ m : Nat, (m == 0) = !decide ((0 : Int) < (m : Int)) := fun m => by
  cases m with
  | zero => rfl
  | succ m => simp
 unfold spareB hasI
 rw [e, e, e]
 have f : ∀ c : Int, (k != c) = !(k == c) := fun c => rfl
 rw [f, f, f, f]
 generalize (k == 1 || k == 2 || k == 3 || k == 9 || n == 0) = N
 generalize (k == 4) = b4
 generalize (k == 5) = b5
 generalize (k == 8) = b8
 generalize (k == 6) = b6
 generalize (k == 7) = b7
 generalize decide ((0 : Int) < (l.length : Int)) = q2
 generalize decide ((0 : Int) < (d.length : Int)) = q3
 generalize decide ((0 : Int) < (b.length : Int)) = q1
 revert N b4 b5 b8 b6 b7 q1 q2 q3
 decide
theorem ref_may0 (dep : Nat) (hd : dep ≤ 28) (hi : ∀ d', dep = d' + 1 → RMayC d') : RMayC dep := by
 intro o vs w h hbk
 have hfull := h
 cases h with
 | mk k n b l d A AL AD c cL cD gL oL gD oD vl vd h1 h2 h3 h4 hB hbc hAc hlc hlm hdc hdm hAL hl hlv hAD hdo hdk hdv =>
 have hbk : (Ob.mk k n b l d).bulk ≤ 1048576 := hbk
 have zk : b.length + bulkL l + bulkD d + 1 ≤ 1048576 := hbk
 have zl := bulkL_len l
 have zd := bulkD_len d
 obtain ⟨W2, hW2, hb2⟩ := newA w 32 #[.int .i64 k, .int .i64 n, .slice A b.length c, .slice AL l.length cL, .slice AD d.length cD]
 have ocell : ∀ i v, #[Value.int .i64 k, .int .i64 n, .slice A b.length c, .slice AL l.length cL, .slice AD d.length cD][i]? = some v → W2.cell? ⟨w.heap.size, i, none⟩ = some v := by
  intro i v hv
  have h0 := alloc_cell (w := w) (vs := #[.int .i64 k, .int .i64 n, .slice A b.length c, .slice AL l.length cL, .slice AD d.length cD]) (e := 32) (i := i)
  rw [Nat.zero_add, hv] at h0
  rw [hW2]; exact h0
 have ch := fun W => ref_Has k (.int .i64 n) (.slice A b.length c) (.slice AL l.length cL) (.slice AD d.length cD) W
 have cn := fun W (hW : Below w.heap.size w W) => ref_name A c b W (hB.below hW)
 have ce := fun W (hW : Below w.heap.size w W) => ref_ents dep hd hi k n b l d _ W (hfull.kept hW) hbk
 have cI := fun W => ref_In n W
 have hmay : (Ob.mk k n b l d).may dep = (spareB k n b l d && (if k = 0 then true else if k = 1 then decide (0 ≤ n ∧ n ≤ 1) else if k = 2 then decide (-2147483647 ≤ n ∧ n ≤ 2147483647) else if k = 3 then decide (-214748364799999 ≤ n ∧ n ≤ 214748364799999) else if k = 9 then decide (1 ≤ n ∧ n ≤ 8388607) else if k = 4 then decide (b.length ≤ 32767) else if k = 5 then nameOk b else if k = 6 then decide (0 < dep) && mayL (dep - 1) l else if k = 7 ∨ k = 8 then decide (0 < dep) && risesB d && decide (b.length ≤ 16777216) && mayD (dep - 1) d else false)) := by simp only [Ob.may]
 rw [hmay, spare_bad]
 clear hmay
 obtain ⟨c6, hc6⟩ : ∃ z, (k != 6) = z := ⟨_, rfl⟩
 obtain ⟨c4, hc4⟩ : ∃ z, (k != 4) = z := ⟨_, rfl⟩
 obtain ⟨c5, hc5⟩ : ∃ z, (k != 5) = z := ⟨_, rfl⟩
 obtain ⟨c8, hc8⟩ : ∃ z, (k != 8) = z := ⟨_, rfl⟩
 obtain ⟨hs, hhs⟩ : ∃ z, hasI k = z := ⟨_, rfl⟩
 obtain ⟨q1, hq1⟩ : ∃ z, decide ((0 : Int) < (b.length : Int)) = z := ⟨_, rfl⟩
 obtain ⟨q2, hq2⟩ : ∃ z, decide ((0 : Int) < (l.length : Int)) = z := ⟨_, rfl⟩
 obtain ⟨q3, hq3⟩ : ∃ z, decide ((0 : Int) < (d.length : Int)) = z := ⟨_, rfl⟩
 rw [hc6, hc4, hc5, hc8, hhs, hq1, hq2, hq3]
 rw [hhs] at ch
 obtain ⟨bad, hbad⟩ : ∃ z, z = ((q2 && c6) || (q3 && !hs) || (q1 && c4 && c5 && c8)) := ⟨_, rfl⟩
 rw [← hbad]
 obtain ⟨m1, hm1⟩ : ∃ m, m = b.length := ⟨_, rfl⟩
 obtain ⟨m2, hm2⟩ : ∃ m, m = l.length := ⟨_, rfl⟩
 obtain ⟨m3, hm3⟩ : ∃ m, m = d.length := ⟨_, rfl⟩
 have zb : m1 ≤ 1048576 := by omega
 have zl2 : m2 ≤ 1048576 := by omega
 have zd2 : m3 ≤ 1048576 := by omega
 have o0 : W2.cell? ⟨w.heap.size, 0, none⟩ = some (.int .i64 k) := ocell 0 _ rfl
 have o1 : W2.cell? ⟨w.heap.size, 1, none⟩ = some (.int .i64 n) := ocell 1 _ rfl
 have o2 : W2.cell? ⟨w.heap.size, 2, none⟩ = some (.slice A b.length c) := ocell 2 _ rfl
 have o3 : W2.cell? ⟨w.heap.size, 3, none⟩ = some (.slice AL l.length cL) := ocell 3 _ rfl
 have o4 : W2.cell? ⟨w.heap.size, 4, none⟩ = some (.slice AD d.length cD) := ocell 4 _ rfl
 rw [← hm1] at hW2 o2 ch cn ce hq1 ⊢
 rw [← hm2] at hW2 o3 ch ce hq2 ⊢
 rw [← hm3] at hW2 o4 ch ce hq3 ⊢
 clear ocell zk zl zd hlc hlm hdc hdm hdo hdk hdv hfull
 refine h9_ hm1 hm2 hm3 hW2 hb2 hbad cn ce hhs ?_; clear hm1 hm2 hm3 hW2 hb2 hbad cn ce hhs; intro hm1 hm2 hm3 hW2 hb2 hbad cn ce hhs
 refine h5_ hi hl hlv hAL hB ?_; clear hi hl hlv hAL hB; intro hi hl hlv hAL hB
 obtain ⟨R, hR⟩ : ∃ R, R = (if k = 0 then true else if k = 1 then decide (0 ≤ n ∧ n ≤ 1) else if k = 2 then decide (-2147483647 ≤ n ∧ n ≤ 2147483647) else if k = 3 then decide (-214748364799999 ≤ n ∧ n ≤ 214748364799999) else if k = 9 then decide (1 ≤ n ∧ n ≤ 8388607) else if k = 4 then decide (m1 ≤ 32767) else if k = 5 then nameOk b else if k = 6 then decide (0 < dep) && mayL (dep - 1) l else if k = 7 ∨ k = 8 then decide (0 < dep) && risesB d && decide (m1 ≤ 16777216) && mayD (dep - 1) d else false) := ⟨_, rfl⟩
 rw [← hR]
 replace hR := hi_ hR
 obtain ⟨M, hM⟩ : ∃ M, M = ((k == 1 || k == 2 || k == 3 || k == 9 || n == 0) && !bad && R) := ⟨_, rfl⟩
 rw [← hM]
 replace hM := hi_ hM
 go_enter Tryz.func39, Tryz.ntmps39
 go_upto_region 1 with (fail)
 rw [← hW2.out]
 go_upto_region 2 with (go_at_call 71; (with_reducible refine (ch _).mono ?_); rintro e w1 ⟨rfl, hB1⟩; have t0 := (hB1.cell (cell_lt o0)).trans o0; have t1 := (hB1.cell (cell_lt o1)).trans o1; have t2 := (hB1.cell (cell_lt o2)).trans o2; have t3 := (hB1.cell (cell_lt o3)).trans o3; have t4 := (hB1.cell (cell_lt o4)).trans o4; have hBw := bthen hb2.out hB1; replace hBw := hi_ hBw; replace hB1 := hi_ hB1)
 clear o0 o1 o2 o3 o4 ch
 go_cut [48] (fun s48 wx => s48 = .bool bad ∧ wx = w1)
 case first =>
  clear cI
  replace hM := hi_ hM
  cases hs
  all_goals
   go_wp2
   all_goals go_meet
   all_goals refine ⟨?_, rfl⟩
   all_goals (rw [hbad.out, ← hq1, ← hq2, ← hq3]; clear hbad hq1 hq2 hq3; simp [*])
 case rest =>
  obtain ⟨rfl, rfl⟩ := hcut
  clear hc4 hc5 hc6 hc8 hq1 hq2 hq3
  cases bad with
  | true =>
   have hM2 : M = false := by rw [hM.out]; simp
   clear hM hR cI cn ce
   subst hM2
   go_wp2
   go_ret
   exact ⟨rfl, hBw.out⟩
  | false =>
   have hM2 := hM.out
   simp only [Bool.not_false, Bool.and_true] at hM2
   have hR2 := hR.out
   clear hM hR hbad
   have cn2 := cn.out wc hBw.out
   have ce2 := ce.out wc hBw.out
   clear cn ce
   have kinds : k = 0 ∨ k = 1 ∨ k = 2 ∨ k = 3 ∨ k = 9 ∨ k = 4 ∨ k = 5 ∨ k = 6 ∨ (k = 7 ∨ k = 8) ∨ (k ≠ 0 ∧ k ≠ 1 ∧ k ≠ 2 ∧ k ≠ 3 ∧ k ≠ 9 ∧ k ≠ 4 ∧ k ≠ 5 ∧ k ≠ 6 ∧ k ≠ 7 ∧ k ≠ 8) := by omega
   rcases kinds with rfl | hk1 | rfl | rfl | rfl | rfl | rfl | rfl | h78 | ⟨e0, e1, e2, e3, e9, e4, e5, e6, e7, e8⟩
   ·by_cases hn : n = 0
    ·subst hn
     have hM3 : M = R := by rw [hM2]; simp
     clear hM2
     have hR3 : R = true := hR2
     clear cI cn2 ce2 hR2
     subst hR3
     subst hM3
     go_wp2
     go_ret
     exact ⟨rfl, hBw.out⟩
    ·have hM3 : M = false := by rw [hM2]; simp [hn]
     have hne : (n != 0) = true := by rw [bne_iff_ne]; exact hn
     clear hM2 cI cn2 ce2 hR2 hn
     subst hM3
     go_wp2
     go_ret
     exact ⟨rfl, hBw.out⟩

   ·have hM3 : M = R := by rw [hM2, hk1]; simp
    have hR3 : R = decide (0 ≤ n ∧ n ≤ 1) := by rw [hR2, hk1]; rfl
    have g1 : (k == 1) = true := by simpa using hk1
    clear hM2 hR2 cI cn2 ce2 hk1
    subst hM3
    by_cases h0 : n = 0
    ·subst h0
     have hR4 : M = true := by rw [hR3]; rfl
     clear hR3
     subst hR4
     go_wp2
     go_ret
     exact ⟨rfl, hBw.out⟩
    ·by_cases h1 : n = 1
     ·subst h1
      have hR4 : M = true := by rw [hR3]; rfl
      clear hR3
      subst hR4
      go_wp2
      go_ret
      exact ⟨rfl, hBw.out⟩
     ·have hR4 : M = false := by rw [hR3, decide_eq_false_iff_not]; omega
      clear hR3
      subst hR4
      have f0 : (n == 0) = false := by simpa using h0
      have f1 : (n == 1) = false := by simpa using h1
      go_wp2
      go_ret
      exact ⟨rfl, hBw.out⟩
   ·have hM3 : M = R := by rw [hM2]; simp
    have hR3 : R = decide (-2147483647 ≤ n ∧ n ≤ 2147483647) := hR2
    clear hM2 hR2 cI cn2 ce2
    subst hM3
    by_cases h0 : -2147483647 ≤ n
    ·by_cases h1 : n ≤ 2147483647
     ·rw [decide_eq_true ⟨h0, h1⟩] at hR3
      subst hR3
      have f0 : decide (-2147483647 ≤ n) = true := decide_eq_true h0
      have f1 : decide (n ≤ 2147483647) = true := decide_eq_true h1
      go_wp2
      go_ret
      exact ⟨rfl, hBw.out⟩
     ·rw [decide_eq_false (fun h => h1 h.2)] at hR3
      subst hR3
      have f0 : decide (-2147483647 ≤ n) = true := decide_eq_true h0
      have f1 : decide (n ≤ 2147483647) = false := decide_eq_false h1
      go_wp2
      go_ret
      exact ⟨rfl, hBw.out⟩
    ·rw [decide_eq_false (fun h => h0 h.1)] at hR3
     subst hR3
     have f0 : decide (-2147483647 ≤ n) = false := decide_eq_false h0
     go_wp2
     go_ret
     exact ⟨rfl, hBw.out⟩
   ·have hM3 : M = R := by rw [hM2]; simp
    have hR3 : R = decide (-214748364799999 ≤ n ∧ n ≤ 214748364799999) := hR2
    clear hM2 hR2 cn2 ce2
    subst hM3
    rw [← hR3] at cI
    clear hR3
    go_wp2_with (go_at_call 72; (with_reducible refine (cI _).mono ?_); rintro e w2 ⟨rfl, rfl⟩)
    go_ret
    exact ⟨rfl, hBw.out⟩
   ·have hM3 : M = R := by rw [hM2]; simp
    have hR3 : R = decide (1 ≤ n ∧ n ≤ 8388607) := hR2
    clear hM2 hR2 cI cn2 ce2
    subst hM3
    by_cases h0 : 1 ≤ n
    ·by_cases h1 : n ≤ 8388607
     ·rw [decide_eq_true ⟨h0, h1⟩] at hR3
      subst hR3
      have f0 : decide (1 ≤ n) = true := decide_eq_true h0
      have f1 : decide (n ≤ 8388607) = true := decide_eq_true h1
      go_wp2
      go_ret
      exact ⟨rfl, hBw.out⟩
     ·rw [decide_eq_false (fun h => h1 h.2)] at hR3
      subst hR3
      have f0 : decide (1 ≤ n) = true := decide_eq_true h0
      have f1 : decide (n ≤ 8388607) = false := decide_eq_false h1
      go_wp2
      go_ret
      exact ⟨rfl, hBw.out⟩
    ·rw [decide_eq_false (fun h => h0 h.1)] at hR3
     subst hR3
     have f0 : decide (1 ≤ n) = false := decide_eq_false h0
     go_wp2
     go_ret
     exact ⟨rfl, hBw.out⟩
   ·by_cases hn : n = 0
    ·subst hn
     have hM3 : M = R := by rw [hM2]; simp
     clear hM2
     have hR3 : R = decide (m1 ≤ 32767) := hR2
     clear cI cn2 ce2 hR2
     by_cases hq : m1 ≤ 32767
     ·rw [decide_eq_true hq] at hR3
      subst hR3
      subst hM3
      have q1 : decide ((m1 : Int) ≤ 32767) = true := by simp; omega
      go_wp2
      go_ret
      exact ⟨rfl, hBw.out⟩
     ·rw [decide_eq_false hq] at hR3
      subst hR3
      subst hM3
      have q1 : decide ((m1 : Int) ≤ 32767) = false := by simp; omega
      go_wp2
      go_ret
      exact ⟨rfl, hBw.out⟩
    ·have hM3 : M = false := by rw [hM2]; simp [hn]
     have hne : (n != 0) = true := by rw [bne_iff_ne]; exact hn
     clear hM2 cI cn2 ce2 hR2 hn
     subst hM3
     go_wp2
     go_ret
     exact ⟨rfl, hBw.out⟩

   ·by_cases hn : n = 0
    ·subst hn
     have hM3 : M = R := by rw [hM2]; simp
     clear hM2
     have hR3 : R = nameOk b := hR2
     clear cI ce2 hR2
     rw [← hR3] at cn2
     clear hR3
     subst hM3
     go_wp2_with (go_at_call 73; (with_reducible refine cn2.mono ?_); rintro e w2 ⟨rfl, rfl⟩)
     go_ret
     exact ⟨rfl, hBw.out⟩
    ·have hM3 : M = false := by rw [hM2]; simp [hn]
     have hne : (n != 0) = true := by rw [bne_iff_ne]; exact hn
     clear hM2 cI cn2 ce2 hR2 hn
     subst hM3
     go_wp2
     go_ret
     exact ⟨rfl, hBw.out⟩

   ·by_cases hn : n = 0
    ·subst hn
     have hM3 : M = R := by rw [hM2]; simp
     clear hM2
     have hR3 : R = (decide (0 < dep) && mayL (dep - 1) l) := hR2
     have hM4 : M = (decide (0 < dep) && mayL (dep - 1) l) := hM3.trans hR3
     clear hR2 hR3 hM3 cI cn2 ce2 h3 h4
     replace hM4 := hi_ hM4
     go_wp2
     go_loopw [6] (fun s6 wr => ∃ i : Nat, i ≤ m2 ∧ s6 = .int .i64 i ∧ (∀ j, j < i → 0 < dep ∧ atI l (fun o => o.kind != 8 && o.may (dep - 1)) j = true) ∧ Below wc.heap.size wc wr) (fun s6 _ => m2 - (RowKit.intOf s6).toNat)
     case atStart => exact ⟨0, by omega, rfl, fun j hj => by omega, Below.refl _ _⟩
     case round =>
      obtain ⟨i, him, rfl, hP, hBr⟩ := hrel
      have r3 := (hBr.cell (cell_lt t3)).trans t3
      by_cases hi2 : i < m2
      ·have hil : i < l.length := by rw [← hm2.out]; exact hi2
       have hAe := hAL.out (by omega)
       subst hAe
       have hob := hl.out i hil
       have hcv := hlv.out i hil
       obtain ⟨o, ho⟩ : ∃ o, o = l[i] := ⟨_, rfl⟩
       rw [← ho] at hob
       obtain ⟨us, hus⟩ : ∃ us, us = vl i := ⟨_, rfl⟩
       rw [← hus] at hob hcv
       have hbw : Below w.heap.size w wr := bthen hBw.out hBr
       have hobr := hob.kept hbw
       obtain ⟨en, E1, E2, E3, en1, ec1, en2, ec2, en3, ec3, hys⟩ := ob_five hob
       subst hys
       obtain ⟨kk, hkk⟩ : ∃ k, k = o.kind := ⟨_, rfl⟩
       rw [← hkk] at hob hcv hobr
       have five : ∀ j u, [Value.int .i64 kk, .int .i64 en, .slice E1 en1 ec1, .slice E2 en2 ec2, .slice E3 en3 ec3][j]? = some u → wr.cell? ⟨gL, oL + i * 5 + j, none⟩ = some u := fun j u hj => by
        have h0 := hcv j (by have := (List.getElem?_eq_some_iff.1 hj).1; simpa using this)
        rw [hj] at h0
        have h1 := (hbw.cell (cell_lt h0)).trans h0
        rw [show oL + (5 * i + j) = oL + i * 5 + j by omega] at h1
        exact h1
       have x0 : wr.cell? ⟨gL, oL + i * 5, none⟩ = some (.int .i64 kk) := five 0 _ rfl
       have x1 : wr.cell? ⟨gL, oL + i * 5 + 1, none⟩ = some (.int .i64 en) := five 1 _ rfl
       have x2 : wr.cell? ⟨gL, oL + i * 5 + 2, none⟩ = some (.slice E1 en1 ec1) := five 2 _ rfl
       have x3 : wr.cell? ⟨gL, oL + i * 5 + 3, none⟩ = some (.slice E2 en2 ec2) := five 3 _ rfl
       have x4 : wr.cell? ⟨gL, oL + i * 5 + 4, none⟩ = some (.slice E3 en3 ec3) := five 4 _ rfl
       have hat : atI l (fun o => o.kind != 8 && o.may (dep - 1)) i = (kk != 8 && o.may (dep - 1)) := by
        unfold atI; rw [List.getElem?_eq_getElem hil, ← ho, hkk]
       have hMf : atI l (fun o => o.kind != 8 && o.may (dep - 1)) i = false ∨ dep = 0 → M = false := fun h => by
        rw [hM4.out]
        rcases h with h | h
        ·rw [mayL_all]
         have : l.all (fun o => o.kind != 8 && o.may (dep - 1)) = false := by
          rw [List.all_eq_false]
          refine ⟨l[i], List.getElem_mem hil, ?_⟩
          unfold atI at h
          rw [List.getElem?_eq_getElem hil] at h
          simpa using h
         rw [this, Bool.and_false]
        ·subst h; rfl
       have hzo : o.bulk ≤ 1048576 := by
        have h0 := bulkL_at l i hil
        rw [← ho] at h0
        have : b.length + bulkL l + bulkD d + 1 ≤ 1048576 := hbk
        omega
       clear five hcv hob hus
       refine h5_ hat hMf hP ho hkk ?_; clear hat hMf hP ho hkk; intro hat hMf hP ho hkk
       have hBr2 := hi_ hBr
       clear hBr
       replace hbw := hi_ hbw
       obtain ⟨b8, hb8⟩ : ∃ z, (kk == 8) = z := ⟨_, rfl⟩
       cases b8 with
       | true =>
        have hF : M = false := hMf.out (.inl (by rw [hat.out, show (kk != 8) = !(kk == 8) from rfl, hb8]; rfl))
        clear hMf hM4 hobr
        subst hF
        go_wp2
        go_ret
        exact ⟨rfl, bthen hBw.out hBr2.out⟩
       | false =>
        cases dep with
        | zero =>
         have hF : M = false := hMf.out (.inr rfl)
         clear hMf hM4 hobr
         subst hF
         go_wp2
         go_ret
         exact ⟨rfl, bthen hBw.out hBr2.out⟩
        | succ dp =>
         have cm : Calls Tryz.prog 39 #[.agg #[.int .i64 kk, .int .i64 en, .slice E1 en1 ec1, .slice E2 en2 ec2, .slice E3 en3 ec3], .int .i64 (dp : Int)] wr fun e w' => e = .returned (.bool (o.may dp)) ∧ Below wr.heap.size wr w' := hi.out dp rfl o _ wr hobr hzo
         have e2 : (((dp + 1 : Nat) : Int)) = (dp : Int) + 1 := by omega
         obtain ⟨mm, hmm⟩ : ∃ z, o.may dp = z := ⟨_, rfl⟩
         rw [hmm] at cm
         have hat2 : atI l (fun o => o.kind != 8 && o.may (dp + 1 - 1)) i = mm := by
          rw [hat.out, show (kk != 8) = !(kk == 8) from rfl, hb8, Nat.add_sub_cancel, hmm]; rfl
         replace hat2 := hi_ hat2
         clear hmm hobr hat
         simp only [e2]
         cases mm with
         | false =>
          have hF : M = false := hMf.out (.inl hat2.out)
          clear hMf hM4
          subst hF
          go_wp2_with (go_at_call 39; (with_reducible refine cm.mono ?_); rintro e w3 ⟨rfl, hB3⟩; replace hB3 := hi_ hB3)
          go_ret
          exact ⟨rfl, bthen hBw.out (bthen hBr2.out hB3.out)⟩
         | true =>
          have hP2 : ∀ j, j < i + 1 → 0 < dp + 1 ∧ atI l (fun o => o.kind != 8 && o.may (dp + 1 - 1)) j = true := fun j hj => by
           by_cases h : j = i
           ·subst h; exact ⟨by omega, hat2.out⟩
           ·exact hP.out j (by omega)
          replace hP2 := hi_ hP2
          clear hMf
          go_wp2_with (go_at_call 39; (with_reducible refine cm.mono ?_); rintro e w3 ⟨rfl, hB3⟩; replace hB3 := hi_ hB3)
          go_roundw
          case rel => exact ⟨i + 1, by omega, by go_num, hP2.out, bthen hBr2.out hB3.out⟩
          case measure => simp [RowKit.intOf]; omega
      ·obtain rfl : i = m2 := by omega
       have hE : M = decide ((1 : Int) ≤ (dep : Int)) := by
        rw [hM4.out]
        by_cases h0 : 0 < dep
        ·have h2 : mayL (dep - 1) l = true := by
          rw [mayL_all, List.all_eq_true]
          intro x hx
          obtain ⟨j, hj, rfl⟩ := List.getElem_of_mem hx
          have := (hP j (by rw [hm2.out]; exact hj)).2
          unfold atI at this
          rw [List.getElem?_eq_getElem hj] at this
          exact this
         rw [h2, Bool.and_true]
         apply decide_eq_decide.2; omega
        ·rw [decide_eq_false h0, Bool.false_and]
         symm; rw [decide_eq_false_iff_not]; omega
       replace hE := hi_ hE
       have hBr2 := hi_ hBr
       clear hBr hP hM4
       go_wp2
       go_ret
       exact ⟨by rw [hE.out]; simp, bthen hBw.out hBr2.out⟩
    ·have hM3 : M = false := by rw [hM2]; simp [hn]
     have hne : (n != 0) = true := by rw [bne_iff_ne]; exact hn
     clear hM2 cI cn2 ce2 hR2 hn
     subst hM3
     go_wp2
     go_ret
     exact ⟨rfl, hBw.out⟩

   ·by_cases hn : n = 0
    ·subst hn
     have hM3 : M = R := by rw [hM2]; simp
     clear hM2
     have hR3 : R = (decide (0 < dep) && risesB d && decide (m1 ≤ 16777216) && mayD (dep - 1) d) := by rw [hR2]; rcases h78 with rfl | rfl <;> rfl
     rw [decide_eq_true (by omega : m1 ≤ 16777216), Bool.and_true, Bool.and_assoc] at hR3
     clear cI cn2 hR2
     rw [← hR3] at ce2
     clear hR3
     subst hM3
     rcases h78 with rfl | rfl
     all_goals
      go_wp2_with (go_at_call 74; (with_reducible refine ce2.mono ?_); rintro e w2 ⟨rfl, hB2⟩; replace hB2 := hi_ hB2)
      go_ret
      exact ⟨rfl, bthen hBw.out hB2.out⟩
    ·have hM3 : M = false := by rw [hM2]; rcases h78 with rfl | rfl <;> simp [hn]
     have hne : (n != 0) = true := by rw [bne_iff_ne]; exact hn
     clear hM2 cI cn2 ce2 hR2 hn
     subst hM3
     rcases h78 with rfl | rfl
     all_goals
      go_wp2
      go_ret
      exact ⟨rfl, hBw.out⟩

   ·have f0 : (k == 0) = false := by simpa using e0
    have f1 : (k == 1) = false := by simpa using e1
    have f2 : (k == 2) = false := by simpa using e2
    have f3 : (k == 3) = false := by simpa using e3
    have f4 : (k == 4) = false := by simpa using e4
    have f5 : (k == 5) = false := by simpa using e5
    have f6 : (k == 6) = false := by simpa using e6
    have f7 : (k == 7) = false := by simpa using e7
    have f8 : (k == 8) = false := by simpa using e8
    have f9 : (k == 9) = false := by simpa using e9
    by_cases hn : n = 0
    ·subst hn
     have hM3 : M = R := by rw [hM2]; simp
     clear hM2
     have hR3 : R = false := by rw [hR2, if_neg e0, if_neg e1, if_neg e2, if_neg e3, if_neg e9, if_neg e4, if_neg e5, if_neg e6, if_neg (fun h => h.elim e7 e8)]
     clear cI cn2 ce2 hR2 e0 e1 e2 e3 e9 e4 e5 e6 e7 e8
     subst hR3
     subst hM3
     go_wp2
     go_ret
     exact ⟨rfl, hBw.out⟩
    ·have hM3 : M = false := by rw [hM2]; simp [hn, e1, e2, e3, e9]
     have hne : (n != 0) = true := by rw [bne_iff_ne]; exact hn
     clear hM2 cI cn2 ce2 hR2 hn e0 e1 e2 e3 e9 e4 e5 e6 e7 e8
     subst hM3
     go_wp2
     go_ret
     exact ⟨rfl, hBw.out⟩

theorem ref_mayC : ∀ dep, dep ≤ 28 → RMayC dep := by
 intro dep
 induction dep with
 | zero => intro h; exact ref_may0 0 h fun d' e => by omega
 | succ d ih =>
  intro h
  refine ref_may0 (d + 1) h fun d' e => ?_
  have : d' = d := by omega
  subst this
  exact ih (by omega)
end
section
open Go Go.RowKit Go.Wk
def prtS (o : Ob) : List UInt8 := if o.kind ≠ 8 ∧ o.may 28 = true then o.show else []
def prtZ (o : Ob) : Int := if o.kind ≠ 8 ∧ o.may 28 = true then 0 else 1
theorem prtS_len (o : Ob) (h : Fits o) (hb : o.bulk ≤ 1048576) : (prtS o).length ≤ 41943040 := by
 have := show_len o h
 unfold prtS
 split
 ·omega
 ·simp
def VR2 (w : World) (o : Ob) (e : Ending) (w' : World) : Prop := ∃ A c, e = .returned (.tuple #[.slice A (prtS o).length c, .int .i64 (prtZ o)]) ∧ Byt w' A (prtS o) ∧ Below w.heap.size w w'
theorem VR.two {w w' : World} {o : Ob} {e : Ending} (h : VR w o e w') : VR2 w o e w' := by
 obtain ⟨hB, A, c, n, z, rfl, hA, ⟨h1, h2, rfl, h3, rfl⟩ | ⟨h1, rfl, rfl, rfl⟩⟩ := h
 ·exact ⟨A, c, by simp [prtS, prtZ, h1, h2], by simpa [prtS, h1, h2] using h3, hB⟩
 ·have e1 : prtS o = [] := by unfold prtS; rw [if_neg h1]
  have e2 : prtZ o = 1 := by unfold prtZ; rw [if_neg h1]
  exact ⟨none, c, by rw [e1, e2]; rfl, by rw [e1]; exact ⟨by simp, fun h => by simp at h⟩, hB⟩
theorem prt_Value2 (o : Ob) (vs : List Value) (w : World) (h : ObAt w o vs) (hbk : o.bulk ≤ 1048576) (ht : Tab w) : Calls Tryz.prog 42 #[.agg vs.toArray] w (VR2 w o) := (prt_Value o vs w h hbk ht).mono fun _ _ h => h.two
theorem ref_May (o : Ob) (vs : List Value) (w : World) (h : ObAt w o vs) (hbk : o.bulk ≤ 1048576) : Calls Tryz.prog 15 #[.agg vs.toArray] w fun e w' => e = .returned (.bool (o.may 28)) ∧ Below w.heap.size w w' := by
 obtain ⟨en, E1, E2, E3, en1, ec1, en2, ec2, en3, ec3, hys⟩ := ob_five2 h
 subst hys
 obtain ⟨k, hk⟩ : ∃ k, k = o.kind := ⟨_, rfl⟩
 rw [← hk] at h ⊢
 obtain ⟨W1, hW1, hb1⟩ := newA w 32 #[.int .i64 k, .int .i64 en, .slice E1 en1 ec1, .slice E2 en2 ec2, .slice E3 en3 ec3]
 have c : Calls Tryz.prog 39 #[.agg #[.int .i64 k, .int .i64 en, .slice E1 en1 ec1, .slice E2 en2 ec2, .slice E3 en3 ec3], .int .i64 28] W1 fun e w' => e = .returned (.bool (o.may 28)) ∧ Below W1.heap.size W1 w' := ref_mayC 28 (by omega) o _ W1 (h.kept hb1) hbk
 obtain ⟨f0, f1, f2, f3, f4⟩ := five_cells hW1
 replace hb1 := hi_ hb1
 clear h hk
 go_enter Tryz.func15, Tryz.ntmps15
 go_upto_region 1 with (fail)
 rw [← hW1]
 replace hW1 := hi_ hW1
 go_wp2_with (go_at_call 39; (with_reducible refine c.mono ?_); rintro e w2 ⟨rfl, hB⟩; replace hB := hi_ hB)
 go_ret
 exact ⟨rfl, bthen hb1.out hB.out⟩
end
end Go.Proofs.YthffpbkndnhlfaaGreatDoor
namespace Go.Proofs
section
open Go.Shelf
def Tryz.laysM171_ren : Go.Shelf.Ren := ⟨fun | 171 => 77 | 243 => 108 | 246 => 143 | 283 => 176 | 284 => 177 | 285 => 178 | 286 => 179 | 129 => 201 | 317 => 200 | 318 => 202 | 319 => 203 | 320 => 204 | 337 => 217 | 338 => 218 | n => n, fun | 3 => 3 | 9 => 9 | 2 => 2 | 4 => 4 | 171 => 212 | 0 => 0 | 53 => 163 | 37 => 22 | 5 => 5 | 173 => 215 | 212 => 236 | 51 => 185 | 20 => 20 | 213 => 237 | 46 => 151 | 232 => 248 | 233 => 249 | n => n, fun | 17 => 1 | 18 => 2 | 19 => 3 | n => n⟩
theorem Tryz.laysM171 : Go.Proofs.LaysM.n171 Tryz.prog Tryz.laysM171_ren := {
 mixed := by kernel_rfl
 f129 := Tryz.func201.trans (congrArg some (by kernel_rfl))
 f171 := Tryz.func77.trans (congrArg some (by kernel_rfl))
 f243 := Tryz.func108.trans (congrArg some (by kernel_rfl))
 f246 := Tryz.func143.trans (congrArg some (by kernel_rfl))
 f283 := Tryz.func176.trans (congrArg some (by kernel_rfl))
 f284 := Tryz.func177.trans (congrArg some (by kernel_rfl))
 f285 := Tryz.func178.trans (congrArg some (by kernel_rfl))
 f286 := Tryz.func179.trans (congrArg some (by kernel_rfl))
 f317 := Tryz.func200.trans (congrArg some (by kernel_rfl))
 f318 := Tryz.func202.trans (congrArg some (by kernel_rfl))
 f319 := Tryz.func203.trans (congrArg some (by kernel_rfl))
 f320 := Tryz.func204.trans (congrArg some (by kernel_rfl))
 f337 := Tryz.func217.trans (congrArg some (by kernel_rfl))
 f338 := Tryz.func218.trans (congrArg some (by kernel_rfl))
 t0 := Tryz.underlying0
 a0 := Tryz.isAgg0
 z0 := Tryz.sizeOf0
 v0 := Tryz.zeroValue0
 t2 := Tryz.underlying2
 a2 := Tryz.isAgg2
 z2 := Tryz.sizeOf2
 v2 := Tryz.zeroValue2
 t3 := Tryz.underlying3
 a3 := Tryz.isAgg3
 z3 := Tryz.sizeOf3
 v3 := Tryz.zeroValue3
 t4 := Tryz.underlying4
 a4 := Tryz.isAgg4
 z4 := Tryz.sizeOf4
 v4 := Tryz.zeroValue4
 t5 := Tryz.underlying5
 a5 := Tryz.isAgg5
 z5 := Tryz.sizeOf5
 v5 := Tryz.zeroValue5
 t9 := Tryz.underlying9
 a9 := Tryz.isAgg9
 z9 := Tryz.sizeOf9
 v9 := Tryz.zeroValue9
 t20 := Tryz.underlying20
 a20 := Tryz.isAgg20
 z20 := Tryz.sizeOf20
 v20 := Tryz.zeroValue20
 t37 := Tryz.underlying22
 a37 := Tryz.isAgg22
 z37 := Tryz.sizeOf22
 v37 := Tryz.zeroValue22
 t46 := Tryz.underlying151
 a46 := Tryz.isAgg151
 z46 := Tryz.sizeOf151
 v46 := Tryz.zeroValue151
 t51 := Tryz.underlying185
 a51 := Tryz.isAgg185
 z51 := Tryz.sizeOf185
 v51 := Tryz.zeroValue185
 t53 := Tryz.underlying163
 a53 := Tryz.isAgg163
 z53 := Tryz.sizeOf163
 v53 := Tryz.zeroValue163
 t171 := Tryz.underlying212
 a171 := Tryz.isAgg212
 z171 := Tryz.sizeOf212
 v171 := Tryz.zeroValue212
 t173 := Tryz.underlying215
 a173 := Tryz.isAgg215
 z173 := Tryz.sizeOf215
 v173 := Tryz.zeroValue215
 t212 := Tryz.underlying236
 a212 := Tryz.isAgg236
 z212 := Tryz.sizeOf236
 v212 := Tryz.zeroValue236
 t213 := Tryz.underlying237
 a213 := Tryz.isAgg237
 z213 := Tryz.sizeOf237
 t232 := Tryz.underlying248
 a232 := Tryz.isAgg248
 z232 := Tryz.sizeOf248
 v232 := Tryz.zeroValue248
 t233 := Tryz.underlying249
 a233 := Tryz.isAgg249
 z233 := Tryz.sizeOf249
 v233 := Tryz.zeroValue249
 g17 := by kernel_rfl
 g18 := by kernel_rfl
 g19 := by kernel_rfl
 i0 := by kernel_rfl
 i2 := by kernel_rfl
 i3 := by kernel_rfl
 i4 := by kernel_rfl
 i5 := by kernel_rfl
 i9 := by kernel_rfl
 i20 := by kernel_rfl
 i37 := by kernel_rfl
 i46 := by kernel_rfl
 i51 := by kernel_rfl
 i53 := by kernel_rfl
 i171 := by kernel_rfl
 i173 := by kernel_rfl
 i212 := by kernel_rfl
 i232 := by kernel_rfl
 i233 := by kernel_rfl
 m17 := by kernel_rfl
 m18 := by kernel_rfl
 m19 := by kernel_rfl }
open Go.RowKit Go.Sort Go.Lib in
theorem Tryz.strconv_Itoa (n : Int) (h0 : -9223372036854775808 ≤ n) (h1 : n ≤ 9223372036854775807) (w : World) (htab : Lib.TabIs Tryz.prog w "internal/strconv.uint64pow10" .u64 Lib.pow10Tab) :
 Calls Tryz.prog 77 #[.int .i64 n] w fun e w' => e = .returned (.string ⟨(Lib.itoa n).toArray⟩) ∧ ∃ k os, w' = grow (w.drewN k) os := Any.strconv_Itoa Tryz.laysM171 n h0 h1 w htab
def Tryz.lays105_ren : Go.Shelf.Ren := ⟨fun | 105 => 78 | 212 => 109 | 99 => 110 | 165 => 111 | 166 => 112 | 170 => 113 | 169 => 114 | 263 => 144 | 264 => 145 | 206 => 146 | 240 => 147 | 241 => 148 | 276 => 180 | 277 => 181 | n => n, fun | 9 => 9 | 3 => 3 | 4 => 4 | 20 => 20 | 0 => 0 | 46 => 151 | 109 => 152 | 5 => 5 | 72 => 157 | 76 => 161 | 51 => 185 | 146 => 186 | 53 => 163 | 148 => 188 | 70 => 155 | 37 => 22 | 75 => 160 | 127 => 190 | 164 => 197 | 80 => 100 | n => n, fun | n => n⟩
theorem Tryz.lays105 : Go.Proofs.Lays.n105 Tryz.prog Tryz.lays105_ren := {
 mixed := by kernel_rfl
 f99 := Tryz.func110.trans (congrArg some (by kernel_rfl))
 f105 := Tryz.func78.trans (congrArg some (by kernel_rfl))
 f165 := Tryz.func111.trans (congrArg some (by kernel_rfl))
 f166 := Tryz.func112.trans (congrArg some (by kernel_rfl))
 f169 := Tryz.func114.trans (congrArg some (by kernel_rfl))
 f170 := Tryz.func113.trans (congrArg some (by kernel_rfl))
 f206 := Tryz.func146.trans (congrArg some (by kernel_rfl))
 f212 := Tryz.func109.trans (congrArg some (by kernel_rfl))
 f240 := Tryz.func147.trans (congrArg some (by kernel_rfl))
 f241 := Tryz.func148.trans (congrArg some (by kernel_rfl))
 f263 := Tryz.func144.trans (congrArg some (by kernel_rfl))
 f264 := Tryz.func145.trans (congrArg some (by kernel_rfl))
 f276 := Tryz.func180.trans (congrArg some (by kernel_rfl))
 f277 := Tryz.func181.trans (congrArg some (by kernel_rfl))
 t0 := Tryz.underlying0
 a0 := Tryz.isAgg0
 z0 := Tryz.sizeOf0
 v0 := Tryz.zeroValue0
 t3 := Tryz.underlying3
 a3 := Tryz.isAgg3
 z3 := Tryz.sizeOf3
 v3 := Tryz.zeroValue3
 t4 := Tryz.underlying4
 a4 := Tryz.isAgg4
 z4 := Tryz.sizeOf4
 v4 := Tryz.zeroValue4
 t5 := Tryz.underlying5
 a5 := Tryz.isAgg5
 z5 := Tryz.sizeOf5
 v5 := Tryz.zeroValue5
 t9 := Tryz.underlying9
 a9 := Tryz.isAgg9
 z9 := Tryz.sizeOf9
 v9 := Tryz.zeroValue9
 t20 := Tryz.underlying20
 a20 := Tryz.isAgg20
 z20 := Tryz.sizeOf20
 v20 := Tryz.zeroValue20
 t37 := Tryz.underlying22
 a37 := Tryz.isAgg22
 z37 := Tryz.sizeOf22
 v37 := Tryz.zeroValue22
 t46 := Tryz.underlying151
 a46 := Tryz.isAgg151
 z46 := Tryz.sizeOf151
 v46 := Tryz.zeroValue151
 t51 := Tryz.underlying185
 a51 := Tryz.isAgg185
 z51 := Tryz.sizeOf185
 v51 := Tryz.zeroValue185
 t53 := Tryz.underlying163
 a53 := Tryz.isAgg163
 z53 := Tryz.sizeOf163
 v53 := Tryz.zeroValue163
 t70 := Tryz.underlying155
 a70 := Tryz.isAgg155
 z70 := Tryz.sizeOf155
 v70 := Tryz.zeroValue155
 t72 := Tryz.underlying157
 a72 := Tryz.isAgg157
 z72 := Tryz.sizeOf157
 v72 := Tryz.zeroValue157
 t75 := Tryz.underlying160
 a75 := Tryz.isAgg160
 z75 := Tryz.sizeOf160
 v75 := Tryz.zeroValue160
 t76 := Tryz.underlying161
 a76 := Tryz.isAgg161
 z76 := Tryz.sizeOf161
 v76 := Tryz.zeroValue161
 t109 := Tryz.underlying152
 a109 := Tryz.isAgg152
 z109 := Tryz.sizeOf152
 v109 := Tryz.zeroValue152
 t127 := Tryz.underlying190
 a127 := Tryz.isAgg190
 z127 := Tryz.sizeOf190
 v127 := Tryz.zeroValue190
 t146 := Tryz.underlying186
 a146 := Tryz.isAgg186
 z146 := Tryz.sizeOf186
 v146 := Tryz.zeroValue186
 t148 := Tryz.underlying188
 a148 := Tryz.isAgg188
 z148 := Tryz.sizeOf188
 v148 := Tryz.zeroValue188
 t164 := Tryz.underlying197
 a164 := Tryz.isAgg197
 z164 := Tryz.sizeOf197
 v164 := Tryz.zeroValue197 }
theorem Tryz.Builder_Extra_105 : Builder.Extra Tryz.prog Tryz.lays105_ren := {
 sizeBuilder := by kernel_rfl
 liesBuilder := by kernel_rfl
 t5 := Tryz.underlying5
 a5 := Tryz.isAgg5
 z5 := Tryz.sizeOf5
 v5 := Tryz.zeroValue5
 infoByte := by kernel_rfl
 cellsByte := by kernel_rfl
 sizeByte := by kernel_rfl
 neB5 := by decide }
open Go.RowKit Go.Lib in
theorem Tryz.strings_Repeat (s : ByteArray) (c : Nat) (w : World) (hc : c ≤ 9223372036854775807) (hlen : s.size * c ≤ 140737488355328) :
 Calls Tryz.prog 78 #[.string s, .int .i64 c] w fun e w' => e = .returned (.string ⟨(Lib.repeatL s.data.toList c).toArray⟩) ∧ Below w.heap.size w w' := Any.strings_Repeat Tryz.lays105 Tryz.Builder_Extra_105 s c w hc hlen
end
end Go.Proofs
namespace Go.Proofs.YthffpbkndnhlfaaGreatDoor
open Go Go.RowKit Go.Wk
def padL (n : Int) (k : Nat) : List UInt8 := List.replicate (k - (Lib.itoa n).length) 48 ++ Lib.itoa n
theorem itoa_le (n : Int) (h : i64 n) : (Lib.itoa n).length ≤ 28 := numT_len n true h
theorem padL_len (n : Int) (h : i64 n) (k : Nat) (hk : k ≤ 100) : (padL n k).length ≤ 128 := by
 have := itoa_le n h
 unfold padL
 simp only [List.length_append, List.length_replicate]; omega
theorem rep_one (c : Nat) : Lib.repeatL [48] c = List.replicate c 48 := by
 induction c with
 | zero => rfl
 | succ c ih => rw [List.replicate_succ]; simp [Lib.repeatL, ih] at *
theorem str_Itoa (n : Int) (h : i64 n) (w : World) (htab : Tab w) :
 Calls Tryz.prog 77 #[.int .i64 n] w fun e w' => e = .returned (.string ⟨(Lib.itoa n).toArray⟩) ∧ Below w.heap.size w w' := by
 refine (Tryz.strconv_Itoa n h.1 h.2 w htab).mono ?_
 rintro e w' ⟨rfl, k, os, rfl⟩
 exact ⟨rfl, below_grow w os k⟩
theorem tab_digits (n : Int) (h : i64 n) (k : Nat) (hk : k ≤ 100) (w : World) (htab : Tab w) (D : ByteArray) (hD : D = ⟨(padL n k).toArray⟩) :
 Calls Tryz.prog 43 #[.int .i64 n, .int .i64 k] w fun e w' => e = .returned (.string D) ∧ Below w.heap.size w w' := by
 have c := str_Itoa n h w htab
 have hl := itoa_le n h
 obtain ⟨S, hS⟩ : ∃ S : ByteArray, S = ⟨(Lib.itoa n).toArray⟩ := ⟨_, rfl⟩
 rw [← hS] at c
 have hSz : S.size = (Lib.itoa n).length := by rw [hS]; simp [ByteArray.size]
 obtain ⟨m, hm⟩ : ∃ m, m = S.size := ⟨_, rfl⟩
 have zm : m ≤ 28 := by omega
 obtain ⟨q, hq⟩ : ∃ q : Nat, q = k - m := ⟨_, rfl⟩
 have cr := fun W => Tryz.strings_Repeat ⟨#[48]⟩ q W (by omega) (by show 1 * q ≤ _; omega)
 obtain ⟨R, hR⟩ : ∃ R : ByteArray, R = ⟨(Lib.repeatL [48] q).toArray⟩ := ⟨_, rfl⟩
 have cr2 : ∀ W, Calls Tryz.prog 78 #[.string ⟨#[48]⟩, .int .i64 q] W fun e w' => e = .returned (.string R) ∧ Below W.heap.size W w' := by rw [hR]; exact cr
 have hRS : R ++ S = D := by
  apply bytes_ext
  rw [bytes_app, hR, hS, hD, rep_one]
  unfold padL
  rw [hq, hm, hSz]
 have hRz : R.size = q := by rw [hR, rep_one]; show (List.replicate q _).toArray.size = q; simp
 clear cr hS hR hSz hD
 replace hRS := hi_ hRS
 replace cr2 := hi_ cr2
 have zS : S.size ≤ 28 := by omega
 have zR : R.size ≤ 100 := by omega
 replace hRz := hi_ hRz
 have hmx : (max 0 ((k : Int) - (S.size : Int))) = (q : Int) := by omega
 replace hm := hi_ hm
 replace hq := hi_ hq
 go_enter Tryz.func43, Tryz.ntmps43
 go_wp2_with (first
  | (go_at_call 77; (with_reducible refine c.mono ?_); rintro e w2 ⟨rfl, hB2⟩; have c78 := cr2.out w2; replace hB2 := hi_ hB2)
  | (go_at_call 78; (with_reducible refine c78.mono ?_); rintro e w3 ⟨rfl, hB3⟩; replace hB3 := hi_ hB3))
 go_ret
 exact ⟨by rw [hRS.out]; rfl, bthen hB2.out hB3.out⟩
structure R4 where
 n : Int
 k : Int
 a : Int
 g : Int
def rv (r : R4) : List Value := [.int .i64 r.n, .int .i64 r.k, .int .i64 r.a, .int .i64 r.g]
def R4.ok (r : R4) : Prop := i64 r.n ∧ i64 r.k ∧ i64 r.a ∧ i64 r.g
def mayR (r : R4) : Bool := (r.k == 0 || r.k == 1) && decide (0 ≤ r.n) && decide (r.n ≤ 8388607) && decide (0 ≤ r.a) && decide (r.a ≤ 9999999999) && decide (0 ≤ r.g) && decide (r.g ≤ 65535)
def rowT (r : R4) : List UInt8 := ((padL r.a 10 ++ [32]) ++ padL r.g 5) ++ (if r.k = 1 then [32, 110, 32, 10] else [32, 102, 32, 10])
theorem four_cells {w : World} {v0 v1 v2 v3 : Value} {t : TypeId} {W : World} (hW : W = w.alloc (.cells #[v0, v1, v2, v3] t)) :
 W.cell? ⟨w.heap.size, 0, none⟩ = some v0 ∧ W.cell? ⟨w.heap.size, 1, none⟩ = some v1 ∧ W.cell? ⟨w.heap.size, 2, none⟩ = some v2 ∧ W.cell? ⟨w.heap.size, 3, none⟩ = some v3 := by
 subst hW
 refine ⟨?_, ?_, ?_, ?_⟩ <;> simp
theorem four_kept {p : Nat} {v0 v1 v2 v3 : Value} {W W' : World} (h : W.cell? ⟨p, 0, none⟩ = some v0 ∧ W.cell? ⟨p, 1, none⟩ = some v1 ∧ W.cell? ⟨p, 2, none⟩ = some v2 ∧ W.cell? ⟨p, 3, none⟩ = some v3) (hb : Below W.heap.size W W') :
 W'.cell? ⟨p, 0, none⟩ = some v0 ∧ W'.cell? ⟨p, 1, none⟩ = some v1 ∧ W'.cell? ⟨p, 2, none⟩ = some v2 ∧ W'.cell? ⟨p, 3, none⟩ = some v3 :=
 ⟨(hb.cell (cell_lt h.1)).trans h.1, (hb.cell (cell_lt h.2.1)).trans h.2.1, (hb.cell (cell_lt h.2.2.1)).trans h.2.2.1, (hb.cell (cell_lt h.2.2.2)).trans h.2.2.2⟩
theorem tab_may (r : R4) (w : World) : Calls Tryz.prog 40 #[.agg (rv r).toArray] w fun e w' => e = .returned (.bool (mayR r)) ∧ Below w.heap.size w w' := by
 obtain ⟨n, k, a, g⟩ := r
 have hb : Below w.heap.size w (w.alloc (.cells #[.int .i64 n, .int .i64 k, .int .i64 a, .int .i64 g] 64)) := (Below.refl _ _).alloc (Nat.le_refl _) _
 obtain ⟨W1, hW1⟩ : ∃ W, W = w.alloc (.cells #[.int .i64 n, .int .i64 k, .int .i64 a, .int .i64 g] 64) := ⟨_, rfl⟩
 rw [← hW1] at hb
 obtain ⟨c0, c1, c2, c3⟩ := four_cells hW1
 obtain ⟨mb, hmb⟩ : ∃ mb, mb = mayR ⟨n, k, a, g⟩ := ⟨_, rfl⟩
 rw [← hmb]
 simp only [mayR] at hmb
 replace hb := hi_ hb
 show Calls Tryz.prog 40 #[.agg #[.int .i64 n, .int .i64 k, .int .i64 a, .int .i64 g]] w fun e w' => e = .returned (.bool mb) ∧ Below w.heap.size w w'
 have hk : (k == 0 || k == 1) = false ∨ (k == 0) = true ∨ ((k == 0) = false ∧ (k == 1) = true) := by
  cases h0 : (k == 0) <;> cases h1 : (k == 1) <;> simp_all
 rcases hk with hk | hk
 ·rw [hk] at hmb
  simp only [Bool.false_and] at hmb
  subst hmb
  have h0 : (k == 0) = false := by simpa using (Bool.or_eq_false_iff.1 hk).1
  have h1 : (k == 1) = false := by simpa using (Bool.or_eq_false_iff.1 hk).2
  clear hk
  go_enter Tryz.func40, Tryz.ntmps40
  go_upto_region 1 with (fail)
  rw [← hW1]
  replace hW1 := hi_ hW1
  go_wp2
  go_ret
  exact ⟨rfl, hb.out⟩
 have ht : ∀ b, mb = b → (decide (0 ≤ n) && decide (n ≤ 8388607) && decide (0 ≤ a) && decide (a ≤ 9999999999) && decide (0 ≤ g) && decide (g ≤ 65535)) = b := by
  intro b hb'
  rw [← hb', hmb]
  rcases hk with h | ⟨h, h'⟩
  ·rw [h]; simp
  ·rw [h, h']; simp
 replace ht := ht mb rfl
 clear hmb
 by_cases t1 : 0 ≤ n
 case neg =>
  have e1 : decide (0 ≤ n) = false := decide_eq_false t1
  simp only [e1, Bool.false_and] at ht
  subst ht
  rcases hk with h0 | ⟨h0, h1⟩
  all_goals
   go_enter Tryz.func40, Tryz.ntmps40
   go_upto_region 1 with (fail)
   rw [← hW1]
   replace hW1 := hi_ hW1
   go_wp2
   go_ret
   exact ⟨rfl, hb.out⟩
 have e1 : decide (0 ≤ n) = true := decide_eq_true t1
 by_cases t2 : n ≤ 8388607
 case neg =>
  have e2 : decide (n ≤ 8388607) = false := decide_eq_false t2
  simp only [e1, e2, Bool.false_and, Bool.true_and, Bool.and_false, Bool.and_true] at ht
  subst ht
  rcases hk with h0 | ⟨h0, h1⟩
  all_goals
   go_enter Tryz.func40, Tryz.ntmps40
   go_upto_region 1 with (fail)
   rw [← hW1]
   replace hW1 := hi_ hW1
   go_wp2
   go_ret
   exact ⟨rfl, hb.out⟩
 have e2 : decide (n ≤ 8388607) = true := decide_eq_true t2
 by_cases t3 : 0 ≤ a
 case neg =>
  have e3 : decide (0 ≤ a) = false := decide_eq_false t3
  simp only [e1, e2, e3, Bool.false_and, Bool.true_and, Bool.and_false, Bool.and_true] at ht
  subst ht
  rcases hk with h0 | ⟨h0, h1⟩
  all_goals
   go_enter Tryz.func40, Tryz.ntmps40
   go_upto_region 1 with (fail)
   rw [← hW1]
   replace hW1 := hi_ hW1
   go_wp2
   go_ret
   exact ⟨rfl, hb.out⟩
 have e3 : decide (0 ≤ a) = true := decide_eq_true t3
 by_cases t4 : a ≤ 9999999999
 case neg =>
  have e4 : decide (a ≤ 9999999999) = false := decide_eq_false t4
  simp only [e1, e2, e3, e4, Bool.false_and, Bool.true_and, Bool.and_false, Bool.and_true] at ht
  subst ht
  rcases hk with h0 | ⟨h0, h1⟩
  all_goals
   go_enter Tryz.func40, Tryz.ntmps40
   go_upto_region 1 with (fail)
   rw [← hW1]
   replace hW1 := hi_ hW1
   go_wp2
   go_ret
   exact ⟨rfl, hb.out⟩
 have e4 : decide (a ≤ 9999999999) = true := decide_eq_true t4
 by_cases t5 : 0 ≤ g
 case neg =>
  have e5 : decide (0 ≤ g) = false := decide_eq_false t5
  simp only [e1, e2, e3, e4, e5, Bool.false_and, Bool.true_and, Bool.and_false, Bool.and_true] at ht
  subst ht
  rcases hk with h0 | ⟨h0, h1⟩
  all_goals
   go_enter Tryz.func40, Tryz.ntmps40
   go_upto_region 1 with (fail)
   rw [← hW1]
   replace hW1 := hi_ hW1
   go_wp2
   go_ret
   exact ⟨rfl, hb.out⟩
 have e5 : decide (0 ≤ g) = true := decide_eq_true t5
 by_cases t6 : g ≤ 65535
 case neg =>
  have e6 : decide (g ≤ 65535) = false := decide_eq_false t6
  simp only [e1, e2, e3, e4, e5, e6, Bool.false_and, Bool.true_and, Bool.and_false, Bool.and_true] at ht
  subst ht
  rcases hk with h0 | ⟨h0, h1⟩
  all_goals
   go_enter Tryz.func40, Tryz.ntmps40
   go_upto_region 1 with (fail)
   rw [← hW1]
   replace hW1 := hi_ hW1
   go_wp2
   go_ret
   exact ⟨rfl, hb.out⟩
 have e6 : decide (g ≤ 65535) = true := decide_eq_true t6
 simp only [e1, e2, e3, e4, e5, e6, Bool.true_and, Bool.and_true] at ht
 subst ht
 rcases hk with h0 | ⟨h0, h1⟩
 all_goals
  go_enter Tryz.func40, Tryz.ntmps40
  go_upto_region 1 with (fail)
  rw [← hW1]
  replace hW1 := hi_ hW1
  go_wp2
  go_ret
  exact ⟨rfl, hb.out⟩
end Go.Proofs.YthffpbkndnhlfaaGreatDoor

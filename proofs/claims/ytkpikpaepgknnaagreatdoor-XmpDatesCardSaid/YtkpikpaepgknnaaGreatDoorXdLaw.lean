/- The law of dates, walked. No condition. -/
import Derived.Test.YtkpikpaepgknnaaGreatDoorXdWords
set_option linter.unusedVariables false
namespace Go.Proofs.YtkpikpaepgknnaaGreatDoor
open Go Go.RowKit Go.Wk
attribute [local go_sem ↓] Go.wp_at_zero Go.wp_at_succ

def nnD (p : Nat → Nat) (k : Nat) : Nat := match k with
  | 0 => 0 + p 0 % 10000 | 1 => 1 + p 1 % 12 | 2 => 1 + p 2 % 31 | 3 => 0 + p 3 % 24 | 4 => 0 + p 4 % 60 | _ => 0 + p 5 % 60
def partU (p : Nat → Nat) : Array Value := #[.int .u16 (p 0 : Nat), .int .u16 (p 1 : Nat), .int .u16 (p 2 : Nat), .int .u16 (p 3 : Nat), .int .u16 (p 4 : Nat), .int .u16 (p 5 : Nat)]
def partN (n : Nat → Nat) (k : Nat) : Array Value := ((List.range 6).map fun i => Value.int .i64 (if i < k then (n i : Int) else 0)).toArray
structure DAt (p : Nat → Nat) (w w1 wr : World) (k : Nat) : Prop where
  b0 : Below w.heap.size w wr
  b1 : Blk wr w.heap.size 47 (partU p)
  b2 : Blk wr w1.heap.size 48 #[.int .i64 9999, .int .i64 12, .int .i64 31, .int .i64 23, .int .i64 59, .int .i64 59]
  b3 : Blk wr (w1.heap.size + 1) 48 #[.int .i64 0, .int .i64 1, .int .i64 1, .int .i64 0, .int .i64 0, .int .i64 0]
  b4 : Blk wr (w1.heap.size + 2) 48 (partN (nnD p) k)
theorem nnD_lt (p : Nat → Nat) (i : Nat) (h : i < 6) : nnD p i < (if i = 0 then 10000 else 100) := by
  have : i = 0 ∨ i = 1 ∨ i = 2 ∨ i = 3 ∨ i = 4 ∨ i = 5 := by omega
  rcases this with rfl | rfl | rfl | rfl | rfl | rfl <;> simp [nnD] <;> omega
theorem partN_set (n : Nat → Nat) (k : Nat) (hk : k < 6) : (partN n k).setIfInBounds k (.int .i64 (n k : Nat)) = partN n (k + 1) := by
  have : k = 0 ∨ k = 1 ∨ k = 2 ∨ k = 3 ∨ k = 4 ∨ k = 5 := by omega
  rcases this with rfl | rfl | rfl | rfl | rfl | rfl <;> rfl
theorem DAt.step {p : Nat → Nat} {w w1 wr : World} {k : Nat} (h : DAt p w w1 wr k) (hk : k < 6) (hw : w.heap.size < w1.heap.size) : DAt p w w1 (wr.setCell ⟨w1.heap.size + 2, k, none⟩ (.int .i64 (nnD p k : Nat))) (k + 1) :=
  ⟨h.b0.setCell (by show w.heap.size ≤ w1.heap.size + 2; omega) _, h.b1.far (by show w.heap.size ≠ w1.heap.size + 2; omega) _, h.b2.far (by show w1.heap.size ≠ w1.heap.size + 2; omega) _, h.b3.far (by show w1.heap.size + 1 ≠ w1.heap.size + 2; omega) _, by
    have := h.b4.set_ k (.int .i64 (nnD p k : Nat)); rw [partN_set _ k hk] at this; exact this⟩
theorem cells6 {w : World} {g t : Nat} {c0 c1 c2 c3 c4 c5 : Value} (h : Blk w g t #[c0, c1, c2, c3, c4, c5]) : w.cell? ⟨g, 0, none⟩ = some c0 ∧ w.cell? ⟨g, 1, none⟩ = some c1 ∧ w.cell? ⟨g, 2, none⟩ = some c2 ∧ w.cell? ⟨g, 3, none⟩ = some c3 ∧ w.cell? ⟨g, 4, none⟩ = some c4 ∧ w.cell? ⟨g, 5, none⟩ = some c5 :=
  ⟨h.cell 0, h.cell 1, h.cell 2, h.cell 3, h.cell 4, h.cell 5⟩
theorem bad_keep {w X w' : World} {g : Nat} {c0 c1 c2 c3 c4 c5 : Value} (hB : Blk X g 48 #[c0, c1, c2, c3, c4, c5]) (hW : Below w.heap.size w X) (hb : Below X.heap.size X w') :
    (w'.cell? ⟨g, 0, none⟩ = some c0 ∧ w'.cell? ⟨g, 1, none⟩ = some c1 ∧ w'.cell? ⟨g, 2, none⟩ = some c2 ∧ w'.cell? ⟨g, 3, none⟩ = some c3 ∧ w'.cell? ⟨g, 4, none⟩ = some c4 ∧ w'.cell? ⟨g, 5, none⟩ = some c5) ∧ Below w.heap.size w w' :=
  ⟨cells6 (hB.below hb hB.lt), hW.trans (hb.mono hW.size)⟩
theorem dat_keep {p : Nat → Nat} {w w1 wr w' : World} (h : DAt p w w1 wr 6) (hw : w.heap.size + 1 ≤ w1.heap.size) (hb : Below wr.heap.size wr w') :
    (w'.cell? ⟨w1.heap.size + 1 + 1, 0, none⟩ = some (.int .i64 (nnD p 0 : Nat)) ∧ w'.cell? ⟨w1.heap.size + 1 + 1, 1, none⟩ = some (.int .i64 (nnD p 1 : Nat)) ∧ w'.cell? ⟨w1.heap.size + 1 + 1, 2, none⟩ = some (.int .i64 (nnD p 2 : Nat)) ∧ w'.cell? ⟨w1.heap.size + 1 + 1, 3, none⟩ = some (.int .i64 (nnD p 3 : Nat)) ∧ w'.cell? ⟨w1.heap.size + 1 + 1, 4, none⟩ = some (.int .i64 (nnD p 4 : Nat)) ∧ w'.cell? ⟨w1.heap.size + 1 + 1, 5, none⟩ = some (.int .i64 (nnD p 5 : Nat))) ∧
    Blk w' w1.heap.size 48 #[.int .i64 9999, .int .i64 12, .int .i64 31, .int .i64 23, .int .i64 59, .int .i64 59] ∧ Below w.heap.size w w' :=
  have b4 := h.b4.below hb h.b4.lt
  ⟨⟨b4.cell 0, b4.cell 1, b4.cell 2, b4.cell 3, b4.cell 4, b4.cell 5⟩, h.b2.below hb h.b2.lt, h.b0.trans (hb.mono h.b0.size)⟩
theorem nnD_in (p : Nat → Nat) : inR (nnD p 0) (nnD p 1) (nnD p 2) (nnD p 3) (nnD p 4) (nnD p 5) = true := by
  unfold inR nnD; simp; omega
theorem DAt.drew {p : Nat → Nat} {w w1 wr : World} {k : Nat} (h : DAt p w w1 wr k) : DAt p w w1 wr.drew k := ⟨h.b0.drew, h.b1.drew, h.b2.drew, h.b3.drew, h.b4.drew⟩
theorem keepC {w : World} {q p : Addr} {u v : Value} (h : w.cell? q = some v) (hn : q.block ≠ p.block) : (w.setCell p u).drew.cell? q = some v :=
  (World.cell?_setCell_other w _ _ _ (by intro e; exact hn (by rw [e]))).trans h
theorem dat_start (p : Nat → Nat) (w w1 : World) (hb : Below (w.heap.size + 1) (w.alloc (.cells (partU p) 47)) w1) : DAt p w w1 (((w1.alloc (.cells #[.int .i64 9999, .int .i64 12, .int .i64 31, .int .i64 23, .int .i64 59, .int .i64 59] 48)).alloc (.cells #[.int .i64 0, .int .i64 1, .int .i64 1, .int .i64 0, .int .i64 0, .int .i64 0] 48)).alloc (.cells (partN (nnD p) 0) 48)) 0 := by
  have hs : w.heap.size + 1 ≤ w1.heap.size := by have := hb.size; rw [size_alloc] at this; exact this
  have s1 : (w1.alloc (.cells #[.int .i64 9999, .int .i64 12, .int .i64 31, .int .i64 23, .int .i64 59, .int .i64 59] 48)).heap.size = w1.heap.size + 1 := size_alloc _ _
  have s2 : ((w1.alloc (.cells #[.int .i64 9999, .int .i64 12, .int .i64 31, .int .i64 23, .int .i64 59, .int .i64 59] 48)).alloc (.cells #[.int .i64 0, .int .i64 1, .int .i64 1, .int .i64 0, .int .i64 0, .int .i64 0] 48)).heap.size = w1.heap.size + 2 := by rw [size_alloc, s1]
  have h0 : Below w.heap.size w w1 := ((Below.refl _ _).alloc (Nat.le_refl _) _).trans (hb.mono (by omega))
  refine ⟨((h0.alloc (by omega) _).alloc (by omega) _).alloc (by omega) _, (((((Blk.new w 47 (partU p)).below hb (by omega)).alloc _).alloc _).alloc _), ((Blk.new w1 48 _).alloc _).alloc _, ?_, ?_⟩
  · have := (Blk.new (w1.alloc (.cells #[.int .i64 9999, .int .i64 12, .int .i64 31, .int .i64 23, .int .i64 59, .int .i64 59] 48)) 48 #[.int .i64 0, .int .i64 1, .int .i64 1, .int .i64 0, .int .i64 0, .int .i64 0]).alloc (.cells (partN (nnD p) 0) 48); rw [s1] at this; exact this
  · have := Blk.new ((w1.alloc (.cells #[.int .i64 9999, .int .i64 12, .int .i64 31, .int .i64 23, .int .i64 59, .int .i64 59] 48)).alloc (.cells #[.int .i64 0, .int .i64 1, .int .i64 1, .int .i64 0, .int .i64 0, .int .i64 0] 48)) 48 (partN (nnD p) 0); rw [s2] at this; exact this
set_option maxHeartbeats 60000000 in
set_option maxRecDepth 100000 in
theorem dates_law (p : Nat → Nat) (hp : ∀ i, p i < 65536) (zn : Nat) (hzn : zn < 65536) (wg : Nat) (hwg : wg < 256) (w : World)
    (haw : ∀ w1, Below w.heap.size w w1 → Calls Tryz.prog 8 #[] w1 fun e w' => e = .returned (.bool true) ∧ Below w1.heap.size w1 w') :
    Calls Tryz.prog 5 #[.agg (partU p), .int .u16 zn, .int .u8 wg] w fun e w' => e = .returned (.bool true) ∧ Below w.heap.size w w' := by
  have cw := Lib.hid (haw (w.alloc (.cells (partU p) 47)) ((Below.refl _ _).alloc (Nat.le_refl _) _))
  clear haw
  go_enter Tryz.func5, Tryz.ntmps5
  go_wp2_with (go_at_call 8; (with_reducible refine cw.out.mono ?_); rintro e w1 ⟨rfl, hw1⟩; rw [size_alloc] at hw1; have hsz := hw1.size; rw [size_alloc] at hsz; have hst := Lib.hid (dat_start p w w1 hw1); clear hw1)
  go_loopw [10] (fun i wr => ∃ (k : Nat) (z : Int), z = k ∧ k ≤ 6 ∧ i = .int .i64 z ∧ DAt p w w1 wr k) (fun i _ => (6 - (intOf i).toNat))
  case atStart => exact ⟨0, 0, rfl, by omega, rfl, hst.out⟩
  case round =>
    obtain ⟨k, z, hz, hk, rfl, hat⟩ := hrel
    replace hat := Lib.hid hat
    by_cases hlt : k < 6
    · have h6 : k = 0 ∨ k = 1 ∨ k = 2 ∨ k = 3 ∨ k = 4 ∨ k = 5 := by omega
      rcases h6 with rfl | rfl | rfl | rfl | rfl | rfl
      · obtain rfl : z = 0 := by simpa using hz
        clear hz hk hlt
        have e1 : wr.cell? ⟨w1.heap.size + 1, 0, none⟩ = some (.int .i64 0) := hat.out.b3.cell 0
        have e2 : wr.cell? ⟨w.heap.size, 0, none⟩ = some (.int .u16 (p 0 : Nat)) := hat.out.b1.cell 0
        have e3 : wr.cell? ⟨w1.heap.size, 0, none⟩ = some (.int .i64 9999) := hat.out.b2.cell 0
        have e4 : wr.cell? ⟨w1.heap.size + 1 + 1, 0, none⟩ = some (.int .i64 0) := hat.out.b4.cell 0
        have e5 : wr.frozen? ⟨w1.heap.size + 1 + 1, 0, none⟩ = false := hat.out.b4.frozen 0
        have hpk := hp 0
        have hnn := Lib.hid (show nnD p 0 = 0 + p 0 % 10000 from rfl)
        generalize hpe : p 0 = x at *
        replace hpe := Lib.hid hpe
        obtain ⟨X, hX⟩ := hidE (x : Int)
        have hX0 : 0 ≤ X ∧ X < 65536 := by rw [hX.out]; omega
        rw [← hX.out] at e2
        have kp := Lib.hid fun (u : Value) => (⟨keepC (u := u) (p := ⟨w1.heap.size + 1 + 1, 0, none⟩) e1 (show w1.heap.size + 1 ≠ w1.heap.size + 1 + 1 by omega), keepC e2 (show w.heap.size ≠ w1.heap.size + 1 + 1 by omega), keepC e3 (show w1.heap.size ≠ w1.heap.size + 1 + 1 by omega)⟩ : (wr.setCell ⟨w1.heap.size + 1 + 1, 0, none⟩ u).drew.cell? ⟨w1.heap.size + 1, 0, none⟩ = some (.int .i64 0) ∧ (wr.setCell ⟨w1.heap.size + 1 + 1, 0, none⟩ u).drew.cell? ⟨w.heap.size, 0, none⟩ = some (.int .u16 X) ∧ (wr.setCell ⟨w1.heap.size + 1 + 1, 0, none⟩ u).drew.cell? ⟨w1.heap.size, 0, none⟩ = some (.int .i64 9999))
        have hm : X.tmod 10000 = X % 10000 := Int.tmod_eq_emod_of_nonneg hX0.1
        have hm0 : 0 ≤ X % 10000 ∧ X % 10000 < 10000 := ⟨Int.emod_nonneg _ (by decide), Int.emod_lt_of_pos _ (by decide)⟩
        have hw1 : IntKind.i64.wrap X = X := IntWalk.i64_in _ (by omega)
        have hw2 : IntKind.i64.wrap (9999 - 0) = 9999 := by decide
        have hw3 : IntKind.i64.wrap (9999 + 1) = 10000 := by decide
        have hw4 : IntKind.i64.wrap (0 + X % 10000) = 0 + X % 10000 := IntWalk.i64_in _ (by omega)
        clear hX0
        go_wp2_with fail
        go_region_held (fun w' => w'.cell? ⟨w1.heap.size + 1, 0, none⟩ = some (.int .i64 0) ∧ w'.cell? ⟨w.heap.size, 0, none⟩ = some (.int .u16 X) ∧ w'.cell? ⟨w1.heap.size, 0, none⟩ = some (.int .i64 9999))
          (first | (exact kp.out _) | go_keep) (fail)
        have hv := Lib.hid (show (0 + X % 10000 : Int) = ((nnD p 0 : Nat) : Int) by rw [hnn.out, hX.out]; omega)
        have hd := (hat.out.step (by omega) hsz).drew
        rw [← hv.out] at hd
        replace hd := Lib.hid hd
        clear hw1 hw2 hw3 hw4
        go_wp2_with fail
        exact ⟨⟨1, 1, by simp, by omega, rfl, by first | exact hd.out | simpa using hd.out⟩, by simp [intOf]⟩
      · obtain rfl : z = 1 := by simpa using hz
        clear hz hk hlt
        have e1 : wr.cell? ⟨w1.heap.size + 1, 1, none⟩ = some (.int .i64 1) := hat.out.b3.cell 1
        have e2 : wr.cell? ⟨w.heap.size, 1, none⟩ = some (.int .u16 (p 1 : Nat)) := hat.out.b1.cell 1
        have e3 : wr.cell? ⟨w1.heap.size, 1, none⟩ = some (.int .i64 12) := hat.out.b2.cell 1
        have e4 : wr.cell? ⟨w1.heap.size + 1 + 1, 1, none⟩ = some (.int .i64 0) := hat.out.b4.cell 1
        have e5 : wr.frozen? ⟨w1.heap.size + 1 + 1, 1, none⟩ = false := hat.out.b4.frozen 1
        have hpk := hp 1
        have hnn := Lib.hid (show nnD p 1 = 1 + p 1 % 12 from rfl)
        generalize hpe : p 1 = x at *
        replace hpe := Lib.hid hpe
        obtain ⟨X, hX⟩ := hidE (x : Int)
        have hX0 : 0 ≤ X ∧ X < 65536 := by rw [hX.out]; omega
        rw [← hX.out] at e2
        have kp := Lib.hid fun (u : Value) => (⟨keepC (u := u) (p := ⟨w1.heap.size + 1 + 1, 1, none⟩) e1 (show w1.heap.size + 1 ≠ w1.heap.size + 1 + 1 by omega), keepC e2 (show w.heap.size ≠ w1.heap.size + 1 + 1 by omega), keepC e3 (show w1.heap.size ≠ w1.heap.size + 1 + 1 by omega)⟩ : (wr.setCell ⟨w1.heap.size + 1 + 1, 1, none⟩ u).drew.cell? ⟨w1.heap.size + 1, 1, none⟩ = some (.int .i64 1) ∧ (wr.setCell ⟨w1.heap.size + 1 + 1, 1, none⟩ u).drew.cell? ⟨w.heap.size, 1, none⟩ = some (.int .u16 X) ∧ (wr.setCell ⟨w1.heap.size + 1 + 1, 1, none⟩ u).drew.cell? ⟨w1.heap.size, 1, none⟩ = some (.int .i64 12))
        have hm : X.tmod 12 = X % 12 := Int.tmod_eq_emod_of_nonneg hX0.1
        have hm0 : 0 ≤ X % 12 ∧ X % 12 < 12 := ⟨Int.emod_nonneg _ (by decide), Int.emod_lt_of_pos _ (by decide)⟩
        have hw1 : IntKind.i64.wrap X = X := IntWalk.i64_in _ (by omega)
        have hw2 : IntKind.i64.wrap (12 - 1) = 11 := by decide
        have hw3 : IntKind.i64.wrap (11 + 1) = 12 := by decide
        have hw4 : IntKind.i64.wrap (1 + X % 12) = 1 + X % 12 := IntWalk.i64_in _ (by omega)
        clear hX0
        go_wp2_with fail
        go_region_held (fun w' => w'.cell? ⟨w1.heap.size + 1, 1, none⟩ = some (.int .i64 1) ∧ w'.cell? ⟨w.heap.size, 1, none⟩ = some (.int .u16 X) ∧ w'.cell? ⟨w1.heap.size, 1, none⟩ = some (.int .i64 12))
          (first | (exact kp.out _) | go_keep) (fail)
        have hv := Lib.hid (show (1 + X % 12 : Int) = ((nnD p 1 : Nat) : Int) by rw [hnn.out, hX.out]; omega)
        have hd := (hat.out.step (by omega) hsz).drew
        rw [← hv.out] at hd
        replace hd := Lib.hid hd
        clear hw1 hw2 hw3 hw4
        go_wp2_with fail
        exact ⟨⟨2, 2, by simp, by omega, rfl, by first | exact hd.out | simpa using hd.out⟩, by simp [intOf]⟩
      · obtain rfl : z = 2 := by simpa using hz
        clear hz hk hlt
        have e1 : wr.cell? ⟨w1.heap.size + 1, 2, none⟩ = some (.int .i64 1) := hat.out.b3.cell 2
        have e2 : wr.cell? ⟨w.heap.size, 2, none⟩ = some (.int .u16 (p 2 : Nat)) := hat.out.b1.cell 2
        have e3 : wr.cell? ⟨w1.heap.size, 2, none⟩ = some (.int .i64 31) := hat.out.b2.cell 2
        have e4 : wr.cell? ⟨w1.heap.size + 1 + 1, 2, none⟩ = some (.int .i64 0) := hat.out.b4.cell 2
        have e5 : wr.frozen? ⟨w1.heap.size + 1 + 1, 2, none⟩ = false := hat.out.b4.frozen 2
        have hpk := hp 2
        have hnn := Lib.hid (show nnD p 2 = 1 + p 2 % 31 from rfl)
        generalize hpe : p 2 = x at *
        replace hpe := Lib.hid hpe
        obtain ⟨X, hX⟩ := hidE (x : Int)
        have hX0 : 0 ≤ X ∧ X < 65536 := by rw [hX.out]; omega
        rw [← hX.out] at e2
        have kp := Lib.hid fun (u : Value) => (⟨keepC (u := u) (p := ⟨w1.heap.size + 1 + 1, 2, none⟩) e1 (show w1.heap.size + 1 ≠ w1.heap.size + 1 + 1 by omega), keepC e2 (show w.heap.size ≠ w1.heap.size + 1 + 1 by omega), keepC e3 (show w1.heap.size ≠ w1.heap.size + 1 + 1 by omega)⟩ : (wr.setCell ⟨w1.heap.size + 1 + 1, 2, none⟩ u).drew.cell? ⟨w1.heap.size + 1, 2, none⟩ = some (.int .i64 1) ∧ (wr.setCell ⟨w1.heap.size + 1 + 1, 2, none⟩ u).drew.cell? ⟨w.heap.size, 2, none⟩ = some (.int .u16 X) ∧ (wr.setCell ⟨w1.heap.size + 1 + 1, 2, none⟩ u).drew.cell? ⟨w1.heap.size, 2, none⟩ = some (.int .i64 31))
        have hm : X.tmod 31 = X % 31 := Int.tmod_eq_emod_of_nonneg hX0.1
        have hm0 : 0 ≤ X % 31 ∧ X % 31 < 31 := ⟨Int.emod_nonneg _ (by decide), Int.emod_lt_of_pos _ (by decide)⟩
        have hw1 : IntKind.i64.wrap X = X := IntWalk.i64_in _ (by omega)
        have hw2 : IntKind.i64.wrap (31 - 1) = 30 := by decide
        have hw3 : IntKind.i64.wrap (30 + 1) = 31 := by decide
        have hw4 : IntKind.i64.wrap (1 + X % 31) = 1 + X % 31 := IntWalk.i64_in _ (by omega)
        clear hX0
        go_wp2_with fail
        go_region_held (fun w' => w'.cell? ⟨w1.heap.size + 1, 2, none⟩ = some (.int .i64 1) ∧ w'.cell? ⟨w.heap.size, 2, none⟩ = some (.int .u16 X) ∧ w'.cell? ⟨w1.heap.size, 2, none⟩ = some (.int .i64 31))
          (first | (exact kp.out _) | go_keep) (fail)
        have hv := Lib.hid (show (1 + X % 31 : Int) = ((nnD p 2 : Nat) : Int) by rw [hnn.out, hX.out]; omega)
        have hd := (hat.out.step (by omega) hsz).drew
        rw [← hv.out] at hd
        replace hd := Lib.hid hd
        clear hw1 hw2 hw3 hw4
        go_wp2_with fail
        exact ⟨⟨3, 3, by simp, by omega, rfl, by first | exact hd.out | simpa using hd.out⟩, by simp [intOf]⟩
      · obtain rfl : z = 3 := by simpa using hz
        clear hz hk hlt
        have e1 : wr.cell? ⟨w1.heap.size + 1, 3, none⟩ = some (.int .i64 0) := hat.out.b3.cell 3
        have e2 : wr.cell? ⟨w.heap.size, 3, none⟩ = some (.int .u16 (p 3 : Nat)) := hat.out.b1.cell 3
        have e3 : wr.cell? ⟨w1.heap.size, 3, none⟩ = some (.int .i64 23) := hat.out.b2.cell 3
        have e4 : wr.cell? ⟨w1.heap.size + 1 + 1, 3, none⟩ = some (.int .i64 0) := hat.out.b4.cell 3
        have e5 : wr.frozen? ⟨w1.heap.size + 1 + 1, 3, none⟩ = false := hat.out.b4.frozen 3
        have hpk := hp 3
        have hnn := Lib.hid (show nnD p 3 = 0 + p 3 % 24 from rfl)
        generalize hpe : p 3 = x at *
        replace hpe := Lib.hid hpe
        obtain ⟨X, hX⟩ := hidE (x : Int)
        have hX0 : 0 ≤ X ∧ X < 65536 := by rw [hX.out]; omega
        rw [← hX.out] at e2
        have kp := Lib.hid fun (u : Value) => (⟨keepC (u := u) (p := ⟨w1.heap.size + 1 + 1, 3, none⟩) e1 (show w1.heap.size + 1 ≠ w1.heap.size + 1 + 1 by omega), keepC e2 (show w.heap.size ≠ w1.heap.size + 1 + 1 by omega), keepC e3 (show w1.heap.size ≠ w1.heap.size + 1 + 1 by omega)⟩ : (wr.setCell ⟨w1.heap.size + 1 + 1, 3, none⟩ u).drew.cell? ⟨w1.heap.size + 1, 3, none⟩ = some (.int .i64 0) ∧ (wr.setCell ⟨w1.heap.size + 1 + 1, 3, none⟩ u).drew.cell? ⟨w.heap.size, 3, none⟩ = some (.int .u16 X) ∧ (wr.setCell ⟨w1.heap.size + 1 + 1, 3, none⟩ u).drew.cell? ⟨w1.heap.size, 3, none⟩ = some (.int .i64 23))
        have hm : X.tmod 24 = X % 24 := Int.tmod_eq_emod_of_nonneg hX0.1
        have hm0 : 0 ≤ X % 24 ∧ X % 24 < 24 := ⟨Int.emod_nonneg _ (by decide), Int.emod_lt_of_pos _ (by decide)⟩
        have hw1 : IntKind.i64.wrap X = X := IntWalk.i64_in _ (by omega)
        have hw2 : IntKind.i64.wrap (23 - 0) = 23 := by decide
        have hw3 : IntKind.i64.wrap (23 + 1) = 24 := by decide
        have hw4 : IntKind.i64.wrap (0 + X % 24) = 0 + X % 24 := IntWalk.i64_in _ (by omega)
        clear hX0
        go_wp2_with fail
        go_region_held (fun w' => w'.cell? ⟨w1.heap.size + 1, 3, none⟩ = some (.int .i64 0) ∧ w'.cell? ⟨w.heap.size, 3, none⟩ = some (.int .u16 X) ∧ w'.cell? ⟨w1.heap.size, 3, none⟩ = some (.int .i64 23))
          (first | (exact kp.out _) | go_keep) (fail)
        have hv := Lib.hid (show (0 + X % 24 : Int) = ((nnD p 3 : Nat) : Int) by rw [hnn.out, hX.out]; omega)
        have hd := (hat.out.step (by omega) hsz).drew
        rw [← hv.out] at hd
        replace hd := Lib.hid hd
        clear hw1 hw2 hw3 hw4
        go_wp2_with fail
        exact ⟨⟨4, 4, by simp, by omega, rfl, by first | exact hd.out | simpa using hd.out⟩, by simp [intOf]⟩
      · obtain rfl : z = 4 := by simpa using hz
        clear hz hk hlt
        have e1 : wr.cell? ⟨w1.heap.size + 1, 4, none⟩ = some (.int .i64 0) := hat.out.b3.cell 4
        have e2 : wr.cell? ⟨w.heap.size, 4, none⟩ = some (.int .u16 (p 4 : Nat)) := hat.out.b1.cell 4
        have e3 : wr.cell? ⟨w1.heap.size, 4, none⟩ = some (.int .i64 59) := hat.out.b2.cell 4
        have e4 : wr.cell? ⟨w1.heap.size + 1 + 1, 4, none⟩ = some (.int .i64 0) := hat.out.b4.cell 4
        have e5 : wr.frozen? ⟨w1.heap.size + 1 + 1, 4, none⟩ = false := hat.out.b4.frozen 4
        have hpk := hp 4
        have hnn := Lib.hid (show nnD p 4 = 0 + p 4 % 60 from rfl)
        generalize hpe : p 4 = x at *
        replace hpe := Lib.hid hpe
        obtain ⟨X, hX⟩ := hidE (x : Int)
        have hX0 : 0 ≤ X ∧ X < 65536 := by rw [hX.out]; omega
        rw [← hX.out] at e2
        have kp := Lib.hid fun (u : Value) => (⟨keepC (u := u) (p := ⟨w1.heap.size + 1 + 1, 4, none⟩) e1 (show w1.heap.size + 1 ≠ w1.heap.size + 1 + 1 by omega), keepC e2 (show w.heap.size ≠ w1.heap.size + 1 + 1 by omega), keepC e3 (show w1.heap.size ≠ w1.heap.size + 1 + 1 by omega)⟩ : (wr.setCell ⟨w1.heap.size + 1 + 1, 4, none⟩ u).drew.cell? ⟨w1.heap.size + 1, 4, none⟩ = some (.int .i64 0) ∧ (wr.setCell ⟨w1.heap.size + 1 + 1, 4, none⟩ u).drew.cell? ⟨w.heap.size, 4, none⟩ = some (.int .u16 X) ∧ (wr.setCell ⟨w1.heap.size + 1 + 1, 4, none⟩ u).drew.cell? ⟨w1.heap.size, 4, none⟩ = some (.int .i64 59))
        have hm : X.tmod 60 = X % 60 := Int.tmod_eq_emod_of_nonneg hX0.1
        have hm0 : 0 ≤ X % 60 ∧ X % 60 < 60 := ⟨Int.emod_nonneg _ (by decide), Int.emod_lt_of_pos _ (by decide)⟩
        have hw1 : IntKind.i64.wrap X = X := IntWalk.i64_in _ (by omega)
        have hw2 : IntKind.i64.wrap (59 - 0) = 59 := by decide
        have hw3 : IntKind.i64.wrap (59 + 1) = 60 := by decide
        have hw4 : IntKind.i64.wrap (0 + X % 60) = 0 + X % 60 := IntWalk.i64_in _ (by omega)
        clear hX0
        go_wp2_with fail
        go_region_held (fun w' => w'.cell? ⟨w1.heap.size + 1, 4, none⟩ = some (.int .i64 0) ∧ w'.cell? ⟨w.heap.size, 4, none⟩ = some (.int .u16 X) ∧ w'.cell? ⟨w1.heap.size, 4, none⟩ = some (.int .i64 59))
          (first | (exact kp.out _) | go_keep) (fail)
        have hv := Lib.hid (show (0 + X % 60 : Int) = ((nnD p 4 : Nat) : Int) by rw [hnn.out, hX.out]; omega)
        have hd := (hat.out.step (by omega) hsz).drew
        rw [← hv.out] at hd
        replace hd := Lib.hid hd
        clear hw1 hw2 hw3 hw4
        go_wp2_with fail
        exact ⟨⟨5, 5, by simp, by omega, rfl, by first | exact hd.out | simpa using hd.out⟩, by simp [intOf]⟩
      · obtain rfl : z = 5 := by simpa using hz
        clear hz hk hlt
        have e1 : wr.cell? ⟨w1.heap.size + 1, 5, none⟩ = some (.int .i64 0) := hat.out.b3.cell 5
        have e2 : wr.cell? ⟨w.heap.size, 5, none⟩ = some (.int .u16 (p 5 : Nat)) := hat.out.b1.cell 5
        have e3 : wr.cell? ⟨w1.heap.size, 5, none⟩ = some (.int .i64 59) := hat.out.b2.cell 5
        have e4 : wr.cell? ⟨w1.heap.size + 1 + 1, 5, none⟩ = some (.int .i64 0) := hat.out.b4.cell 5
        have e5 : wr.frozen? ⟨w1.heap.size + 1 + 1, 5, none⟩ = false := hat.out.b4.frozen 5
        have hpk := hp 5
        have hnn := Lib.hid (show nnD p 5 = 0 + p 5 % 60 from rfl)
        generalize hpe : p 5 = x at *
        replace hpe := Lib.hid hpe
        obtain ⟨X, hX⟩ := hidE (x : Int)
        have hX0 : 0 ≤ X ∧ X < 65536 := by rw [hX.out]; omega
        rw [← hX.out] at e2
        have kp := Lib.hid fun (u : Value) => (⟨keepC (u := u) (p := ⟨w1.heap.size + 1 + 1, 5, none⟩) e1 (show w1.heap.size + 1 ≠ w1.heap.size + 1 + 1 by omega), keepC e2 (show w.heap.size ≠ w1.heap.size + 1 + 1 by omega), keepC e3 (show w1.heap.size ≠ w1.heap.size + 1 + 1 by omega)⟩ : (wr.setCell ⟨w1.heap.size + 1 + 1, 5, none⟩ u).drew.cell? ⟨w1.heap.size + 1, 5, none⟩ = some (.int .i64 0) ∧ (wr.setCell ⟨w1.heap.size + 1 + 1, 5, none⟩ u).drew.cell? ⟨w.heap.size, 5, none⟩ = some (.int .u16 X) ∧ (wr.setCell ⟨w1.heap.size + 1 + 1, 5, none⟩ u).drew.cell? ⟨w1.heap.size, 5, none⟩ = some (.int .i64 59))
        have hm : X.tmod 60 = X % 60 := Int.tmod_eq_emod_of_nonneg hX0.1
        have hm0 : 0 ≤ X % 60 ∧ X % 60 < 60 := ⟨Int.emod_nonneg _ (by decide), Int.emod_lt_of_pos _ (by decide)⟩
        have hw1 : IntKind.i64.wrap X = X := IntWalk.i64_in _ (by omega)
        have hw2 : IntKind.i64.wrap (59 - 0) = 59 := by decide
        have hw3 : IntKind.i64.wrap (59 + 1) = 60 := by decide
        have hw4 : IntKind.i64.wrap (0 + X % 60) = 0 + X % 60 := IntWalk.i64_in _ (by omega)
        clear hX0
        go_wp2_with fail
        go_region_held (fun w' => w'.cell? ⟨w1.heap.size + 1, 5, none⟩ = some (.int .i64 0) ∧ w'.cell? ⟨w.heap.size, 5, none⟩ = some (.int .u16 X) ∧ w'.cell? ⟨w1.heap.size, 5, none⟩ = some (.int .i64 59))
          (first | (exact kp.out _) | go_keep) (fail)
        have hv := Lib.hid (show (0 + X % 60 : Int) = ((nnD p 5 : Nat) : Int) by rw [hnn.out, hX.out]; omega)
        have hd := (hat.out.step (by omega) hsz).drew
        rw [← hv.out] at hd
        replace hd := Lib.hid hd
        clear hw1 hw2 hw3 hw4
        go_wp2_with fail
        exact ⟨⟨6, 6, by simp, by omega, rfl, by first | exact hd.out | simpa using hd.out⟩, by simp [intOf]⟩
    · obtain rfl : k = 6 := by omega
      obtain rfl : z = 6 := by simpa using hz
      clear hz hk hlt hst cw
      have nb0 := nnD_lt p 0 (by omega)
      have nb1 := nnD_lt p 1 (by omega)
      have nb2 := nnD_lt p 2 (by omega)
      have nb3 := nnD_lt p 3 (by omega)
      have nb4 := nnD_lt p 4 (by omega)
      have nb5 := nnD_lt p 5 (by omega)
      have kp := Lib.hid fun (w' : World) (hb : Below wr.heap.size wr w') => dat_keep hat.out hsz hb
      have hin := Lib.hid (nnD_in p)
      clear hat hp
      generalize nnD p 0 = n0 at *
      generalize nnD p 1 = n1 at *
      generalize nnD p 2 = n2 at *
      generalize nnD p 3 = n3 at *
      generalize nnD p 4 = n4 at *
      generalize nnD p 5 = n5 at *
      replace nb0 : n0 < 10000 := by simpa using nb0
      replace nb1 : n1 < 100 := by simpa using nb1
      replace nb2 : n2 < 100 := by simpa using nb2
      replace nb3 : n3 < 100 := by simpa using nb3
      replace nb4 : n4 < 100 := by simpa using nb4
      replace nb5 : n5 < 100 := by simpa using nb5
      have D0 : ∀ w, Calls Tryz.prog 18 #[.int .i64 (n0 : Nat), .int .i64 4] w fun e w' => e = .returned (str (padL n0 4)) ∧ Below w.heap.size w w' := fun w => law_digits n0 4 (by omega) (by omega) w
      have lP0 := Nat.le_of_eq (pad_len4 n0 nb0)
      have D1 : ∀ w, Calls Tryz.prog 18 #[.int .i64 (n1 : Nat), .int .i64 2] w fun e w' => e = .returned (str (padL n1 2)) ∧ Below w.heap.size w w' := fun w => law_digits n1 2 (by omega) (by omega) w
      have lP1 := Nat.le_of_eq (pad_len2 n1 nb1)
      have D2 : ∀ w, Calls Tryz.prog 18 #[.int .i64 (n2 : Nat), .int .i64 2] w fun e w' => e = .returned (str (padL n2 2)) ∧ Below w.heap.size w w' := fun w => law_digits n2 2 (by omega) (by omega) w
      have lP2 := Nat.le_of_eq (pad_len2 n2 nb2)
      have D3 : ∀ w, Calls Tryz.prog 18 #[.int .i64 (n3 : Nat), .int .i64 2] w fun e w' => e = .returned (str (padL n3 2)) ∧ Below w.heap.size w w' := fun w => law_digits n3 2 (by omega) (by omega) w
      have lP3 := Nat.le_of_eq (pad_len2 n3 nb3)
      have D4 : ∀ w, Calls Tryz.prog 18 #[.int .i64 (n4 : Nat), .int .i64 2] w fun e w' => e = .returned (str (padL n4 2)) ∧ Below w.heap.size w w' := fun w => law_digits n4 2 (by omega) (by omega) w
      have lP4 := Nat.le_of_eq (pad_len2 n4 nb4)
      have D5 : ∀ w, Calls Tryz.prog 18 #[.int .i64 (n5 : Nat), .int .i64 2] w fun e w' => e = .returned (str (padL n5 2)) ∧ Below w.heap.size w w' := fun w => law_digits n5 2 (by omega) (by omega) w
      have lP5 := Nat.le_of_eq (pad_len2 n5 nb5)
      have hnt := Lib.hid (show numText n0 n1 n2 n3 n4 n5 = [68, 58] ++ padL n0 4 ++ padL n1 2 ++ padL n2 2 ++ padL n3 2 ++ padL n4 2 ++ padL n5 2 from rfl)
      have hwt := Lib.hid (show wantText n0 n1 n2 n3 n4 n5 = padL n0 4 ++ [45] ++ padL n1 2 ++ [45] ++ padL n2 2 ++ [84] ++ padL n3 2 ++ [58] ++ padL n4 2 ++ [58] ++ padL n5 2 from rfl)
      unfold str at D0 D1 D2 D3 D4 D5
      generalize hPe0 : padL n0 4 = P0 at *
      replace hPe0 := Lib.hid hPe0
      generalize hPe1 : padL n1 2 = P1 at *
      replace hPe1 := Lib.hid hPe1
      generalize hPe2 : padL n2 2 = P2 at *
      replace hPe2 := Lib.hid hPe2
      generalize hPe3 : padL n3 2 = P3 at *
      replace hPe3 := Lib.hid hPe3
      generalize hPe4 : padL n4 2 = P4 at *
      replace hPe4 := Lib.hid hPe4
      generalize hPe5 : padL n5 2 = P5 at *
      replace hPe5 := Lib.hid hPe5
      obtain ⟨Q1, eQ1, lQ1, rQ1⟩ := mkq [68, 58] P0 (Nat.le_refl 2) lP0 (by decide)
      obtain ⟨Q2, eQ2, lQ2, rQ2⟩ := mkq Q1 P1 lQ1 lP1 (by decide)
      obtain ⟨Q3, eQ3, lQ3, rQ3⟩ := mkq Q2 P2 lQ2 lP2 (by decide)
      obtain ⟨Q4, eQ4, lQ4, rQ4⟩ := mkq Q3 P3 lQ3 lP3 (by decide)
      obtain ⟨Q5, eQ5, lQ5, rQ5⟩ := mkq Q4 P4 lQ4 lP4 (by decide)
      obtain ⟨Q6, eQ6, lQ6, rQ6⟩ := mkq Q5 P5 lQ5 lP5 (by decide)
      obtain ⟨V1, eV1, lV1, rV1⟩ := mkq P0 [45] lP0 (Nat.le_refl 1) (by decide)
      obtain ⟨V2, eV2, lV2, rV2⟩ := mkq V1 P1 lV1 lP1 (by decide)
      obtain ⟨V3, eV3, lV3, rV3⟩ := mkq V2 [45] lV2 (Nat.le_refl 1) (by decide)
      obtain ⟨V4, eV4, lV4, rV4⟩ := mkq V3 P2 lV3 lP2 (by decide)
      obtain ⟨V5, eV5, lV5, rV5⟩ := mkq V4 [84] lV4 (Nat.le_refl 1) (by decide)
      obtain ⟨V6, eV6, lV6, rV6⟩ := mkq V5 P3 lV5 lP3 (by decide)
      obtain ⟨V7, eV7, lV7, rV7⟩ := mkq V6 [58] lV6 (Nat.le_refl 1) (by decide)
      obtain ⟨V8, eV8, lV8, rV8⟩ := mkq V7 P4 lV7 lP4 (by decide)
      obtain ⟨V9, eV9, lV9, rV9⟩ := mkq V8 [58] lV8 (Nat.le_refl 1) (by decide)
      obtain ⟨V10, eV10, lV10, rV10⟩ := mkq V9 P5 lV9 lP5 (by decide)
      have kr := (kp.out wr (Below.refl _ _)).1
      obtain ⟨c0, c1, c2, c3, c4, c5⟩ := kr
      go_wp2_with fail
      go_region_held (fun w' => w'.cell? ⟨w1.heap.size + 1 + 1, 0, none⟩ = some (.int .i64 (n0 : Nat)) ∧ w'.cell? ⟨w1.heap.size + 1 + 1, 1, none⟩ = some (.int .i64 (n1 : Nat)) ∧ w'.cell? ⟨w1.heap.size + 1 + 1, 2, none⟩ = some (.int .i64 (n2 : Nat)) ∧ w'.cell? ⟨w1.heap.size + 1 + 1, 3, none⟩ = some (.int .i64 (n3 : Nat)) ∧ w'.cell? ⟨w1.heap.size + 1 + 1, 4, none⟩ = some (.int .i64 (n4 : Nat)) ∧ w'.cell? ⟨w1.heap.size + 1 + 1, 5, none⟩ = some (.int .i64 (n5 : Nat)))
        (first | (with_reducible exact kwa0) | (with_reducible exact kwa1) | (with_reducible exact kwa2) | (with_reducible exact kwa3) | (with_reducible exact kwa4) | (with_reducible exact kwa5) | go_keep)
        (first
        | (go_at_call 18; (with_reducible refine (D0 _).mono ?_); rintro e wa0 ⟨rfl, hwa0⟩; have Bwa0 := Lib.hid (((Below.refl wr.heap.size wr).drew).trans (hwa0.mono ((Below.refl wr.heap.size wr).drew).size)); have kwa0 := (kp.out _ Bwa0.out).1; clear hwa0)
        | (go_at_call 18; (with_reducible refine (D1 _).mono ?_); rintro e wa1 ⟨rfl, hwa1⟩; have Bwa1 := Lib.hid ((Bwa0.out).trans (hwa1.mono (Bwa0.out).size)); have kwa1 := (kp.out _ Bwa1.out).1; clear hwa1)
        | (go_at_call 18; (with_reducible refine (D2 _).mono ?_); rintro e wa2 ⟨rfl, hwa2⟩; have Bwa2 := Lib.hid ((Bwa1.out).trans (hwa2.mono (Bwa1.out).size)); have kwa2 := (kp.out _ Bwa2.out).1; clear hwa2)
        | (go_at_call 18; (with_reducible refine (D3 _).mono ?_); rintro e wa3 ⟨rfl, hwa3⟩; have Bwa3 := Lib.hid ((Bwa2.out).trans (hwa3.mono (Bwa2.out).size)); have kwa3 := (kp.out _ Bwa3.out).1; clear hwa3)
        | (go_at_call 18; (with_reducible refine (D4 _).mono ?_); rintro e wa4 ⟨rfl, hwa4⟩; have Bwa4 := Lib.hid ((Bwa3.out).trans (hwa4.mono (Bwa3.out).size)); have kwa4 := (kp.out _ Bwa4.out).1; clear hwa4)
        | (go_at_call 18; (with_reducible refine (D5 _).mono ?_); rintro e wa5 ⟨rfl, hwa5⟩; have Bwa5 := Lib.hid ((Bwa4.out).trans (hwa5.mono (Bwa4.out).size)); have kwa5 := (kp.out _ Bwa5.out).1; clear hwa5))
      go_wp2_with fail
      go_region_held (fun w' => w'.cell? ⟨w1.heap.size + 1 + 1, 0, none⟩ = some (.int .i64 (n0 : Nat)) ∧ w'.cell? ⟨w1.heap.size + 1 + 1, 1, none⟩ = some (.int .i64 (n1 : Nat)) ∧ w'.cell? ⟨w1.heap.size + 1 + 1, 2, none⟩ = some (.int .i64 (n2 : Nat)) ∧ w'.cell? ⟨w1.heap.size + 1 + 1, 3, none⟩ = some (.int .i64 (n3 : Nat)) ∧ w'.cell? ⟨w1.heap.size + 1 + 1, 4, none⟩ = some (.int .i64 (n4 : Nat)) ∧ w'.cell? ⟨w1.heap.size + 1 + 1, 5, none⟩ = some (.int .i64 (n5 : Nat)))
        (first | (with_reducible exact kwa5) | (with_reducible exact kwb0) | (with_reducible exact kwb1) | (with_reducible exact kwb2) | (with_reducible exact kwb3) | (with_reducible exact kwb4) | (with_reducible exact kwb5) | go_keep)
        (first
        | (go_at_call 18; (with_reducible refine (D0 _).mono ?_); rintro e wb0 ⟨rfl, hwb0⟩; have Bwb0 := Lib.hid ((Bwa5.out.drew).trans (hwb0.mono (Bwa5.out.drew).size)); have kwb0 := (kp.out _ Bwb0.out).1; clear hwb0)
        | (go_at_call 18; (with_reducible refine (D1 _).mono ?_); rintro e wb1 ⟨rfl, hwb1⟩; have Bwb1 := Lib.hid ((Bwb0.out).trans (hwb1.mono (Bwb0.out).size)); have kwb1 := (kp.out _ Bwb1.out).1; clear hwb1)
        | (go_at_call 18; (with_reducible refine (D2 _).mono ?_); rintro e wb2 ⟨rfl, hwb2⟩; have Bwb2 := Lib.hid ((Bwb1.out).trans (hwb2.mono (Bwb1.out).size)); have kwb2 := (kp.out _ Bwb2.out).1; clear hwb2)
        | (go_at_call 18; (with_reducible refine (D3 _).mono ?_); rintro e wb3 ⟨rfl, hwb3⟩; have Bwb3 := Lib.hid ((Bwb2.out).trans (hwb3.mono (Bwb2.out).size)); have kwb3 := (kp.out _ Bwb3.out).1; clear hwb3)
        | (go_at_call 18; (with_reducible refine (D4 _).mono ?_); rintro e wb4 ⟨rfl, hwb4⟩; have Bwb4 := Lib.hid ((Bwb3.out).trans (hwb4.mono (Bwb3.out).size)); have kwb4 := (kp.out _ Bwb4.out).1; clear hwb4)
        | (go_at_call 18; (with_reducible refine (D5 _).mono ?_); rintro e wb5 ⟨rfl, hwb5⟩; have Bwb5 := Lib.hid ((Bwb4.out).trans (hwb5.mono (Bwb4.out).size)); have kwb5 := (kp.out _ Bwb5.out).1; clear hwb5))
      have hi4 : zn / 4 % 24 ≤ 23 := by omega
      have mi4 : zn / 256 % 60 ≤ 59 := by omega
      have DH : ∀ w, Calls Tryz.prog 18 #[.int .i64 ((zn : Int) / 4 % 24), .int .i64 2] w fun e w' => e = .returned (str (padL (zn / 4 % 24) 2)) ∧ Below w.heap.size w w' := fun w => by
        rw [show (zn : Int) / 4 % 24 = ((zn / 4 % 24 : Nat) : Int) by omega]; exact law_digits _ 2 (by omega) (by omega) w
      have DM : ∀ w, Calls Tryz.prog 18 #[.int .i64 ((zn : Int) / 256 % 60), .int .i64 2] w fun e w' => e = .returned (str (padL (zn / 256 % 60) 2)) ∧ Below w.heap.size w w' := fun w => by
        rw [show (zn : Int) / 256 % 60 = ((zn / 256 % 60 : Nat) : Int) by omega]; exact law_digits _ 2 (by omega) (by omega) w
      have lH := Nat.le_of_eq (pad_len2 (zn / 4 % 24) (by omega))
      have lM := Nat.le_of_eq (pad_len2 (zn / 256 % 60) (by omega))
      have h3 := and_three zn hzn
      have hw5 : (wg : Int) % 5 = ((wg % 5 : Nat) : Int) := by omega
      have hq : wg % 5 < 5 := by omega
      have hvl := hvD_le (wg % 5)
      generalize wg % 5 = q at *
      have hq0 : (0 : Int) ≤ 1 + (q : Int) := by omega
      have hq6 : 1 + (q : Int) < 6 := by omega
      have hz4 : zn % 4 = 0 ∨ zn % 4 = 1 ∨ zn % 4 = 2 ∨ zn % 4 = 3 := by omega
      unfold str at DH DM
      generalize (zn : Int) / 4 % 24 = HI at *
      generalize (zn : Int) / 256 % 60 = MI at *
      generalize hHn : zn / 4 % 24 = hN at *
      generalize hMn : zn / 256 % 60 = mN at *
      replace hHn := Lib.hid hHn
      replace hMn := Lib.hid hMn
      have hH := Lib.hid (show padL hN 2 = padL hN 2 from rfl)
      generalize hHe : padL hN 2 = H at *
      generalize hMe : padL mN 2 = M at *
      replace hHe := Lib.hid hHe
      replace hMe := Lib.hid hMe
      clear hH
      rcases hz4 with h4 | h4 | h4 | h4
      all_goals rw [h4] at h3
      all_goals replace h4 := Lib.hid h4
      · skip
        obtain ⟨X1, eX1, lX1, rX1⟩ := mkq V10 [90] lV10 (Nat.le_refl 1) (by decide)
        obtain ⟨F1, eF1, lF1, rF1⟩ := mkq Q6 [90] lQ6 (Nat.le_refl 1) (by decide)
        obtain ⟨F2, eF2, lF2, rF2⟩ := mkq F1 [48] lF1 (Nat.le_refl 1) (by decide)
        have E1 : ∀ w, Calls Tryz.prog 18 #[.int .i64 (badI q 1 n1 : Nat), .int .i64 2] w fun e w' => e = .returned (str (padL (badI q 1 n1) 2)) ∧ Below w.heap.size w w' := fun w => law_digits _ 2 (by have := badI_lt q 1 n1 nb1; omega) (by omega) w
        have lG1 := Nat.le_of_eq (pad_len2 (badI q 1 n1) (badI_lt q 1 n1 nb1))
        have E2 : ∀ w, Calls Tryz.prog 18 #[.int .i64 (badI q 2 n2 : Nat), .int .i64 2] w fun e w' => e = .returned (str (padL (badI q 2 n2) 2)) ∧ Below w.heap.size w w' := fun w => law_digits _ 2 (by have := badI_lt q 2 n2 nb2; omega) (by omega) w
        have lG2 := Nat.le_of_eq (pad_len2 (badI q 2 n2) (badI_lt q 2 n2 nb2))
        have E3 : ∀ w, Calls Tryz.prog 18 #[.int .i64 (badI q 3 n3 : Nat), .int .i64 2] w fun e w' => e = .returned (str (padL (badI q 3 n3) 2)) ∧ Below w.heap.size w w' := fun w => law_digits _ 2 (by have := badI_lt q 3 n3 nb3; omega) (by omega) w
        have lG3 := Nat.le_of_eq (pad_len2 (badI q 3 n3) (badI_lt q 3 n3 nb3))
        have E4 : ∀ w, Calls Tryz.prog 18 #[.int .i64 (badI q 4 n4 : Nat), .int .i64 2] w fun e w' => e = .returned (str (padL (badI q 4 n4) 2)) ∧ Below w.heap.size w w' := fun w => law_digits _ 2 (by have := badI_lt q 4 n4 nb4; omega) (by omega) w
        have lG4 := Nat.le_of_eq (pad_len2 (badI q 4 n4) (badI_lt q 4 n4 nb4))
        have E5 : ∀ w, Calls Tryz.prog 18 #[.int .i64 (badI q 5 n5 : Nat), .int .i64 2] w fun e w' => e = .returned (str (padL (badI q 5 n5) 2)) ∧ Below w.heap.size w w' := fun w => law_digits _ 2 (by have := badI_lt q 5 n5 nb5; omega) (by omega) w
        have lG5 := Nat.le_of_eq (pad_len2 (badI q 5 n5) (badI_lt q 5 n5 nb5))
        unfold str at E1 E2 E3 E4 E5
        generalize hGe1 : padL (badI q 1 n1) 2 = G1 at *
        replace hGe1 := Lib.hid hGe1
        generalize hGe2 : padL (badI q 2 n2) 2 = G2 at *
        replace hGe2 := Lib.hid hGe2
        generalize hGe3 : padL (badI q 3 n3) 2 = G3 at *
        replace hGe3 := Lib.hid hGe3
        generalize hGe4 : padL (badI q 4 n4) 2 = G4 at *
        replace hGe4 := Lib.hid hGe4
        generalize hGe5 : padL (badI q 5 n5) 2 = G5 at *
        replace hGe5 := Lib.hid hGe5
        obtain ⟨Y1, eY1, lY1, rY1⟩ := mkq Q1 G1 lQ1 lG1 (by decide)
        obtain ⟨Y2, eY2, lY2, rY2⟩ := mkq Y1 G2 lY1 lG2 (by decide)
        obtain ⟨Y3, eY3, lY3, rY3⟩ := mkq Y2 G3 lY2 lG3 (by decide)
        obtain ⟨Y4, eY4, lY4, rY4⟩ := mkq Y3 G4 lY3 lG4 (by decide)
        obtain ⟨Y5, eY5, lY5, rY5⟩ := mkq Y4 G5 lY4 lG5 (by decide)
        obtain ⟨Y6, eY6, lY6, rY6⟩ := mkq Y5 [90] lY5 (Nat.le_refl 1) (by decide)
        have eq6 : Q6 = numText n0 n1 n2 n3 n4 n5 := by rw [eQ6.out, eQ5.out, eQ4.out, eQ3.out, eQ2.out, eQ1.out, hnt.out]
        have ev10 : V10 = wantText n0 n1 n2 n3 n4 n5 := by rw [eV10.out, eV9.out, eV8.out, eV7.out, eV6.out, eV5.out, eV4.out, eV3.out, eV2.out, eV1.out, hwt.out]
        have ey5 : Y5 = numText n0 (badI q 1 n1) (badI q 2 n2) (badI q 3 n3) (badI q 4 n4) (badI q 5 n5) := by
          unfold numText
          rw [eY5.out, eY4.out, eY3.out, eY2.out, eY1.out, eQ1.out, hPe0.out, hGe1.out, hGe2.out, hGe3.out, hGe4.out, hGe5.out]
        have bd : ∀ i n, n < 100 → badI q i n < 100 := badI_lt q
        have bo := bad_out q hq n0 n1 n2 n3 n4 n5
        have v1 : dateS F1 = (X1, true) := by
          rw [eF1.out, eX1.out, eq6, ev10, date_txt n0 n1 n2 n3 n4 n5 nb0 nb1 nb2 nb3 nb4 nb5 [90] [90] true (txt_Z n0 n1 n2 n3 n4 n5 nb0 nb1 nb2 nb3 nb4 nb5), hin.out]; rfl
        have v3 : dateS F2 = ([], false) := by
          rw [eF2.out, eF1.out, eq6, List.append_assoc, date_txt n0 n1 n2 n3 n4 n5 nb0 nb1 nb2 nb3 nb4 nb5 ([90] ++ [48]) [90] false (txt_Z0 n0 n1 n2 n3 n4 n5 nb0 nb1 nb2 nb3 nb4 nb5), hin.out]; rfl
        have v2 : dateS Y6 = ([], false) := by
          rw [eY6.out, ey5, date_txt _ _ _ _ _ _ nb0 (bd 1 n1 nb1) (bd 2 n2 nb2) (bd 3 n3 nb3) (bd 4 n4 nb4) (bd 5 n5 nb5) [90] [90] true (txt_Z _ _ _ _ _ _ nb0 (bd 1 n1 nb1) (bd 2 n2 nb2) (bd 3 n3 nb3) (bd 4 n4 nb4) (bd 5 n5 nb5)), bo]; rfl
        clear eq6 ev10 ey5 bd bo
        replace v1 := Lib.hid v1
        replace v2 := Lib.hid v2
        replace v3 := Lib.hid v3
        obtain ⟨cc1, wc1, cv1, bb1, dc1⟩ := date_of wb5 F1 (by omega)
        rw [v1.out] at dc1
        replace dc1 := Lib.hid dc1
        replace bb1 := Lib.hid bb1
        unfold str at dc1
        go_wp2_with (first
          | (go_at_call 19; (with_reducible refine dc1.out.mono ?_); rintro e wd1 ⟨rfl, hd1⟩; have Bd1 := Lib.hid (Bwb5.out.trans (hd1.mono Bwb5.out.size)); obtain ⟨⟨m0, m1, m2, m3, m4, m5⟩, hbh, hbb⟩ := kp.out _ Bd1.out; have hic := hi_cell hbh q hq; have hlt1 := hbh.lt; replace hbb := Lib.hid hbb; obtain ⟨⟨u, hu⟩, hf, hBad⟩ := bad_cells (w := wd1) (n0 := n0) (n1 := n1) (n2 := n2) (n3 := n3) (n4 := n4) (n5 := n5) q hq; obtain ⟨z0, z1, z2, z3, z4, z5⟩ := cells6 hBad; have kb := Lib.hid (fun (w' : World) (hb : Below (wd1.alloc (.cells (([Value.int .i64 (n0 : Nat), .int .i64 (n1 : Nat), .int .i64 (n2 : Nat), .int .i64 (n3 : Nat), .int .i64 (n4 : Nat), .int .i64 (n5 : Nat)] : List Value).set (1 + q) (.int .i64 ((hvD q : Nat) + 1))).toArray 48)).heap.size (wd1.alloc (.cells (([Value.int .i64 (n0 : Nat), .int .i64 (n1 : Nat), .int .i64 (n2 : Nat), .int .i64 (n3 : Nat), .int .i64 (n4 : Nat), .int .i64 (n5 : Nat)] : List Value).set (1 + q) (.int .i64 ((hvD q : Nat) + 1))).toArray 48)) w') => bad_keep hBad (hbb.out.alloc hbb.out.size _) hb); clear hd1 hbh hBad))
        generalize hX : wd1.alloc (.cells (([Value.int .i64 (n0 : Nat), .int .i64 (n1 : Nat), .int .i64 (n2 : Nat), .int .i64 (n3 : Nat), .int .i64 (n4 : Nat), .int .i64 (n5 : Nat)] : List Value).set (1 + q) (.int .i64 ((hvD q : Nat) + 1))).toArray 48) = X at *
        replace hX := Lib.hid hX
        go_region_held (fun w' => w'.cell? ⟨wd1.heap.size, 0, none⟩ = some (.int .i64 (n0 : Nat)) ∧ w'.cell? ⟨wd1.heap.size, 1, none⟩ = some (.int .i64 (badI q 1 n1 : Nat)) ∧ w'.cell? ⟨wd1.heap.size, 2, none⟩ = some (.int .i64 (badI q 2 n2 : Nat)) ∧ w'.cell? ⟨wd1.heap.size, 3, none⟩ = some (.int .i64 (badI q 3 n3 : Nat)) ∧ w'.cell? ⟨wd1.heap.size, 4, none⟩ = some (.int .i64 (badI q 4 n4 : Nat)) ∧ w'.cell? ⟨wd1.heap.size, 5, none⟩ = some (.int .i64 (badI q 5 n5 : Nat)))
          (first | (with_reducible exact kwc0) | (with_reducible exact kwc1) | (with_reducible exact kwc2) | (with_reducible exact kwc3) | (with_reducible exact kwc4) | (with_reducible exact kwc5) | (with_reducible exact kx2) | (with_reducible exact kd2) | go_keep)
          (first
          | (go_at_call 18; (with_reducible refine (D0 _).mono ?_); rintro e wx0 ⟨rfl, hwx0⟩; have Bwx0 := Lib.hid (((Below.refl X.heap.size X).drew).trans (hwx0.mono ((Below.refl X.heap.size X).drew).size)); have kwc0 := (kb.out _ Bwx0.out).1; clear hwx0)
          | (go_at_call 18; (with_reducible refine (E1 _).mono ?_); rintro e wx1 ⟨rfl, hwx1⟩; have Bwx1 := Lib.hid ((Bwx0.out).trans (hwx1.mono (Bwx0.out).size)); have kwc1 := (kb.out _ Bwx1.out).1; clear hwx1)
          | (go_at_call 18; (with_reducible refine (E2 _).mono ?_); rintro e wx2 ⟨rfl, hwx2⟩; have Bwx2 := Lib.hid ((Bwx1.out).trans (hwx2.mono (Bwx1.out).size)); have kwc2 := (kb.out _ Bwx2.out).1; clear hwx2)
          | (go_at_call 18; (with_reducible refine (E3 _).mono ?_); rintro e wx3 ⟨rfl, hwx3⟩; have Bwx3 := Lib.hid ((Bwx2.out).trans (hwx3.mono (Bwx2.out).size)); have kwc3 := (kb.out _ Bwx3.out).1; clear hwx3)
          | (go_at_call 18; (with_reducible refine (E4 _).mono ?_); rintro e wx4 ⟨rfl, hwx4⟩; have Bwx4 := Lib.hid ((Bwx3.out).trans (hwx4.mono (Bwx3.out).size)); have kwc4 := (kb.out _ Bwx4.out).1; clear hwx4)
          | (go_at_call 18; (with_reducible refine (E5 _).mono ?_); rintro e wx5 ⟨rfl, hwx5⟩; have Bwx5 := Lib.hid ((Bwx4.out).trans (hwx5.mono (Bwx4.out).size)); have kwc5 := (kb.out _ Bwx5.out).1; clear hwx5; obtain ⟨cc2, wc2, cv2, bb2, dc2⟩ := date_of wx5 Y6 (by omega); rw [v2.out] at dc2; have kx2 := (kb.out _ (Bwx5.out.trans (bb2.mono Bwx5.out.size))).1; replace dc2 := Lib.hid dc2; replace bb2 := Lib.hid bb2; unfold str at dc2)
          | (go_at_call 19; (with_reducible refine dc2.out.mono ?_); rintro e wd2 ⟨rfl, hd2⟩; have Bd2 := Lib.hid (Bwx5.out.trans (hd2.mono Bwx5.out.size)); have kd2 := (kb.out _ Bd2.out).1; obtain ⟨cc3, wc3, cv3, bb3, dc3⟩ := date_of wd2 F2 (by omega); rw [v3.out] at dc3; replace dc3 := Lib.hid dc3; replace bb3 := Lib.hid bb3; unfold str at dc3; clear hd2))
        go_wp2_with (go_at_call 19; (with_reducible refine dc3.out.mono ?_); rintro e wd3 ⟨rfl, hd3⟩; have Bd3 := Lib.hid (kb.out _ (Bd2.out.trans (hd3.mono Bd2.out.size))).2; clear hd3)
        go_ret
        exact ⟨rfl, Bd3.out⟩
      · skip
        obtain ⟨Z1, eZ1, lZ1, rZ1⟩ := mkq [45] H (Nat.le_refl 1) lH (by decide)
        obtain ⟨Z2, eZ2, lZ2, rZ2⟩ := mkq Z1 [39] lZ1 (Nat.le_refl 1) (by decide)
        obtain ⟨Z3, eZ3, lZ3, rZ3⟩ := mkq Z2 M lZ2 lM (by decide)
        obtain ⟨X1, eX1, lX1, rX1⟩ := mkq V10 [45] lV10 (Nat.le_refl 1) (by decide)
        obtain ⟨X2, eX2, lX2, rX2⟩ := mkq X1 H lX1 lH (by decide)
        obtain ⟨X3, eX3, lX3, rX3⟩ := mkq X2 [58] lX2 (Nat.le_refl 1) (by decide)
        obtain ⟨X4, eX4, lX4, rX4⟩ := mkq X3 M lX3 lM (by decide)
        obtain ⟨F1, eF1, lF1, rF1⟩ := mkq Q6 Z3 lQ6 lZ3 (by decide)
        obtain ⟨F2, eF2, lF2, rF2⟩ := mkq F1 [48] lF1 (Nat.le_refl 1) (by decide)
        have E1 : ∀ w, Calls Tryz.prog 18 #[.int .i64 (badI q 1 n1 : Nat), .int .i64 2] w fun e w' => e = .returned (str (padL (badI q 1 n1) 2)) ∧ Below w.heap.size w w' := fun w => law_digits _ 2 (by have := badI_lt q 1 n1 nb1; omega) (by omega) w
        have lG1 := Nat.le_of_eq (pad_len2 (badI q 1 n1) (badI_lt q 1 n1 nb1))
        have E2 : ∀ w, Calls Tryz.prog 18 #[.int .i64 (badI q 2 n2 : Nat), .int .i64 2] w fun e w' => e = .returned (str (padL (badI q 2 n2) 2)) ∧ Below w.heap.size w w' := fun w => law_digits _ 2 (by have := badI_lt q 2 n2 nb2; omega) (by omega) w
        have lG2 := Nat.le_of_eq (pad_len2 (badI q 2 n2) (badI_lt q 2 n2 nb2))
        have E3 : ∀ w, Calls Tryz.prog 18 #[.int .i64 (badI q 3 n3 : Nat), .int .i64 2] w fun e w' => e = .returned (str (padL (badI q 3 n3) 2)) ∧ Below w.heap.size w w' := fun w => law_digits _ 2 (by have := badI_lt q 3 n3 nb3; omega) (by omega) w
        have lG3 := Nat.le_of_eq (pad_len2 (badI q 3 n3) (badI_lt q 3 n3 nb3))
        have E4 : ∀ w, Calls Tryz.prog 18 #[.int .i64 (badI q 4 n4 : Nat), .int .i64 2] w fun e w' => e = .returned (str (padL (badI q 4 n4) 2)) ∧ Below w.heap.size w w' := fun w => law_digits _ 2 (by have := badI_lt q 4 n4 nb4; omega) (by omega) w
        have lG4 := Nat.le_of_eq (pad_len2 (badI q 4 n4) (badI_lt q 4 n4 nb4))
        have E5 : ∀ w, Calls Tryz.prog 18 #[.int .i64 (badI q 5 n5 : Nat), .int .i64 2] w fun e w' => e = .returned (str (padL (badI q 5 n5) 2)) ∧ Below w.heap.size w w' := fun w => law_digits _ 2 (by have := badI_lt q 5 n5 nb5; omega) (by omega) w
        have lG5 := Nat.le_of_eq (pad_len2 (badI q 5 n5) (badI_lt q 5 n5 nb5))
        unfold str at E1 E2 E3 E4 E5
        generalize hGe1 : padL (badI q 1 n1) 2 = G1 at *
        replace hGe1 := Lib.hid hGe1
        generalize hGe2 : padL (badI q 2 n2) 2 = G2 at *
        replace hGe2 := Lib.hid hGe2
        generalize hGe3 : padL (badI q 3 n3) 2 = G3 at *
        replace hGe3 := Lib.hid hGe3
        generalize hGe4 : padL (badI q 4 n4) 2 = G4 at *
        replace hGe4 := Lib.hid hGe4
        generalize hGe5 : padL (badI q 5 n5) 2 = G5 at *
        replace hGe5 := Lib.hid hGe5
        obtain ⟨Y1, eY1, lY1, rY1⟩ := mkq Q1 G1 lQ1 lG1 (by decide)
        obtain ⟨Y2, eY2, lY2, rY2⟩ := mkq Y1 G2 lY1 lG2 (by decide)
        obtain ⟨Y3, eY3, lY3, rY3⟩ := mkq Y2 G3 lY2 lG3 (by decide)
        obtain ⟨Y4, eY4, lY4, rY4⟩ := mkq Y3 G4 lY3 lG4 (by decide)
        obtain ⟨Y5, eY5, lY5, rY5⟩ := mkq Y4 G5 lY4 lG5 (by decide)
        obtain ⟨Y6, eY6, lY6, rY6⟩ := mkq Y5 Z3 lY5 lZ3 (by decide)
        have eq6 : Q6 = numText n0 n1 n2 n3 n4 n5 := by rw [eQ6.out, eQ5.out, eQ4.out, eQ3.out, eQ2.out, eQ1.out, hnt.out]
        have ev10 : V10 = wantText n0 n1 n2 n3 n4 n5 := by rw [eV10.out, eV9.out, eV8.out, eV7.out, eV6.out, eV5.out, eV4.out, eV3.out, eV2.out, eV1.out, hwt.out]
        have ey5 : Y5 = numText n0 (badI q 1 n1) (badI q 2 n2) (badI q 3 n3) (badI q 4 n4) (badI q 5 n5) := by
          unfold numText
          rw [eY5.out, eY4.out, eY3.out, eY2.out, eY1.out, eQ1.out, hPe0.out, hGe1.out, hGe2.out, hGe3.out, hGe4.out, hGe5.out]
        have bd : ∀ i n, n < 100 → badI q i n < 100 := badI_lt q
        have bo := bad_out q hq n0 n1 n2 n3 n4 n5
        have ez : Z3 = ([45] ++ padL hN 2 ++ [39] ++ padL mN 2 ++ []) := by rw [eZ3.out, eZ2.out, eZ1.out, hHe.out, hMe.out]; simp
        have sgn : (45 : UInt8) = 43 ∨ (45 : UInt8) = 45 := by decide
        have v1 : dateS F1 = (X4, true) := by
          rw [eF1.out, eX4.out, eX3.out, eX2.out, eX1.out, ez, eq6, ev10, date_txt n0 n1 n2 n3 n4 n5 nb0 nb1 nb2 nb3 nb4 nb5 _ ([45] ++ padL hN 2 ++ [58] ++ padL mN 2) true ((txt_s n0 n1 n2 n3 n4 n5 nb0 nb1 nb2 nb3 nb4 nb5 hN mN hi4 mi4 45 sgn []).trans (by simp)), hin.out, ← hHe.out, ← hMe.out]; simp
        have v3 : dateS F2 = ([], false) := by
          rw [eF2.out, eF1.out, ez, eq6, List.append_assoc, List.append_assoc _ [] [48], date_txt n0 n1 n2 n3 n4 n5 nb0 nb1 nb2 nb3 nb4 nb5 _ [] false ((txt_s n0 n1 n2 n3 n4 n5 nb0 nb1 nb2 nb3 nb4 nb5 hN mN hi4 mi4 45 sgn ([] ++ [48])).trans (by simp)), hin.out]; rfl
        have v2 : dateS Y6 = ([], false) := by
          rw [eY6.out, ey5, ez, date_txt _ _ _ _ _ _ nb0 (bd 1 n1 nb1) (bd 2 n2 nb2) (bd 3 n3 nb3) (bd 4 n4 nb4) (bd 5 n5 nb5) _ ([45] ++ padL hN 2 ++ [58] ++ padL mN 2) true ((txt_s _ _ _ _ _ _ nb0 (bd 1 n1 nb1) (bd 2 n2 nb2) (bd 3 n3 nb3) (bd 4 n4 nb4) (bd 5 n5 nb5) hN mN hi4 mi4 45 sgn []).trans (by simp)), bo]; rfl
        clear eq6 ev10 ey5 bd bo ez sgn
        replace v1 := Lib.hid v1
        replace v2 := Lib.hid v2
        replace v3 := Lib.hid v3
        go_wp2_with (first
          | (go_at_call 18; (with_reducible refine (DM _).mono ?_); rintro e wz4 ⟨rfl, hwz4⟩; have Bwz4 := Lib.hid ((Bwz3.out).trans (hwz4.mono (Bwz3.out).size)); clear hwz4; obtain ⟨cc1, wc1, cv1, bb1, dc1⟩ := date_of wz4 F1 (by omega); rw [v1.out] at dc1; replace dc1 := Lib.hid dc1; replace bb1 := Lib.hid bb1; unfold str at dc1)
          | (go_at_call 18; (with_reducible refine (DH _).mono ?_); rintro e wz3 ⟨rfl, hwz3⟩; have Bwz3 := Lib.hid ((Bwz2.out).trans (hwz3.mono (Bwz2.out).size)); clear hwz3)
          | (go_at_call 18; (with_reducible refine (DM _).mono ?_); rintro e wz2 ⟨rfl, hwz2⟩; have Bwz2 := Lib.hid ((Bwz1.out).trans (hwz2.mono (Bwz1.out).size)); clear hwz2)
          | (go_at_call 18; (with_reducible refine (DH _).mono ?_); rintro e wz1 ⟨rfl, hwz1⟩; have Bwz1 := Lib.hid ((Bwb5.out).trans (hwz1.mono (Bwb5.out).size)); clear hwz1)
          | (go_at_call 19; (with_reducible refine dc1.out.mono ?_); rintro e wd1 ⟨rfl, hd1⟩; have Bd1 := Lib.hid (Bwz4.out.trans (hd1.mono Bwz4.out.size)); obtain ⟨⟨m0, m1, m2, m3, m4, m5⟩, hbh, hbb⟩ := kp.out _ Bd1.out; have hic := hi_cell hbh q hq; have hlt1 := hbh.lt; replace hbb := Lib.hid hbb; obtain ⟨⟨u, hu⟩, hf, hBad⟩ := bad_cells (w := wd1) (n0 := n0) (n1 := n1) (n2 := n2) (n3 := n3) (n4 := n4) (n5 := n5) q hq; obtain ⟨z0, z1, z2, z3, z4, z5⟩ := cells6 hBad; have kb := Lib.hid (fun (w' : World) (hb : Below (wd1.alloc (.cells (([Value.int .i64 (n0 : Nat), .int .i64 (n1 : Nat), .int .i64 (n2 : Nat), .int .i64 (n3 : Nat), .int .i64 (n4 : Nat), .int .i64 (n5 : Nat)] : List Value).set (1 + q) (.int .i64 ((hvD q : Nat) + 1))).toArray 48)).heap.size (wd1.alloc (.cells (([Value.int .i64 (n0 : Nat), .int .i64 (n1 : Nat), .int .i64 (n2 : Nat), .int .i64 (n3 : Nat), .int .i64 (n4 : Nat), .int .i64 (n5 : Nat)] : List Value).set (1 + q) (.int .i64 ((hvD q : Nat) + 1))).toArray 48)) w') => bad_keep hBad (hbb.out.alloc hbb.out.size _) hb); clear hd1 hbh hBad))
        generalize hX : wd1.alloc (.cells (([Value.int .i64 (n0 : Nat), .int .i64 (n1 : Nat), .int .i64 (n2 : Nat), .int .i64 (n3 : Nat), .int .i64 (n4 : Nat), .int .i64 (n5 : Nat)] : List Value).set (1 + q) (.int .i64 ((hvD q : Nat) + 1))).toArray 48) = X at *
        replace hX := Lib.hid hX
        go_region_held (fun w' => w'.cell? ⟨wd1.heap.size, 0, none⟩ = some (.int .i64 (n0 : Nat)) ∧ w'.cell? ⟨wd1.heap.size, 1, none⟩ = some (.int .i64 (badI q 1 n1 : Nat)) ∧ w'.cell? ⟨wd1.heap.size, 2, none⟩ = some (.int .i64 (badI q 2 n2 : Nat)) ∧ w'.cell? ⟨wd1.heap.size, 3, none⟩ = some (.int .i64 (badI q 3 n3 : Nat)) ∧ w'.cell? ⟨wd1.heap.size, 4, none⟩ = some (.int .i64 (badI q 4 n4 : Nat)) ∧ w'.cell? ⟨wd1.heap.size, 5, none⟩ = some (.int .i64 (badI q 5 n5 : Nat)))
          (first | (with_reducible exact kwc0) | (with_reducible exact kwc1) | (with_reducible exact kwc2) | (with_reducible exact kwc3) | (with_reducible exact kwc4) | (with_reducible exact kwc5) | (with_reducible exact kx2) | (with_reducible exact kd2) | go_keep)
          (first
          | (go_at_call 18; (with_reducible refine (D0 _).mono ?_); rintro e wx0 ⟨rfl, hwx0⟩; have Bwx0 := Lib.hid (((Below.refl X.heap.size X).drew).trans (hwx0.mono ((Below.refl X.heap.size X).drew).size)); have kwc0 := (kb.out _ Bwx0.out).1; clear hwx0)
          | (go_at_call 18; (with_reducible refine (E1 _).mono ?_); rintro e wx1 ⟨rfl, hwx1⟩; have Bwx1 := Lib.hid ((Bwx0.out).trans (hwx1.mono (Bwx0.out).size)); have kwc1 := (kb.out _ Bwx1.out).1; clear hwx1)
          | (go_at_call 18; (with_reducible refine (E2 _).mono ?_); rintro e wx2 ⟨rfl, hwx2⟩; have Bwx2 := Lib.hid ((Bwx1.out).trans (hwx2.mono (Bwx1.out).size)); have kwc2 := (kb.out _ Bwx2.out).1; clear hwx2)
          | (go_at_call 18; (with_reducible refine (E3 _).mono ?_); rintro e wx3 ⟨rfl, hwx3⟩; have Bwx3 := Lib.hid ((Bwx2.out).trans (hwx3.mono (Bwx2.out).size)); have kwc3 := (kb.out _ Bwx3.out).1; clear hwx3)
          | (go_at_call 18; (with_reducible refine (E4 _).mono ?_); rintro e wx4 ⟨rfl, hwx4⟩; have Bwx4 := Lib.hid ((Bwx3.out).trans (hwx4.mono (Bwx3.out).size)); have kwc4 := (kb.out _ Bwx4.out).1; clear hwx4)
          | (go_at_call 18; (with_reducible refine (E5 _).mono ?_); rintro e wx5 ⟨rfl, hwx5⟩; have Bwx5 := Lib.hid ((Bwx4.out).trans (hwx5.mono (Bwx4.out).size)); have kwc5 := (kb.out _ Bwx5.out).1; clear hwx5; obtain ⟨cc2, wc2, cv2, bb2, dc2⟩ := date_of wx5 Y6 (by omega); rw [v2.out] at dc2; have kx2 := (kb.out _ (Bwx5.out.trans (bb2.mono Bwx5.out.size))).1; replace dc2 := Lib.hid dc2; replace bb2 := Lib.hid bb2; unfold str at dc2)
          | (go_at_call 19; (with_reducible refine dc2.out.mono ?_); rintro e wd2 ⟨rfl, hd2⟩; have Bd2 := Lib.hid (Bwx5.out.trans (hd2.mono Bwx5.out.size)); have kd2 := (kb.out _ Bd2.out).1; obtain ⟨cc3, wc3, cv3, bb3, dc3⟩ := date_of wd2 F2 (by omega); rw [v3.out] at dc3; replace dc3 := Lib.hid dc3; replace bb3 := Lib.hid bb3; unfold str at dc3; clear hd2))
        go_wp2_with (go_at_call 19; (with_reducible refine dc3.out.mono ?_); rintro e wd3 ⟨rfl, hd3⟩; have Bd3 := Lib.hid (kb.out _ (Bd2.out.trans (hd3.mono Bd2.out.size))).2; clear hd3)
        go_ret
        exact ⟨rfl, Bd3.out⟩
      · skip
        obtain ⟨Z1, eZ1, lZ1, rZ1⟩ := mkq [43] H (Nat.le_refl 1) lH (by decide)
        obtain ⟨Z2, eZ2, lZ2, rZ2⟩ := mkq Z1 [39] lZ1 (Nat.le_refl 1) (by decide)
        obtain ⟨Z3, eZ3, lZ3, rZ3⟩ := mkq Z2 M lZ2 lM (by decide)
        obtain ⟨X1, eX1, lX1, rX1⟩ := mkq V10 [43] lV10 (Nat.le_refl 1) (by decide)
        obtain ⟨X2, eX2, lX2, rX2⟩ := mkq X1 H lX1 lH (by decide)
        obtain ⟨X3, eX3, lX3, rX3⟩ := mkq X2 [58] lX2 (Nat.le_refl 1) (by decide)
        obtain ⟨X4, eX4, lX4, rX4⟩ := mkq X3 M lX3 lM (by decide)
        obtain ⟨F1, eF1, lF1, rF1⟩ := mkq Q6 Z3 lQ6 lZ3 (by decide)
        obtain ⟨F2, eF2, lF2, rF2⟩ := mkq F1 [48] lF1 (Nat.le_refl 1) (by decide)
        have E1 : ∀ w, Calls Tryz.prog 18 #[.int .i64 (badI q 1 n1 : Nat), .int .i64 2] w fun e w' => e = .returned (str (padL (badI q 1 n1) 2)) ∧ Below w.heap.size w w' := fun w => law_digits _ 2 (by have := badI_lt q 1 n1 nb1; omega) (by omega) w
        have lG1 := Nat.le_of_eq (pad_len2 (badI q 1 n1) (badI_lt q 1 n1 nb1))
        have E2 : ∀ w, Calls Tryz.prog 18 #[.int .i64 (badI q 2 n2 : Nat), .int .i64 2] w fun e w' => e = .returned (str (padL (badI q 2 n2) 2)) ∧ Below w.heap.size w w' := fun w => law_digits _ 2 (by have := badI_lt q 2 n2 nb2; omega) (by omega) w
        have lG2 := Nat.le_of_eq (pad_len2 (badI q 2 n2) (badI_lt q 2 n2 nb2))
        have E3 : ∀ w, Calls Tryz.prog 18 #[.int .i64 (badI q 3 n3 : Nat), .int .i64 2] w fun e w' => e = .returned (str (padL (badI q 3 n3) 2)) ∧ Below w.heap.size w w' := fun w => law_digits _ 2 (by have := badI_lt q 3 n3 nb3; omega) (by omega) w
        have lG3 := Nat.le_of_eq (pad_len2 (badI q 3 n3) (badI_lt q 3 n3 nb3))
        have E4 : ∀ w, Calls Tryz.prog 18 #[.int .i64 (badI q 4 n4 : Nat), .int .i64 2] w fun e w' => e = .returned (str (padL (badI q 4 n4) 2)) ∧ Below w.heap.size w w' := fun w => law_digits _ 2 (by have := badI_lt q 4 n4 nb4; omega) (by omega) w
        have lG4 := Nat.le_of_eq (pad_len2 (badI q 4 n4) (badI_lt q 4 n4 nb4))
        have E5 : ∀ w, Calls Tryz.prog 18 #[.int .i64 (badI q 5 n5 : Nat), .int .i64 2] w fun e w' => e = .returned (str (padL (badI q 5 n5) 2)) ∧ Below w.heap.size w w' := fun w => law_digits _ 2 (by have := badI_lt q 5 n5 nb5; omega) (by omega) w
        have lG5 := Nat.le_of_eq (pad_len2 (badI q 5 n5) (badI_lt q 5 n5 nb5))
        unfold str at E1 E2 E3 E4 E5
        generalize hGe1 : padL (badI q 1 n1) 2 = G1 at *
        replace hGe1 := Lib.hid hGe1
        generalize hGe2 : padL (badI q 2 n2) 2 = G2 at *
        replace hGe2 := Lib.hid hGe2
        generalize hGe3 : padL (badI q 3 n3) 2 = G3 at *
        replace hGe3 := Lib.hid hGe3
        generalize hGe4 : padL (badI q 4 n4) 2 = G4 at *
        replace hGe4 := Lib.hid hGe4
        generalize hGe5 : padL (badI q 5 n5) 2 = G5 at *
        replace hGe5 := Lib.hid hGe5
        obtain ⟨Y1, eY1, lY1, rY1⟩ := mkq Q1 G1 lQ1 lG1 (by decide)
        obtain ⟨Y2, eY2, lY2, rY2⟩ := mkq Y1 G2 lY1 lG2 (by decide)
        obtain ⟨Y3, eY3, lY3, rY3⟩ := mkq Y2 G3 lY2 lG3 (by decide)
        obtain ⟨Y4, eY4, lY4, rY4⟩ := mkq Y3 G4 lY3 lG4 (by decide)
        obtain ⟨Y5, eY5, lY5, rY5⟩ := mkq Y4 G5 lY4 lG5 (by decide)
        obtain ⟨Y6, eY6, lY6, rY6⟩ := mkq Y5 Z3 lY5 lZ3 (by decide)
        have eq6 : Q6 = numText n0 n1 n2 n3 n4 n5 := by rw [eQ6.out, eQ5.out, eQ4.out, eQ3.out, eQ2.out, eQ1.out, hnt.out]
        have ev10 : V10 = wantText n0 n1 n2 n3 n4 n5 := by rw [eV10.out, eV9.out, eV8.out, eV7.out, eV6.out, eV5.out, eV4.out, eV3.out, eV2.out, eV1.out, hwt.out]
        have ey5 : Y5 = numText n0 (badI q 1 n1) (badI q 2 n2) (badI q 3 n3) (badI q 4 n4) (badI q 5 n5) := by
          unfold numText
          rw [eY5.out, eY4.out, eY3.out, eY2.out, eY1.out, eQ1.out, hPe0.out, hGe1.out, hGe2.out, hGe3.out, hGe4.out, hGe5.out]
        have bd : ∀ i n, n < 100 → badI q i n < 100 := badI_lt q
        have bo := bad_out q hq n0 n1 n2 n3 n4 n5
        have ez : Z3 = ([43] ++ padL hN 2 ++ [39] ++ padL mN 2 ++ []) := by rw [eZ3.out, eZ2.out, eZ1.out, hHe.out, hMe.out]; simp
        have sgn : (43 : UInt8) = 43 ∨ (43 : UInt8) = 45 := by decide
        have v1 : dateS F1 = (X4, true) := by
          rw [eF1.out, eX4.out, eX3.out, eX2.out, eX1.out, ez, eq6, ev10, date_txt n0 n1 n2 n3 n4 n5 nb0 nb1 nb2 nb3 nb4 nb5 _ ([43] ++ padL hN 2 ++ [58] ++ padL mN 2) true ((txt_s n0 n1 n2 n3 n4 n5 nb0 nb1 nb2 nb3 nb4 nb5 hN mN hi4 mi4 43 sgn []).trans (by simp)), hin.out, ← hHe.out, ← hMe.out]; simp
        have v3 : dateS F2 = ([], false) := by
          rw [eF2.out, eF1.out, ez, eq6, List.append_assoc, List.append_assoc _ [] [48], date_txt n0 n1 n2 n3 n4 n5 nb0 nb1 nb2 nb3 nb4 nb5 _ [] false ((txt_s n0 n1 n2 n3 n4 n5 nb0 nb1 nb2 nb3 nb4 nb5 hN mN hi4 mi4 43 sgn ([] ++ [48])).trans (by simp)), hin.out]; rfl
        have v2 : dateS Y6 = ([], false) := by
          rw [eY6.out, ey5, ez, date_txt _ _ _ _ _ _ nb0 (bd 1 n1 nb1) (bd 2 n2 nb2) (bd 3 n3 nb3) (bd 4 n4 nb4) (bd 5 n5 nb5) _ ([43] ++ padL hN 2 ++ [58] ++ padL mN 2) true ((txt_s _ _ _ _ _ _ nb0 (bd 1 n1 nb1) (bd 2 n2 nb2) (bd 3 n3 nb3) (bd 4 n4 nb4) (bd 5 n5 nb5) hN mN hi4 mi4 43 sgn []).trans (by simp)), bo]; rfl
        clear eq6 ev10 ey5 bd bo ez sgn
        replace v1 := Lib.hid v1
        replace v2 := Lib.hid v2
        replace v3 := Lib.hid v3
        go_wp2_with (first
          | (go_at_call 18; (with_reducible refine (DM _).mono ?_); rintro e wz4 ⟨rfl, hwz4⟩; have Bwz4 := Lib.hid ((Bwz3.out).trans (hwz4.mono (Bwz3.out).size)); clear hwz4; obtain ⟨cc1, wc1, cv1, bb1, dc1⟩ := date_of wz4 F1 (by omega); rw [v1.out] at dc1; replace dc1 := Lib.hid dc1; replace bb1 := Lib.hid bb1; unfold str at dc1)
          | (go_at_call 18; (with_reducible refine (DH _).mono ?_); rintro e wz3 ⟨rfl, hwz3⟩; have Bwz3 := Lib.hid ((Bwz2.out).trans (hwz3.mono (Bwz2.out).size)); clear hwz3)
          | (go_at_call 18; (with_reducible refine (DM _).mono ?_); rintro e wz2 ⟨rfl, hwz2⟩; have Bwz2 := Lib.hid ((Bwz1.out).trans (hwz2.mono (Bwz1.out).size)); clear hwz2)
          | (go_at_call 18; (with_reducible refine (DH _).mono ?_); rintro e wz1 ⟨rfl, hwz1⟩; have Bwz1 := Lib.hid ((Bwb5.out).trans (hwz1.mono (Bwb5.out).size)); clear hwz1)
          | (go_at_call 19; (with_reducible refine dc1.out.mono ?_); rintro e wd1 ⟨rfl, hd1⟩; have Bd1 := Lib.hid (Bwz4.out.trans (hd1.mono Bwz4.out.size)); obtain ⟨⟨m0, m1, m2, m3, m4, m5⟩, hbh, hbb⟩ := kp.out _ Bd1.out; have hic := hi_cell hbh q hq; have hlt1 := hbh.lt; replace hbb := Lib.hid hbb; obtain ⟨⟨u, hu⟩, hf, hBad⟩ := bad_cells (w := wd1) (n0 := n0) (n1 := n1) (n2 := n2) (n3 := n3) (n4 := n4) (n5 := n5) q hq; obtain ⟨z0, z1, z2, z3, z4, z5⟩ := cells6 hBad; have kb := Lib.hid (fun (w' : World) (hb : Below (wd1.alloc (.cells (([Value.int .i64 (n0 : Nat), .int .i64 (n1 : Nat), .int .i64 (n2 : Nat), .int .i64 (n3 : Nat), .int .i64 (n4 : Nat), .int .i64 (n5 : Nat)] : List Value).set (1 + q) (.int .i64 ((hvD q : Nat) + 1))).toArray 48)).heap.size (wd1.alloc (.cells (([Value.int .i64 (n0 : Nat), .int .i64 (n1 : Nat), .int .i64 (n2 : Nat), .int .i64 (n3 : Nat), .int .i64 (n4 : Nat), .int .i64 (n5 : Nat)] : List Value).set (1 + q) (.int .i64 ((hvD q : Nat) + 1))).toArray 48)) w') => bad_keep hBad (hbb.out.alloc hbb.out.size _) hb); clear hd1 hbh hBad))
        generalize hX : wd1.alloc (.cells (([Value.int .i64 (n0 : Nat), .int .i64 (n1 : Nat), .int .i64 (n2 : Nat), .int .i64 (n3 : Nat), .int .i64 (n4 : Nat), .int .i64 (n5 : Nat)] : List Value).set (1 + q) (.int .i64 ((hvD q : Nat) + 1))).toArray 48) = X at *
        replace hX := Lib.hid hX
        go_region_held (fun w' => w'.cell? ⟨wd1.heap.size, 0, none⟩ = some (.int .i64 (n0 : Nat)) ∧ w'.cell? ⟨wd1.heap.size, 1, none⟩ = some (.int .i64 (badI q 1 n1 : Nat)) ∧ w'.cell? ⟨wd1.heap.size, 2, none⟩ = some (.int .i64 (badI q 2 n2 : Nat)) ∧ w'.cell? ⟨wd1.heap.size, 3, none⟩ = some (.int .i64 (badI q 3 n3 : Nat)) ∧ w'.cell? ⟨wd1.heap.size, 4, none⟩ = some (.int .i64 (badI q 4 n4 : Nat)) ∧ w'.cell? ⟨wd1.heap.size, 5, none⟩ = some (.int .i64 (badI q 5 n5 : Nat)))
          (first | (with_reducible exact kwc0) | (with_reducible exact kwc1) | (with_reducible exact kwc2) | (with_reducible exact kwc3) | (with_reducible exact kwc4) | (with_reducible exact kwc5) | (with_reducible exact kx2) | (with_reducible exact kd2) | go_keep)
          (first
          | (go_at_call 18; (with_reducible refine (D0 _).mono ?_); rintro e wx0 ⟨rfl, hwx0⟩; have Bwx0 := Lib.hid (((Below.refl X.heap.size X).drew).trans (hwx0.mono ((Below.refl X.heap.size X).drew).size)); have kwc0 := (kb.out _ Bwx0.out).1; clear hwx0)
          | (go_at_call 18; (with_reducible refine (E1 _).mono ?_); rintro e wx1 ⟨rfl, hwx1⟩; have Bwx1 := Lib.hid ((Bwx0.out).trans (hwx1.mono (Bwx0.out).size)); have kwc1 := (kb.out _ Bwx1.out).1; clear hwx1)
          | (go_at_call 18; (with_reducible refine (E2 _).mono ?_); rintro e wx2 ⟨rfl, hwx2⟩; have Bwx2 := Lib.hid ((Bwx1.out).trans (hwx2.mono (Bwx1.out).size)); have kwc2 := (kb.out _ Bwx2.out).1; clear hwx2)
          | (go_at_call 18; (with_reducible refine (E3 _).mono ?_); rintro e wx3 ⟨rfl, hwx3⟩; have Bwx3 := Lib.hid ((Bwx2.out).trans (hwx3.mono (Bwx2.out).size)); have kwc3 := (kb.out _ Bwx3.out).1; clear hwx3)
          | (go_at_call 18; (with_reducible refine (E4 _).mono ?_); rintro e wx4 ⟨rfl, hwx4⟩; have Bwx4 := Lib.hid ((Bwx3.out).trans (hwx4.mono (Bwx3.out).size)); have kwc4 := (kb.out _ Bwx4.out).1; clear hwx4)
          | (go_at_call 18; (with_reducible refine (E5 _).mono ?_); rintro e wx5 ⟨rfl, hwx5⟩; have Bwx5 := Lib.hid ((Bwx4.out).trans (hwx5.mono (Bwx4.out).size)); have kwc5 := (kb.out _ Bwx5.out).1; clear hwx5; obtain ⟨cc2, wc2, cv2, bb2, dc2⟩ := date_of wx5 Y6 (by omega); rw [v2.out] at dc2; have kx2 := (kb.out _ (Bwx5.out.trans (bb2.mono Bwx5.out.size))).1; replace dc2 := Lib.hid dc2; replace bb2 := Lib.hid bb2; unfold str at dc2)
          | (go_at_call 19; (with_reducible refine dc2.out.mono ?_); rintro e wd2 ⟨rfl, hd2⟩; have Bd2 := Lib.hid (Bwx5.out.trans (hd2.mono Bwx5.out.size)); have kd2 := (kb.out _ Bd2.out).1; obtain ⟨cc3, wc3, cv3, bb3, dc3⟩ := date_of wd2 F2 (by omega); rw [v3.out] at dc3; replace dc3 := Lib.hid dc3; replace bb3 := Lib.hid bb3; unfold str at dc3; clear hd2))
        go_wp2_with (go_at_call 19; (with_reducible refine dc3.out.mono ?_); rintro e wd3 ⟨rfl, hd3⟩; have Bd3 := Lib.hid (kb.out _ (Bd2.out.trans (hd3.mono Bd2.out.size))).2; clear hd3)
        go_ret
        exact ⟨rfl, Bd3.out⟩
      · skip
        obtain ⟨Z1, eZ1, lZ1, rZ1⟩ := mkq [43] H (Nat.le_refl 1) lH (by decide)
        obtain ⟨Z2, eZ2, lZ2, rZ2⟩ := mkq Z1 [39] lZ1 (Nat.le_refl 1) (by decide)
        obtain ⟨Z3, eZ3, lZ3, rZ3⟩ := mkq Z2 M lZ2 lM (by decide)
        obtain ⟨Z4, eZ4, lZ4, rZ4⟩ := mkq Z3 [39] lZ3 (Nat.le_refl 1) (by decide)
        obtain ⟨X1, eX1, lX1, rX1⟩ := mkq V10 [43] lV10 (Nat.le_refl 1) (by decide)
        obtain ⟨X2, eX2, lX2, rX2⟩ := mkq X1 H lX1 lH (by decide)
        obtain ⟨X3, eX3, lX3, rX3⟩ := mkq X2 [58] lX2 (Nat.le_refl 1) (by decide)
        obtain ⟨X4, eX4, lX4, rX4⟩ := mkq X3 M lX3 lM (by decide)
        obtain ⟨F1, eF1, lF1, rF1⟩ := mkq Q6 Z4 lQ6 lZ4 (by decide)
        obtain ⟨F2, eF2, lF2, rF2⟩ := mkq F1 [48] lF1 (Nat.le_refl 1) (by decide)
        have E1 : ∀ w, Calls Tryz.prog 18 #[.int .i64 (badI q 1 n1 : Nat), .int .i64 2] w fun e w' => e = .returned (str (padL (badI q 1 n1) 2)) ∧ Below w.heap.size w w' := fun w => law_digits _ 2 (by have := badI_lt q 1 n1 nb1; omega) (by omega) w
        have lG1 := Nat.le_of_eq (pad_len2 (badI q 1 n1) (badI_lt q 1 n1 nb1))
        have E2 : ∀ w, Calls Tryz.prog 18 #[.int .i64 (badI q 2 n2 : Nat), .int .i64 2] w fun e w' => e = .returned (str (padL (badI q 2 n2) 2)) ∧ Below w.heap.size w w' := fun w => law_digits _ 2 (by have := badI_lt q 2 n2 nb2; omega) (by omega) w
        have lG2 := Nat.le_of_eq (pad_len2 (badI q 2 n2) (badI_lt q 2 n2 nb2))
        have E3 : ∀ w, Calls Tryz.prog 18 #[.int .i64 (badI q 3 n3 : Nat), .int .i64 2] w fun e w' => e = .returned (str (padL (badI q 3 n3) 2)) ∧ Below w.heap.size w w' := fun w => law_digits _ 2 (by have := badI_lt q 3 n3 nb3; omega) (by omega) w
        have lG3 := Nat.le_of_eq (pad_len2 (badI q 3 n3) (badI_lt q 3 n3 nb3))
        have E4 : ∀ w, Calls Tryz.prog 18 #[.int .i64 (badI q 4 n4 : Nat), .int .i64 2] w fun e w' => e = .returned (str (padL (badI q 4 n4) 2)) ∧ Below w.heap.size w w' := fun w => law_digits _ 2 (by have := badI_lt q 4 n4 nb4; omega) (by omega) w
        have lG4 := Nat.le_of_eq (pad_len2 (badI q 4 n4) (badI_lt q 4 n4 nb4))
        have E5 : ∀ w, Calls Tryz.prog 18 #[.int .i64 (badI q 5 n5 : Nat), .int .i64 2] w fun e w' => e = .returned (str (padL (badI q 5 n5) 2)) ∧ Below w.heap.size w w' := fun w => law_digits _ 2 (by have := badI_lt q 5 n5 nb5; omega) (by omega) w
        have lG5 := Nat.le_of_eq (pad_len2 (badI q 5 n5) (badI_lt q 5 n5 nb5))
        unfold str at E1 E2 E3 E4 E5
        generalize hGe1 : padL (badI q 1 n1) 2 = G1 at *
        replace hGe1 := Lib.hid hGe1
        generalize hGe2 : padL (badI q 2 n2) 2 = G2 at *
        replace hGe2 := Lib.hid hGe2
        generalize hGe3 : padL (badI q 3 n3) 2 = G3 at *
        replace hGe3 := Lib.hid hGe3
        generalize hGe4 : padL (badI q 4 n4) 2 = G4 at *
        replace hGe4 := Lib.hid hGe4
        generalize hGe5 : padL (badI q 5 n5) 2 = G5 at *
        replace hGe5 := Lib.hid hGe5
        obtain ⟨Y1, eY1, lY1, rY1⟩ := mkq Q1 G1 lQ1 lG1 (by decide)
        obtain ⟨Y2, eY2, lY2, rY2⟩ := mkq Y1 G2 lY1 lG2 (by decide)
        obtain ⟨Y3, eY3, lY3, rY3⟩ := mkq Y2 G3 lY2 lG3 (by decide)
        obtain ⟨Y4, eY4, lY4, rY4⟩ := mkq Y3 G4 lY3 lG4 (by decide)
        obtain ⟨Y5, eY5, lY5, rY5⟩ := mkq Y4 G5 lY4 lG5 (by decide)
        obtain ⟨Y6, eY6, lY6, rY6⟩ := mkq Y5 Z4 lY5 lZ4 (by decide)
        have eq6 : Q6 = numText n0 n1 n2 n3 n4 n5 := by rw [eQ6.out, eQ5.out, eQ4.out, eQ3.out, eQ2.out, eQ1.out, hnt.out]
        have ev10 : V10 = wantText n0 n1 n2 n3 n4 n5 := by rw [eV10.out, eV9.out, eV8.out, eV7.out, eV6.out, eV5.out, eV4.out, eV3.out, eV2.out, eV1.out, hwt.out]
        have ey5 : Y5 = numText n0 (badI q 1 n1) (badI q 2 n2) (badI q 3 n3) (badI q 4 n4) (badI q 5 n5) := by
          unfold numText
          rw [eY5.out, eY4.out, eY3.out, eY2.out, eY1.out, eQ1.out, hPe0.out, hGe1.out, hGe2.out, hGe3.out, hGe4.out, hGe5.out]
        have bd : ∀ i n, n < 100 → badI q i n < 100 := badI_lt q
        have bo := bad_out q hq n0 n1 n2 n3 n4 n5
        have ez : Z4 = ([43] ++ padL hN 2 ++ [39] ++ padL mN 2 ++ [39]) := by rw [eZ4.out, eZ3.out, eZ2.out, eZ1.out, hHe.out, hMe.out]
        have sgn : (43 : UInt8) = 43 ∨ (43 : UInt8) = 45 := by decide
        have v1 : dateS F1 = (X4, true) := by
          rw [eF1.out, eX4.out, eX3.out, eX2.out, eX1.out, ez, eq6, ev10, date_txt n0 n1 n2 n3 n4 n5 nb0 nb1 nb2 nb3 nb4 nb5 _ ([43] ++ padL hN 2 ++ [58] ++ padL mN 2) true ((txt_s n0 n1 n2 n3 n4 n5 nb0 nb1 nb2 nb3 nb4 nb5 hN mN hi4 mi4 43 sgn [39]).trans (by simp)), hin.out, ← hHe.out, ← hMe.out]; simp
        have v3 : dateS F2 = ([], false) := by
          rw [eF2.out, eF1.out, ez, eq6, List.append_assoc, List.append_assoc _ [39] [48], date_txt n0 n1 n2 n3 n4 n5 nb0 nb1 nb2 nb3 nb4 nb5 _ [] false ((txt_s n0 n1 n2 n3 n4 n5 nb0 nb1 nb2 nb3 nb4 nb5 hN mN hi4 mi4 43 sgn ([39] ++ [48])).trans (by simp)), hin.out]; rfl
        have v2 : dateS Y6 = ([], false) := by
          rw [eY6.out, ey5, ez, date_txt _ _ _ _ _ _ nb0 (bd 1 n1 nb1) (bd 2 n2 nb2) (bd 3 n3 nb3) (bd 4 n4 nb4) (bd 5 n5 nb5) _ ([43] ++ padL hN 2 ++ [58] ++ padL mN 2) true ((txt_s _ _ _ _ _ _ nb0 (bd 1 n1 nb1) (bd 2 n2 nb2) (bd 3 n3 nb3) (bd 4 n4 nb4) (bd 5 n5 nb5) hN mN hi4 mi4 43 sgn [39]).trans (by simp)), bo]; rfl
        clear eq6 ev10 ey5 bd bo ez sgn
        replace v1 := Lib.hid v1
        replace v2 := Lib.hid v2
        replace v3 := Lib.hid v3
        go_wp2_with (first
          | (go_at_call 18; (with_reducible refine (DM _).mono ?_); rintro e wz4 ⟨rfl, hwz4⟩; have Bwz4 := Lib.hid ((Bwz3.out).trans (hwz4.mono (Bwz3.out).size)); clear hwz4; obtain ⟨cc1, wc1, cv1, bb1, dc1⟩ := date_of wz4 F1 (by omega); rw [v1.out] at dc1; replace dc1 := Lib.hid dc1; replace bb1 := Lib.hid bb1; unfold str at dc1)
          | (go_at_call 18; (with_reducible refine (DH _).mono ?_); rintro e wz3 ⟨rfl, hwz3⟩; have Bwz3 := Lib.hid ((Bwz2.out).trans (hwz3.mono (Bwz2.out).size)); clear hwz3)
          | (go_at_call 18; (with_reducible refine (DM _).mono ?_); rintro e wz2 ⟨rfl, hwz2⟩; have Bwz2 := Lib.hid ((Bwz1.out).trans (hwz2.mono (Bwz1.out).size)); clear hwz2)
          | (go_at_call 18; (with_reducible refine (DH _).mono ?_); rintro e wz1 ⟨rfl, hwz1⟩; have Bwz1 := Lib.hid ((Bwb5.out).trans (hwz1.mono (Bwb5.out).size)); clear hwz1)
          | (go_at_call 19; (with_reducible refine dc1.out.mono ?_); rintro e wd1 ⟨rfl, hd1⟩; have Bd1 := Lib.hid (Bwz4.out.trans (hd1.mono Bwz4.out.size)); obtain ⟨⟨m0, m1, m2, m3, m4, m5⟩, hbh, hbb⟩ := kp.out _ Bd1.out; have hic := hi_cell hbh q hq; have hlt1 := hbh.lt; replace hbb := Lib.hid hbb; obtain ⟨⟨u, hu⟩, hf, hBad⟩ := bad_cells (w := wd1) (n0 := n0) (n1 := n1) (n2 := n2) (n3 := n3) (n4 := n4) (n5 := n5) q hq; obtain ⟨z0, z1, z2, z3, z4, z5⟩ := cells6 hBad; have kb := Lib.hid (fun (w' : World) (hb : Below (wd1.alloc (.cells (([Value.int .i64 (n0 : Nat), .int .i64 (n1 : Nat), .int .i64 (n2 : Nat), .int .i64 (n3 : Nat), .int .i64 (n4 : Nat), .int .i64 (n5 : Nat)] : List Value).set (1 + q) (.int .i64 ((hvD q : Nat) + 1))).toArray 48)).heap.size (wd1.alloc (.cells (([Value.int .i64 (n0 : Nat), .int .i64 (n1 : Nat), .int .i64 (n2 : Nat), .int .i64 (n3 : Nat), .int .i64 (n4 : Nat), .int .i64 (n5 : Nat)] : List Value).set (1 + q) (.int .i64 ((hvD q : Nat) + 1))).toArray 48)) w') => bad_keep hBad (hbb.out.alloc hbb.out.size _) hb); clear hd1 hbh hBad))
        generalize hX : wd1.alloc (.cells (([Value.int .i64 (n0 : Nat), .int .i64 (n1 : Nat), .int .i64 (n2 : Nat), .int .i64 (n3 : Nat), .int .i64 (n4 : Nat), .int .i64 (n5 : Nat)] : List Value).set (1 + q) (.int .i64 ((hvD q : Nat) + 1))).toArray 48) = X at *
        replace hX := Lib.hid hX
        go_region_held (fun w' => w'.cell? ⟨wd1.heap.size, 0, none⟩ = some (.int .i64 (n0 : Nat)) ∧ w'.cell? ⟨wd1.heap.size, 1, none⟩ = some (.int .i64 (badI q 1 n1 : Nat)) ∧ w'.cell? ⟨wd1.heap.size, 2, none⟩ = some (.int .i64 (badI q 2 n2 : Nat)) ∧ w'.cell? ⟨wd1.heap.size, 3, none⟩ = some (.int .i64 (badI q 3 n3 : Nat)) ∧ w'.cell? ⟨wd1.heap.size, 4, none⟩ = some (.int .i64 (badI q 4 n4 : Nat)) ∧ w'.cell? ⟨wd1.heap.size, 5, none⟩ = some (.int .i64 (badI q 5 n5 : Nat)))
          (first | (with_reducible exact kwc0) | (with_reducible exact kwc1) | (with_reducible exact kwc2) | (with_reducible exact kwc3) | (with_reducible exact kwc4) | (with_reducible exact kwc5) | (with_reducible exact kx2) | (with_reducible exact kd2) | go_keep)
          (first
          | (go_at_call 18; (with_reducible refine (D0 _).mono ?_); rintro e wx0 ⟨rfl, hwx0⟩; have Bwx0 := Lib.hid (((Below.refl X.heap.size X).drew).trans (hwx0.mono ((Below.refl X.heap.size X).drew).size)); have kwc0 := (kb.out _ Bwx0.out).1; clear hwx0)
          | (go_at_call 18; (with_reducible refine (E1 _).mono ?_); rintro e wx1 ⟨rfl, hwx1⟩; have Bwx1 := Lib.hid ((Bwx0.out).trans (hwx1.mono (Bwx0.out).size)); have kwc1 := (kb.out _ Bwx1.out).1; clear hwx1)
          | (go_at_call 18; (with_reducible refine (E2 _).mono ?_); rintro e wx2 ⟨rfl, hwx2⟩; have Bwx2 := Lib.hid ((Bwx1.out).trans (hwx2.mono (Bwx1.out).size)); have kwc2 := (kb.out _ Bwx2.out).1; clear hwx2)
          | (go_at_call 18; (with_reducible refine (E3 _).mono ?_); rintro e wx3 ⟨rfl, hwx3⟩; have Bwx3 := Lib.hid ((Bwx2.out).trans (hwx3.mono (Bwx2.out).size)); have kwc3 := (kb.out _ Bwx3.out).1; clear hwx3)
          | (go_at_call 18; (with_reducible refine (E4 _).mono ?_); rintro e wx4 ⟨rfl, hwx4⟩; have Bwx4 := Lib.hid ((Bwx3.out).trans (hwx4.mono (Bwx3.out).size)); have kwc4 := (kb.out _ Bwx4.out).1; clear hwx4)
          | (go_at_call 18; (with_reducible refine (E5 _).mono ?_); rintro e wx5 ⟨rfl, hwx5⟩; have Bwx5 := Lib.hid ((Bwx4.out).trans (hwx5.mono (Bwx4.out).size)); have kwc5 := (kb.out _ Bwx5.out).1; clear hwx5; obtain ⟨cc2, wc2, cv2, bb2, dc2⟩ := date_of wx5 Y6 (by omega); rw [v2.out] at dc2; have kx2 := (kb.out _ (Bwx5.out.trans (bb2.mono Bwx5.out.size))).1; replace dc2 := Lib.hid dc2; replace bb2 := Lib.hid bb2; unfold str at dc2)
          | (go_at_call 19; (with_reducible refine dc2.out.mono ?_); rintro e wd2 ⟨rfl, hd2⟩; have Bd2 := Lib.hid (Bwx5.out.trans (hd2.mono Bwx5.out.size)); have kd2 := (kb.out _ Bd2.out).1; obtain ⟨cc3, wc3, cv3, bb3, dc3⟩ := date_of wd2 F2 (by omega); rw [v3.out] at dc3; replace dc3 := Lib.hid dc3; replace bb3 := Lib.hid bb3; unfold str at dc3; clear hd2))
        go_wp2_with (go_at_call 19; (with_reducible refine dc3.out.mono ?_); rintro e wd3 ⟨rfl, hd3⟩; have Bd3 := Lib.hid (kb.out _ (Bd2.out.trans (hd3.mono Bd2.out.size))).2; clear hd3)
        go_ret
        exact ⟨rfl, Bd3.out⟩
end Go.Proofs.YtkpikpaepgknnaaGreatDoor

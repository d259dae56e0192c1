/- Paint: two matrices, by the program. No condition. -/
import Derived.Test.YtjlomalpmlgjbaaGreatDoorPmApply
import Derived.Test.YtjlomalpmlgjbaaGreatDoorBlk
import Derived.Deep.RegionHeld3
import Derived.Deep.DrawnRows
import Derived.WalkKit
namespace Go.Proofs.YtjlomalpmlgjbaaGreatDoor
open Go Go.RowKit Go.Wk
attribute [local go_sem ↓] Go.wp_at_zero Go.wp_at_succ
def mN (a b : Nat → Int) (k : Nat) : Int := dotN (a (k/2*2)) (b (k%2)) (a (k/2*2+1)) (b (2+k%2)) (if k/2*2 = 4 then b k else 0)
def mB (a b : Nat → Int) (k : Nat) : Bool := dotB (a (k/2*2)) (b (k%2)) (a (k/2*2+1)) (b (2+k%2)) (if k/2*2 = 4 then b k else 0)
def okM (a b : Nat → Int) : Bool := mB a b 0 && mB a b 1 && mB a b 2 && mB a b 3 && mB a b 4 && mB a b 5
def nought : Array Value := #[.int .i64 0, .int .i64 0, .int .i64 0, .int .i64 0, .int .i64 0, .int .i64 0]
def matR (a b : Nat → Int) : Array Value := if okM a b then mat (mN a b) else nought
/-- what is laid of the product behind k rounds -/
def part (m : Nat → Int) (k : Nat) : Array Value := ((List.range 6).map fun i => Value.int .i64 (if i < k then m i else 0)).toArray
structure At (a b : Nat → Int) (N : Nat) (t : Nat) (w wr : World) (k : Nat) : Prop where
  b0 : Below N w wr
  b1 : Blk wr N t (mat a)
  b2 : Blk wr (N + 1) t (mat b)
  b3 : Blk wr (N + 2) t nought
  b4 : Blk wr (N + 3) t (part (mN a b) k)
  ok : ∀ j, j < k → mB a b j = true
theorem At.move {a b : Nat → Int} {N t : Nat} {w wr w1 : World} {k : Nat} (h : At a b N t w wr k) (hb : Below wr.heap.size wr w1) : At a b N t w w1 k :=
  have l4 := h.b4.lt
  ⟨h.b0.trans (hb.mono (by omega)), h.b1.below hb h.b1.lt, h.b2.below hb h.b2.lt, h.b3.below hb h.b3.lt, h.b4.below hb h.b4.lt, h.ok⟩
theorem part_set (m : Nat → Int) (k : Nat) (hk : k < 6) : (part m k).setIfInBounds k (.int .i64 (m k)) = part m (k + 1) := by
  have : k = 0 ∨ k = 1 ∨ k = 2 ∨ k = 3 ∨ k = 4 ∨ k = 5 := by omega
  rcases this with rfl | rfl | rfl | rfl | rfl | rfl <;> rfl
theorem At.step {a b : Nat → Int} {N t : Nat} {w wr : World} {k : Nat} (h : At a b N t w wr k) (hk : k < 6) (hm : mB a b k = true) : At a b N t w (wr.setCell ⟨N + 3, k, none⟩ (.int .i64 (mN a b k))) (k + 1) :=
  ⟨h.b0.setCell (by show N ≤ N + 3; omega) _, h.b1.far (by show N ≠ N + 3; omega) _, h.b2.far (by show N + 1 ≠ N + 3; omega) _, h.b3.far (by show N + 2 ≠ N + 3; omega) _,
    by have := h.b4.set_ k (.int .i64 (mN a b k)); rw [part_set _ k hk] at this; exact this, fun j hj => by
      rcases Nat.lt_or_ge j k with h1 | h1
      · exact h.ok j h1
      · obtain rfl : j = k := by omega
        exact hm⟩
theorem six_set {w : World} {g t : Nat} {c0 c1 c2 c3 c4 c5 : Value} (h : Blk w g t #[c0, c1, c2, c3, c4, c5]) (v0 v1 v2 v3 v4 v5 : Value) :
    Blk ((((((w.setCell ⟨g, 0, none⟩ v0).setCell ⟨g, 1, none⟩ v1).setCell ⟨g, 2, none⟩ v2).setCell ⟨g, 3, none⟩ v3).setCell ⟨g, 4, none⟩ v4).setCell ⟨g, 5, none⟩ v5) g t #[v0, v1, v2, v3, v4, v5] :=
  (((((h.set_ 0 v0).set_ 1 v1).set_ 2 v2).set_ 3 v3).set_ 4 v4).set_ 5 v5
theorem six_below {B : Nat} {w w1 : World} {g : Nat} (h : Below B w w1) (hg : B ≤ g) (v0 v1 v2 v3 v4 v5 : Value) :
    Below B w ((((((w1.setCell ⟨g, 0, none⟩ v0).setCell ⟨g, 1, none⟩ v1).setCell ⟨g, 2, none⟩ v2).setCell ⟨g, 3, none⟩ v3).setCell ⟨g, 4, none⟩ v4).setCell ⟨g, 5, none⟩ v5) :=
  (((((h.setCell hg v0).setCell hg v1).setCell hg v2).setCell hg v3).setCell hg v4).setCell hg v5
theorem bp6 {P : Program} {fn : Func} {g t : Nat} {c0 c1 c2 c3 c4 c5 : Value} {a : Act} {w : World} {Q : Ending → World → Prop} {e : Exit} (hb : Blk w g t #[c0, c1, c2, c3, c4, c5])
    (h : ∀ w9 : World, w9.cell? ⟨g, 0, none⟩ = some c0 → w9.cell? ⟨g, 1, none⟩ = some c1 → w9.cell? ⟨g, 2, none⟩ = some c2 → w9.cell? ⟨g, 3, none⟩ = some c3 → w9.cell? ⟨g, 4, none⟩ = some c4 → w9.cell? ⟨g, 5, none⟩ = some c5 → Hid (w9 = w) → bodyPost P fn Q e a w9) : bodyPost P fn Q e a w :=
  h w (hb.cell 0) (hb.cell 1) (hb.cell 2) (hb.cell 3) (hb.cell 4) (hb.cell 5) (Lib.hid rfl)
theorem at_start (a b : Nat → Int) (t : Nat) (w : World) : At a b w.heap.size t w ((((w.alloc (.cells (mat a) t)).alloc (.cells (mat b) t)).alloc (.cells nought t)).alloc (.cells nought t)) 0 := by
  have s1 : (w.alloc (.cells (mat a) t)).heap.size = w.heap.size + 1 := size_al _ _
  have s2 : ((w.alloc (.cells (mat a) t)).alloc (.cells (mat b) t)).heap.size = w.heap.size + 2 := by rw [size_al, s1]
  have s3 : (((w.alloc (.cells (mat a) t)).alloc (.cells (mat b) t)).alloc (.cells nought t)).heap.size = w.heap.size + 3 := by rw [size_al, s2]
  refine ⟨((((Below.refl _ _).alloc (Nat.le_refl _) _).alloc (by omega) _).alloc (by omega) _).alloc (by omega) _, (((Blk.new _ _ _).alloc _).alloc _).alloc _, ?_, ?_, ?_, fun j h => absurd h (by omega)⟩
  · have := Blk.new (w.alloc (.cells (mat a) t)) t (mat b); rw [s1] at this; exact (this.alloc _).alloc _
  · have := Blk.new ((w.alloc (.cells (mat a) t)).alloc (.cells (mat b) t)) t nought; rw [s2] at this; exact this.alloc _
  · have := Blk.new (((w.alloc (.cells (mat a) t)).alloc (.cells (mat b) t)).alloc (.cells nought t)) t nought; rw [s3] at this; exact this
theorem keep5 {w w1 : World} {p q r s u : Addr} {a b c d e : Value} (h : Below w.heap.size w w1) (h0 : w.cell? p = some a) (h1 : w.cell? q = some b) (h2 : w.cell? r = some c) (h3 : w.cell? s = some d) (h4 : w.cell? u = some e) :
    w1.cell? p = some a ∧ w1.cell? q = some b ∧ w1.cell? r = some c ∧ w1.cell? s = some d :=
  ⟨(h.cell (cell_lt h0)).trans h0, (h.cell (cell_lt h1)).trans h1, (h.cell (cell_lt h2)).trans h2, (h.cell (cell_lt h3)).trans h3⟩
set_option maxHeartbeats 1000000 in
set_option maxRecDepth 100000 in
theorem paint_Mul (a b : Nat → Int) (ha : ∀ i, i64 (a i)) (hb : ∀ i, i64 (b i)) (w : World) : Calls Tryz.prog 5 #[.agg (mat a), .agg (mat b)] w fun r w' => r = .returned (.tuple #[.agg (matR a b), .bool (okM a b)]) ∧ Below w.heap.size w w' := by
  generalize hR : matR a b = R
  generalize hO : okM a b = O
  replace hR := Lib.hid hR
  replace hO := Lib.hid hO
  go_enter Tryz.func5, Tryz.ntmps5
  go_wp2
  go_loopw [12] (fun i wr => ∃ (k : Nat) (z : Int), z = k ∧ k ≤ 6 ∧ i = .int .i64 z ∧ At a b w.heap.size 26 w wr k) (fun i _ => (6 - (intOf i).toNat))
  case atStart => exact ⟨0, 0, rfl, by omega, rfl, at_start a b 26 w⟩
  case round =>
    obtain ⟨k, z, hz, hk, rfl, hat⟩ := hrel
    by_cases hlt : k < 6
    · have h6 : k = 0 ∨ k = 1 ∨ k = 2 ∨ k = 3 ∨ k = 4 ∨ k = 5 := by omega
      replace hat := Lib.hid hat
      rcases h6 with rfl | rfl | rfl | rfl | rfl | rfl
      · obtain rfl : z = 0 := by simpa using hz
        clear hz hk hlt
        have c := fun w => paint_dot (a 0) (b 0) (a 1) (b 2) 0 (ha _) (hb _) (ha _) (hb _) w
        have e0 : wr.cell? ⟨w.heap.size, 0, none⟩ = some (.int .i64 (a 0)) := hat.out.b1.cell 0
        have e1 : wr.cell? ⟨w.heap.size, 1, none⟩ = some (.int .i64 (a 1)) := hat.out.b1.cell 1
        have f0 : wr.cell? ⟨w.heap.size + 1, 0, none⟩ = some (.int .i64 (b 0)) := hat.out.b2.cell 0
        have f2 : wr.cell? ⟨w.heap.size + 1, 2, none⟩ = some (.int .i64 (b 2)) := hat.out.b2.cell 2
        have g0 : wr.cell? ⟨w.heap.size + 1, 0, none⟩ = some (.int .i64 (b 0)) := hat.out.b2.cell 0
        clear ha hb
        generalize hX : dotN (a 0) (b 0) (a 1) (b 2) 0 = X at *
        generalize hY : dotB (a 0) (b 0) (a 1) (b 2) 0 = Y at *
        replace hX := Lib.hid (show mN a b 0 = X from hX)
        replace hY := Lib.hid (show mB a b 0 = Y from hY)
        go_wp2
        have kp := Lib.hid fun (w1 : World) (h : Below wr.heap.size wr w1) => keep5 h e0 e1 f0 f2 g0
        have wr1 : IntKind.i64.wrap 1 = 1 := by decide
        have wr2 : IntKind.i64.wrap 2 = 2 := by decide
        have wr3 : IntKind.i64.wrap 3 = 3 := by decide
        have wr4 : IntKind.i64.wrap 4 = 4 := by decide
        have wr5 : IntKind.i64.wrap 5 = 5 := by decide
        go_region_held3 (fun w' => w'.cell? ⟨w.heap.size, 0, none⟩ = some (.int .i64 (a 0)) ∧ w'.cell? ⟨w.heap.size, 1, none⟩ = some (.int .i64 (a 1)) ∧ w'.cell? ⟨w.heap.size + 1, 0, none⟩ = some (.int .i64 (b 0)) ∧ w'.cell? ⟨w.heap.size + 1, 2, none⟩ = some (.int .i64 (b 2)))
          (first | go_keep | exact ⟨k0, k1, k2, k3⟩)
          ((go_at_call 13; (with_reducible refine (c _).mono ?_); rintro e w1 ⟨rfl, hw1⟩; obtain ⟨k0, k1, k2, k3⟩ := kp.out _ ((Below.refl wr.heap.size wr).drew.trans hw1)))
        have hb1 : Below wr.heap.size wr w1 := (Below.refl wr.heap.size wr).drew.trans hw1
        have hat1 := Lib.hid (hat.out.move hb1)
        clear hw1 k0 k1 k2 k3 c e0 e1 f0 f2 g0 kp
        have q0 : w1.cell? ⟨w.heap.size + 1 + 1 + 1, 0, none⟩ = some (.int .i64 0) := hat1.out.b4.cell 0
        have q1 : w1.frozen? ⟨w.heap.size + 1 + 1 + 1, 0, none⟩ = false := hat1.out.b4.frozen 0
        have z0 : w1.cell? ⟨w.heap.size + 1 + 1, 0, none⟩ = some (.int .i64 0) := hat1.out.b3.cell 0
        have z1 : w1.cell? ⟨w.heap.size + 1 + 1, 1, none⟩ = some (.int .i64 0) := hat1.out.b3.cell 1
        have z2 : w1.cell? ⟨w.heap.size + 1 + 1, 2, none⟩ = some (.int .i64 0) := hat1.out.b3.cell 2
        have z3 : w1.cell? ⟨w.heap.size + 1 + 1, 3, none⟩ = some (.int .i64 0) := hat1.out.b3.cell 3
        have z4 : w1.cell? ⟨w.heap.size + 1 + 1, 4, none⟩ = some (.int .i64 0) := hat1.out.b3.cell 4
        have z5 : w1.cell? ⟨w.heap.size + 1 + 1, 5, none⟩ = some (.int .i64 0) := hat1.out.b3.cell 5
        have zf := hat1.out.b3.frozen
        cases Y with
        | true =>
          go_wp2
          refine ⟨⟨1, 1, by simp, by omega, rfl, ?_⟩, by simp [intOf]⟩
          have h := hat1.out.step (by omega) hY.out
          rw [hX.out] at h
          exact h
        | false =>
          go_wp2
          have hb0 := six_below hat1.out.b0 (g := w.heap.size + 1 + 1) (by omega) (.int .i64 0) (.int .i64 0) (.int .i64 0) (.int .i64 0) (.int .i64 0) (.int .i64 0)
          have hz := six_set hat1.out.b3 (.int .i64 0) (.int .i64 0) (.int .i64 0) (.int .i64 0) (.int .i64 0) (.int .i64 0)
          have hz : Blk _ (w.heap.size + 1 + 1) 26 _ := hz
          refine bp6 hz ?_
          intro w9 r0 r1 r2 r3 r4 r5 hw9
          refine bodyPost_ret (by simp [results, Tryz.results5, go_sem, r0, r1, r2, r3, r4, r5]; try rfl) rfl ⟨?_, by rw [hw9.out]; exact hb0⟩
          rw [← hR.out, ← hO.out, show okM a b = false by simp [okM, hY.out], matR, show okM a b = false by simp [okM, hY.out]]; rfl
      · obtain rfl : z = 1 := by simpa using hz
        clear hz hk hlt
        have c := fun w => paint_dot (a 0) (b 1) (a 1) (b 3) 0 (ha _) (hb _) (ha _) (hb _) w
        have e0 : wr.cell? ⟨w.heap.size, 0, none⟩ = some (.int .i64 (a 0)) := hat.out.b1.cell 0
        have e1 : wr.cell? ⟨w.heap.size, 1, none⟩ = some (.int .i64 (a 1)) := hat.out.b1.cell 1
        have f0 : wr.cell? ⟨w.heap.size + 1, 1, none⟩ = some (.int .i64 (b 1)) := hat.out.b2.cell 1
        have f2 : wr.cell? ⟨w.heap.size + 1, 3, none⟩ = some (.int .i64 (b 3)) := hat.out.b2.cell 3
        have g0 : wr.cell? ⟨w.heap.size + 1, 1, none⟩ = some (.int .i64 (b 1)) := hat.out.b2.cell 1
        clear ha hb
        generalize hX : dotN (a 0) (b 1) (a 1) (b 3) 0 = X at *
        generalize hY : dotB (a 0) (b 1) (a 1) (b 3) 0 = Y at *
        replace hX := Lib.hid (show mN a b 1 = X from hX)
        replace hY := Lib.hid (show mB a b 1 = Y from hY)
        go_wp2
        have kp := Lib.hid fun (w1 : World) (h : Below wr.heap.size wr w1) => keep5 h e0 e1 f0 f2 g0
        have wr1 : IntKind.i64.wrap 1 = 1 := by decide
        have wr2 : IntKind.i64.wrap 2 = 2 := by decide
        have wr3 : IntKind.i64.wrap 3 = 3 := by decide
        have wr4 : IntKind.i64.wrap 4 = 4 := by decide
        have wr5 : IntKind.i64.wrap 5 = 5 := by decide
        go_region_held3 (fun w' => w'.cell? ⟨w.heap.size, 0, none⟩ = some (.int .i64 (a 0)) ∧ w'.cell? ⟨w.heap.size, 1, none⟩ = some (.int .i64 (a 1)) ∧ w'.cell? ⟨w.heap.size + 1, 1, none⟩ = some (.int .i64 (b 1)) ∧ w'.cell? ⟨w.heap.size + 1, 3, none⟩ = some (.int .i64 (b 3)))
          (first | go_keep | exact ⟨k0, k1, k2, k3⟩)
          ((go_at_call 13; (with_reducible refine (c _).mono ?_); rintro e w1 ⟨rfl, hw1⟩; obtain ⟨k0, k1, k2, k3⟩ := kp.out _ ((Below.refl wr.heap.size wr).drew.trans hw1)))
        have hb1 : Below wr.heap.size wr w1 := (Below.refl wr.heap.size wr).drew.trans hw1
        have hat1 := Lib.hid (hat.out.move hb1)
        clear hw1 k0 k1 k2 k3 c e0 e1 f0 f2 g0 kp
        have q0 : w1.cell? ⟨w.heap.size + 1 + 1 + 1, 1, none⟩ = some (.int .i64 0) := hat1.out.b4.cell 1
        have q1 : w1.frozen? ⟨w.heap.size + 1 + 1 + 1, 1, none⟩ = false := hat1.out.b4.frozen 1
        have z0 : w1.cell? ⟨w.heap.size + 1 + 1, 0, none⟩ = some (.int .i64 0) := hat1.out.b3.cell 0
        have z1 : w1.cell? ⟨w.heap.size + 1 + 1, 1, none⟩ = some (.int .i64 0) := hat1.out.b3.cell 1
        have z2 : w1.cell? ⟨w.heap.size + 1 + 1, 2, none⟩ = some (.int .i64 0) := hat1.out.b3.cell 2
        have z3 : w1.cell? ⟨w.heap.size + 1 + 1, 3, none⟩ = some (.int .i64 0) := hat1.out.b3.cell 3
        have z4 : w1.cell? ⟨w.heap.size + 1 + 1, 4, none⟩ = some (.int .i64 0) := hat1.out.b3.cell 4
        have z5 : w1.cell? ⟨w.heap.size + 1 + 1, 5, none⟩ = some (.int .i64 0) := hat1.out.b3.cell 5
        have zf := hat1.out.b3.frozen
        cases Y with
        | true =>
          go_wp2
          refine ⟨⟨2, 2, by simp, by omega, rfl, ?_⟩, by simp [intOf]⟩
          have h := hat1.out.step (by omega) hY.out
          rw [hX.out] at h
          exact h
        | false =>
          go_wp2
          have hb0 := six_below hat1.out.b0 (g := w.heap.size + 1 + 1) (by omega) (.int .i64 0) (.int .i64 0) (.int .i64 0) (.int .i64 0) (.int .i64 0) (.int .i64 0)
          have hz := six_set hat1.out.b3 (.int .i64 0) (.int .i64 0) (.int .i64 0) (.int .i64 0) (.int .i64 0) (.int .i64 0)
          have hz : Blk _ (w.heap.size + 1 + 1) 26 _ := hz
          refine bp6 hz ?_
          intro w9 r0 r1 r2 r3 r4 r5 hw9
          refine bodyPost_ret (by simp [results, Tryz.results5, go_sem, r0, r1, r2, r3, r4, r5]; try rfl) rfl ⟨?_, by rw [hw9.out]; exact hb0⟩
          rw [← hR.out, ← hO.out, show okM a b = false by simp [okM, hY.out], matR, show okM a b = false by simp [okM, hY.out]]; rfl
      · obtain rfl : z = 2 := by simpa using hz
        clear hz hk hlt
        have c := fun w => paint_dot (a 2) (b 0) (a 3) (b 2) 0 (ha _) (hb _) (ha _) (hb _) w
        have e0 : wr.cell? ⟨w.heap.size, 2, none⟩ = some (.int .i64 (a 2)) := hat.out.b1.cell 2
        have e1 : wr.cell? ⟨w.heap.size, 3, none⟩ = some (.int .i64 (a 3)) := hat.out.b1.cell 3
        have f0 : wr.cell? ⟨w.heap.size + 1, 0, none⟩ = some (.int .i64 (b 0)) := hat.out.b2.cell 0
        have f2 : wr.cell? ⟨w.heap.size + 1, 2, none⟩ = some (.int .i64 (b 2)) := hat.out.b2.cell 2
        have g0 : wr.cell? ⟨w.heap.size + 1, 2, none⟩ = some (.int .i64 (b 2)) := hat.out.b2.cell 2
        clear ha hb
        generalize hX : dotN (a 2) (b 0) (a 3) (b 2) 0 = X at *
        generalize hY : dotB (a 2) (b 0) (a 3) (b 2) 0 = Y at *
        replace hX := Lib.hid (show mN a b 2 = X from hX)
        replace hY := Lib.hid (show mB a b 2 = Y from hY)
        go_wp2
        have kp := Lib.hid fun (w1 : World) (h : Below wr.heap.size wr w1) => keep5 h e0 e1 f0 f2 g0
        have wr1 : IntKind.i64.wrap 1 = 1 := by decide
        have wr2 : IntKind.i64.wrap 2 = 2 := by decide
        have wr3 : IntKind.i64.wrap 3 = 3 := by decide
        have wr4 : IntKind.i64.wrap 4 = 4 := by decide
        have wr5 : IntKind.i64.wrap 5 = 5 := by decide
        go_region_held3 (fun w' => w'.cell? ⟨w.heap.size, 2, none⟩ = some (.int .i64 (a 2)) ∧ w'.cell? ⟨w.heap.size, 3, none⟩ = some (.int .i64 (a 3)) ∧ w'.cell? ⟨w.heap.size + 1, 0, none⟩ = some (.int .i64 (b 0)) ∧ w'.cell? ⟨w.heap.size + 1, 2, none⟩ = some (.int .i64 (b 2)))
          (first | go_keep | exact ⟨k0, k1, k2, k3⟩)
          ((go_at_call 13; (with_reducible refine (c _).mono ?_); rintro e w1 ⟨rfl, hw1⟩; obtain ⟨k0, k1, k2, k3⟩ := kp.out _ ((Below.refl wr.heap.size wr).drew.trans hw1)))
        have hb1 : Below wr.heap.size wr w1 := (Below.refl wr.heap.size wr).drew.trans hw1
        have hat1 := Lib.hid (hat.out.move hb1)
        clear hw1 k0 k1 k2 k3 c e0 e1 f0 f2 g0 kp
        have q0 : w1.cell? ⟨w.heap.size + 1 + 1 + 1, 2, none⟩ = some (.int .i64 0) := hat1.out.b4.cell 2
        have q1 : w1.frozen? ⟨w.heap.size + 1 + 1 + 1, 2, none⟩ = false := hat1.out.b4.frozen 2
        have z0 : w1.cell? ⟨w.heap.size + 1 + 1, 0, none⟩ = some (.int .i64 0) := hat1.out.b3.cell 0
        have z1 : w1.cell? ⟨w.heap.size + 1 + 1, 1, none⟩ = some (.int .i64 0) := hat1.out.b3.cell 1
        have z2 : w1.cell? ⟨w.heap.size + 1 + 1, 2, none⟩ = some (.int .i64 0) := hat1.out.b3.cell 2
        have z3 : w1.cell? ⟨w.heap.size + 1 + 1, 3, none⟩ = some (.int .i64 0) := hat1.out.b3.cell 3
        have z4 : w1.cell? ⟨w.heap.size + 1 + 1, 4, none⟩ = some (.int .i64 0) := hat1.out.b3.cell 4
        have z5 : w1.cell? ⟨w.heap.size + 1 + 1, 5, none⟩ = some (.int .i64 0) := hat1.out.b3.cell 5
        have zf := hat1.out.b3.frozen
        cases Y with
        | true =>
          go_wp2
          refine ⟨⟨3, 3, by simp, by omega, rfl, ?_⟩, by simp [intOf]⟩
          have h := hat1.out.step (by omega) hY.out
          rw [hX.out] at h
          exact h
        | false =>
          go_wp2
          have hb0 := six_below hat1.out.b0 (g := w.heap.size + 1 + 1) (by omega) (.int .i64 0) (.int .i64 0) (.int .i64 0) (.int .i64 0) (.int .i64 0) (.int .i64 0)
          have hz := six_set hat1.out.b3 (.int .i64 0) (.int .i64 0) (.int .i64 0) (.int .i64 0) (.int .i64 0) (.int .i64 0)
          have hz : Blk _ (w.heap.size + 1 + 1) 26 _ := hz
          refine bp6 hz ?_
          intro w9 r0 r1 r2 r3 r4 r5 hw9
          refine bodyPost_ret (by simp [results, Tryz.results5, go_sem, r0, r1, r2, r3, r4, r5]; try rfl) rfl ⟨?_, by rw [hw9.out]; exact hb0⟩
          rw [← hR.out, ← hO.out, show okM a b = false by simp [okM, hY.out], matR, show okM a b = false by simp [okM, hY.out]]; rfl
      · obtain rfl : z = 3 := by simpa using hz
        clear hz hk hlt
        have c := fun w => paint_dot (a 2) (b 1) (a 3) (b 3) 0 (ha _) (hb _) (ha _) (hb _) w
        have e0 : wr.cell? ⟨w.heap.size, 2, none⟩ = some (.int .i64 (a 2)) := hat.out.b1.cell 2
        have e1 : wr.cell? ⟨w.heap.size, 3, none⟩ = some (.int .i64 (a 3)) := hat.out.b1.cell 3
        have f0 : wr.cell? ⟨w.heap.size + 1, 1, none⟩ = some (.int .i64 (b 1)) := hat.out.b2.cell 1
        have f2 : wr.cell? ⟨w.heap.size + 1, 3, none⟩ = some (.int .i64 (b 3)) := hat.out.b2.cell 3
        have g0 : wr.cell? ⟨w.heap.size + 1, 3, none⟩ = some (.int .i64 (b 3)) := hat.out.b2.cell 3
        clear ha hb
        generalize hX : dotN (a 2) (b 1) (a 3) (b 3) 0 = X at *
        generalize hY : dotB (a 2) (b 1) (a 3) (b 3) 0 = Y at *
        replace hX := Lib.hid (show mN a b 3 = X from hX)
        replace hY := Lib.hid (show mB a b 3 = Y from hY)
        go_wp2
        have kp := Lib.hid fun (w1 : World) (h : Below wr.heap.size wr w1) => keep5 h e0 e1 f0 f2 g0
        have wr1 : IntKind.i64.wrap 1 = 1 := by decide
        have wr2 : IntKind.i64.wrap 2 = 2 := by decide
        have wr3 : IntKind.i64.wrap 3 = 3 := by decide
        have wr4 : IntKind.i64.wrap 4 = 4 := by decide
        have wr5 : IntKind.i64.wrap 5 = 5 := by decide
        go_region_held3 (fun w' => w'.cell? ⟨w.heap.size, 2, none⟩ = some (.int .i64 (a 2)) ∧ w'.cell? ⟨w.heap.size, 3, none⟩ = some (.int .i64 (a 3)) ∧ w'.cell? ⟨w.heap.size + 1, 1, none⟩ = some (.int .i64 (b 1)) ∧ w'.cell? ⟨w.heap.size + 1, 3, none⟩ = some (.int .i64 (b 3)))
          (first | go_keep | exact ⟨k0, k1, k2, k3⟩)
          ((go_at_call 13; (with_reducible refine (c _).mono ?_); rintro e w1 ⟨rfl, hw1⟩; obtain ⟨k0, k1, k2, k3⟩ := kp.out _ ((Below.refl wr.heap.size wr).drew.trans hw1)))
        have hb1 : Below wr.heap.size wr w1 := (Below.refl wr.heap.size wr).drew.trans hw1
        have hat1 := Lib.hid (hat.out.move hb1)
        clear hw1 k0 k1 k2 k3 c e0 e1 f0 f2 g0 kp
        have q0 : w1.cell? ⟨w.heap.size + 1 + 1 + 1, 3, none⟩ = some (.int .i64 0) := hat1.out.b4.cell 3
        have q1 : w1.frozen? ⟨w.heap.size + 1 + 1 + 1, 3, none⟩ = false := hat1.out.b4.frozen 3
        have z0 : w1.cell? ⟨w.heap.size + 1 + 1, 0, none⟩ = some (.int .i64 0) := hat1.out.b3.cell 0
        have z1 : w1.cell? ⟨w.heap.size + 1 + 1, 1, none⟩ = some (.int .i64 0) := hat1.out.b3.cell 1
        have z2 : w1.cell? ⟨w.heap.size + 1 + 1, 2, none⟩ = some (.int .i64 0) := hat1.out.b3.cell 2
        have z3 : w1.cell? ⟨w.heap.size + 1 + 1, 3, none⟩ = some (.int .i64 0) := hat1.out.b3.cell 3
        have z4 : w1.cell? ⟨w.heap.size + 1 + 1, 4, none⟩ = some (.int .i64 0) := hat1.out.b3.cell 4
        have z5 : w1.cell? ⟨w.heap.size + 1 + 1, 5, none⟩ = some (.int .i64 0) := hat1.out.b3.cell 5
        have zf := hat1.out.b3.frozen
        cases Y with
        | true =>
          go_wp2
          refine ⟨⟨4, 4, by simp, by omega, rfl, ?_⟩, by simp [intOf]⟩
          have h := hat1.out.step (by omega) hY.out
          rw [hX.out] at h
          exact h
        | false =>
          go_wp2
          have hb0 := six_below hat1.out.b0 (g := w.heap.size + 1 + 1) (by omega) (.int .i64 0) (.int .i64 0) (.int .i64 0) (.int .i64 0) (.int .i64 0) (.int .i64 0)
          have hz := six_set hat1.out.b3 (.int .i64 0) (.int .i64 0) (.int .i64 0) (.int .i64 0) (.int .i64 0) (.int .i64 0)
          have hz : Blk _ (w.heap.size + 1 + 1) 26 _ := hz
          refine bp6 hz ?_
          intro w9 r0 r1 r2 r3 r4 r5 hw9
          refine bodyPost_ret (by simp [results, Tryz.results5, go_sem, r0, r1, r2, r3, r4, r5]; try rfl) rfl ⟨?_, by rw [hw9.out]; exact hb0⟩
          rw [← hR.out, ← hO.out, show okM a b = false by simp [okM, hY.out], matR, show okM a b = false by simp [okM, hY.out]]; rfl
      · obtain rfl : z = 4 := by simpa using hz
        clear hz hk hlt
        have c := fun w => paint_dot (a 4) (b 0) (a 5) (b 2) (b 4) (ha _) (hb _) (ha _) (hb _) w
        have e0 : wr.cell? ⟨w.heap.size, 4, none⟩ = some (.int .i64 (a 4)) := hat.out.b1.cell 4
        have e1 : wr.cell? ⟨w.heap.size, 5, none⟩ = some (.int .i64 (a 5)) := hat.out.b1.cell 5
        have f0 : wr.cell? ⟨w.heap.size + 1, 0, none⟩ = some (.int .i64 (b 0)) := hat.out.b2.cell 0
        have f2 : wr.cell? ⟨w.heap.size + 1, 2, none⟩ = some (.int .i64 (b 2)) := hat.out.b2.cell 2
        have g0 : wr.cell? ⟨w.heap.size + 1, 4, none⟩ = some (.int .i64 (b 4)) := hat.out.b2.cell 4
        clear ha hb
        generalize hX : dotN (a 4) (b 0) (a 5) (b 2) (b 4) = X at *
        generalize hY : dotB (a 4) (b 0) (a 5) (b 2) (b 4) = Y at *
        replace hX := Lib.hid (show mN a b 4 = X from hX)
        replace hY := Lib.hid (show mB a b 4 = Y from hY)
        go_wp2
        have kp := Lib.hid fun (w1 : World) (h : Below wr.heap.size wr w1) => keep5 h e0 e1 f0 f2 g0
        have wr1 : IntKind.i64.wrap 1 = 1 := by decide
        have wr2 : IntKind.i64.wrap 2 = 2 := by decide
        have wr3 : IntKind.i64.wrap 3 = 3 := by decide
        have wr4 : IntKind.i64.wrap 4 = 4 := by decide
        have wr5 : IntKind.i64.wrap 5 = 5 := by decide
        go_region_held3 (fun w' => w'.cell? ⟨w.heap.size, 4, none⟩ = some (.int .i64 (a 4)) ∧ w'.cell? ⟨w.heap.size, 5, none⟩ = some (.int .i64 (a 5)) ∧ w'.cell? ⟨w.heap.size + 1, 0, none⟩ = some (.int .i64 (b 0)) ∧ w'.cell? ⟨w.heap.size + 1, 2, none⟩ = some (.int .i64 (b 2)))
          (first | go_keep | exact ⟨k0, k1, k2, k3⟩)
          ((go_at_call 13; (with_reducible refine (c _).mono ?_); rintro e w1 ⟨rfl, hw1⟩; obtain ⟨k0, k1, k2, k3⟩ := kp.out _ ((Below.refl wr.heap.size wr).drew.trans hw1)))
        have hb1 : Below wr.heap.size wr w1 := (Below.refl wr.heap.size wr).drew.trans hw1
        have hat1 := Lib.hid (hat.out.move hb1)
        clear hw1 k0 k1 k2 k3 c e0 e1 f0 f2 g0 kp
        have q0 : w1.cell? ⟨w.heap.size + 1 + 1 + 1, 4, none⟩ = some (.int .i64 0) := hat1.out.b4.cell 4
        have q1 : w1.frozen? ⟨w.heap.size + 1 + 1 + 1, 4, none⟩ = false := hat1.out.b4.frozen 4
        have z0 : w1.cell? ⟨w.heap.size + 1 + 1, 0, none⟩ = some (.int .i64 0) := hat1.out.b3.cell 0
        have z1 : w1.cell? ⟨w.heap.size + 1 + 1, 1, none⟩ = some (.int .i64 0) := hat1.out.b3.cell 1
        have z2 : w1.cell? ⟨w.heap.size + 1 + 1, 2, none⟩ = some (.int .i64 0) := hat1.out.b3.cell 2
        have z3 : w1.cell? ⟨w.heap.size + 1 + 1, 3, none⟩ = some (.int .i64 0) := hat1.out.b3.cell 3
        have z4 : w1.cell? ⟨w.heap.size + 1 + 1, 4, none⟩ = some (.int .i64 0) := hat1.out.b3.cell 4
        have z5 : w1.cell? ⟨w.heap.size + 1 + 1, 5, none⟩ = some (.int .i64 0) := hat1.out.b3.cell 5
        have zf := hat1.out.b3.frozen
        cases Y with
        | true =>
          go_wp2
          refine ⟨⟨5, 5, by simp, by omega, rfl, ?_⟩, by simp [intOf]⟩
          have h := hat1.out.step (by omega) hY.out
          rw [hX.out] at h
          exact h
        | false =>
          go_wp2
          have hb0 := six_below hat1.out.b0 (g := w.heap.size + 1 + 1) (by omega) (.int .i64 0) (.int .i64 0) (.int .i64 0) (.int .i64 0) (.int .i64 0) (.int .i64 0)
          have hz := six_set hat1.out.b3 (.int .i64 0) (.int .i64 0) (.int .i64 0) (.int .i64 0) (.int .i64 0) (.int .i64 0)
          have hz : Blk _ (w.heap.size + 1 + 1) 26 _ := hz
          refine bp6 hz ?_
          intro w9 r0 r1 r2 r3 r4 r5 hw9
          refine bodyPost_ret (by simp [results, Tryz.results5, go_sem, r0, r1, r2, r3, r4, r5]; try rfl) rfl ⟨?_, by rw [hw9.out]; exact hb0⟩
          rw [← hR.out, ← hO.out, show okM a b = false by simp [okM, hY.out], matR, show okM a b = false by simp [okM, hY.out]]; rfl
      · obtain rfl : z = 5 := by simpa using hz
        clear hz hk hlt
        have c := fun w => paint_dot (a 4) (b 1) (a 5) (b 3) (b 5) (ha _) (hb _) (ha _) (hb _) w
        have e0 : wr.cell? ⟨w.heap.size, 4, none⟩ = some (.int .i64 (a 4)) := hat.out.b1.cell 4
        have e1 : wr.cell? ⟨w.heap.size, 5, none⟩ = some (.int .i64 (a 5)) := hat.out.b1.cell 5
        have f0 : wr.cell? ⟨w.heap.size + 1, 1, none⟩ = some (.int .i64 (b 1)) := hat.out.b2.cell 1
        have f2 : wr.cell? ⟨w.heap.size + 1, 3, none⟩ = some (.int .i64 (b 3)) := hat.out.b2.cell 3
        have g0 : wr.cell? ⟨w.heap.size + 1, 5, none⟩ = some (.int .i64 (b 5)) := hat.out.b2.cell 5
        clear ha hb
        generalize hX : dotN (a 4) (b 1) (a 5) (b 3) (b 5) = X at *
        generalize hY : dotB (a 4) (b 1) (a 5) (b 3) (b 5) = Y at *
        replace hX := Lib.hid (show mN a b 5 = X from hX)
        replace hY := Lib.hid (show mB a b 5 = Y from hY)
        go_wp2
        have kp := Lib.hid fun (w1 : World) (h : Below wr.heap.size wr w1) => keep5 h e0 e1 f0 f2 g0
        have wr1 : IntKind.i64.wrap 1 = 1 := by decide
        have wr2 : IntKind.i64.wrap 2 = 2 := by decide
        have wr3 : IntKind.i64.wrap 3 = 3 := by decide
        have wr4 : IntKind.i64.wrap 4 = 4 := by decide
        have wr5 : IntKind.i64.wrap 5 = 5 := by decide
        go_region_held3 (fun w' => w'.cell? ⟨w.heap.size, 4, none⟩ = some (.int .i64 (a 4)) ∧ w'.cell? ⟨w.heap.size, 5, none⟩ = some (.int .i64 (a 5)) ∧ w'.cell? ⟨w.heap.size + 1, 1, none⟩ = some (.int .i64 (b 1)) ∧ w'.cell? ⟨w.heap.size + 1, 3, none⟩ = some (.int .i64 (b 3)))
          (first | go_keep | exact ⟨k0, k1, k2, k3⟩)
          ((go_at_call 13; (with_reducible refine (c _).mono ?_); rintro e w1 ⟨rfl, hw1⟩; obtain ⟨k0, k1, k2, k3⟩ := kp.out _ ((Below.refl wr.heap.size wr).drew.trans hw1)))
        have hb1 : Below wr.heap.size wr w1 := (Below.refl wr.heap.size wr).drew.trans hw1
        have hat1 := Lib.hid (hat.out.move hb1)
        clear hw1 k0 k1 k2 k3 c e0 e1 f0 f2 g0 kp
        have q0 : w1.cell? ⟨w.heap.size + 1 + 1 + 1, 5, none⟩ = some (.int .i64 0) := hat1.out.b4.cell 5
        have q1 : w1.frozen? ⟨w.heap.size + 1 + 1 + 1, 5, none⟩ = false := hat1.out.b4.frozen 5
        have z0 : w1.cell? ⟨w.heap.size + 1 + 1, 0, none⟩ = some (.int .i64 0) := hat1.out.b3.cell 0
        have z1 : w1.cell? ⟨w.heap.size + 1 + 1, 1, none⟩ = some (.int .i64 0) := hat1.out.b3.cell 1
        have z2 : w1.cell? ⟨w.heap.size + 1 + 1, 2, none⟩ = some (.int .i64 0) := hat1.out.b3.cell 2
        have z3 : w1.cell? ⟨w.heap.size + 1 + 1, 3, none⟩ = some (.int .i64 0) := hat1.out.b3.cell 3
        have z4 : w1.cell? ⟨w.heap.size + 1 + 1, 4, none⟩ = some (.int .i64 0) := hat1.out.b3.cell 4
        have z5 : w1.cell? ⟨w.heap.size + 1 + 1, 5, none⟩ = some (.int .i64 0) := hat1.out.b3.cell 5
        have zf := hat1.out.b3.frozen
        cases Y with
        | true =>
          go_wp2
          refine ⟨⟨6, 6, by simp, by omega, rfl, ?_⟩, by simp [intOf]⟩
          have h := hat1.out.step (by omega) hY.out
          rw [hX.out] at h
          exact h
        | false =>
          go_wp2
          have hb0 := six_below hat1.out.b0 (g := w.heap.size + 1 + 1) (by omega) (.int .i64 0) (.int .i64 0) (.int .i64 0) (.int .i64 0) (.int .i64 0) (.int .i64 0)
          have hz := six_set hat1.out.b3 (.int .i64 0) (.int .i64 0) (.int .i64 0) (.int .i64 0) (.int .i64 0) (.int .i64 0)
          have hz : Blk _ (w.heap.size + 1 + 1) 26 _ := hz
          refine bp6 hz ?_
          intro w9 r0 r1 r2 r3 r4 r5 hw9
          refine bodyPost_ret (by simp [results, Tryz.results5, go_sem, r0, r1, r2, r3, r4, r5]; try rfl) rfl ⟨?_, by rw [hw9.out]; exact hb0⟩
          rw [← hR.out, ← hO.out, show okM a b = false by simp [okM, hY.out], matR, show okM a b = false by simp [okM, hY.out]]; rfl
    · obtain rfl : k = 6 := by omega
      obtain rfl : z = 6 := by simpa using hz
      clear hz hk hlt ha hb
      replace hat := Lib.hid hat
      have q0 : wr.cell? ⟨w.heap.size + 1 + 1 + 1, 0, none⟩ = some (.int .i64 (mN a b 0)) := hat.out.b4.cell 0
      have z0 : wr.cell? ⟨w.heap.size + 1 + 1, 0, none⟩ = some (.int .i64 0) := hat.out.b3.cell 0
      have q1 : wr.cell? ⟨w.heap.size + 1 + 1 + 1, 1, none⟩ = some (.int .i64 (mN a b 1)) := hat.out.b4.cell 1
      have z1 : wr.cell? ⟨w.heap.size + 1 + 1, 1, none⟩ = some (.int .i64 0) := hat.out.b3.cell 1
      have q2 : wr.cell? ⟨w.heap.size + 1 + 1 + 1, 2, none⟩ = some (.int .i64 (mN a b 2)) := hat.out.b4.cell 2
      have z2 : wr.cell? ⟨w.heap.size + 1 + 1, 2, none⟩ = some (.int .i64 0) := hat.out.b3.cell 2
      have q3 : wr.cell? ⟨w.heap.size + 1 + 1 + 1, 3, none⟩ = some (.int .i64 (mN a b 3)) := hat.out.b4.cell 3
      have z3 : wr.cell? ⟨w.heap.size + 1 + 1, 3, none⟩ = some (.int .i64 0) := hat.out.b3.cell 3
      have q4 : wr.cell? ⟨w.heap.size + 1 + 1 + 1, 4, none⟩ = some (.int .i64 (mN a b 4)) := hat.out.b4.cell 4
      have z4 : wr.cell? ⟨w.heap.size + 1 + 1, 4, none⟩ = some (.int .i64 0) := hat.out.b3.cell 4
      have q5 : wr.cell? ⟨w.heap.size + 1 + 1 + 1, 5, none⟩ = some (.int .i64 (mN a b 5)) := hat.out.b4.cell 5
      have z5 : wr.cell? ⟨w.heap.size + 1 + 1, 5, none⟩ = some (.int .i64 0) := hat.out.b3.cell 5
      have zf := hat.out.b3.frozen
      have hok : okM a b = true := by simp [okM, hat.out.ok 0, hat.out.ok 1, hat.out.ok 2, hat.out.ok 3, hat.out.ok 4, hat.out.ok 5]
      have hO1 : O = true := by rw [← hO.out]; exact hok
      have hR1 := Lib.hid (show R = #[.int .i64 (mN a b 0), .int .i64 (mN a b 1), .int .i64 (mN a b 2), .int .i64 (mN a b 3), .int .i64 (mN a b 4), .int .i64 (mN a b 5)] by rw [← hR.out, matR, hok]; rfl)
      subst hO1
      replace hok := Lib.hid hok
      clear hR
      generalize mN a b 0 = m0 at *
      generalize mN a b 1 = m1 at *
      generalize mN a b 2 = m2 at *
      generalize mN a b 3 = m3 at *
      generalize mN a b 4 = m4 at *
      generalize mN a b 5 = m5 at *
      go_wp2
      have hb0 := six_below hat.out.b0 (g := w.heap.size + 1 + 1) (by omega) (.int .i64 m0) (.int .i64 m1) (.int .i64 m2) (.int .i64 m3) (.int .i64 m4) (.int .i64 m5)
      have hz := six_set hat.out.b3 (.int .i64 m0) (.int .i64 m1) (.int .i64 m2) (.int .i64 m3) (.int .i64 m4) (.int .i64 m5)
      have hz : Blk _ (w.heap.size + 1 + 1) 26 _ := hz
      refine bp6 hz ?_
      intro w9 r0 r1 r2 r3 r4 r5 hw9
      exact bodyPost_ret (by simp [results, Tryz.results5, go_sem, r0, r1, r2, r3, r4, r5]; try rfl) rfl ⟨by rw [hR1.out], by rw [hw9.out]; exact hb0⟩
end Go.Proofs.YtjlomalpmlgjbaaGreatDoor

/- The reader's state; its small functions. No condition. -/
import Derived.Test.YtgomlebemefdcaaDoorXeTake
import Derived.Test.YtgomlebemefdcaaDoorXeSigns
import Derived.Test.YtgomlebemefdcaaDoorXeGram
set_option linter.unusedVariables false
namespace Go.Proofs.YtgomlebemefdcaaDoor
open Go Go.RowKit Go.Wk Go.Xt Go.Xe
theorem u8_eq (c n : UInt8) : (c == n) = ((c.toNat : Int) == (n.toNat : Int)) := by
  rw [Bool.eq_iff_iff]; simp only [beq_iff_eq]
  exact ⟨fun h => by rw [h], fun h => UInt8.toNat_inj.1 (by omega)⟩
def whiteI (x : Int) : Bool := (x == 9) || (x == 10) || (x == 13) || (x == 32)
def beginsI (x : Int) : Bool := (decide (97 ≤ x) && decide (x ≤ 122)) || (decide (65 ≤ x) && decide (x ≤ 90)) || (x == 95) || decide (128 ≤ x)
def goesI (x : Int) : Bool := beginsI x || (decide (48 ≤ x) && decide (x ≤ 57)) || (x == 45) || (x == 46)
theorem white_u8 (c : UInt8) : whiteI (c.toNat : Int) = whiteB c := by
  unfold whiteI whiteB; rw [u8_eq c 9, u8_eq c 10, u8_eq c 13, u8_eq c 32]; rfl
theorem cast_le (n k : Nat) : decide ((n : Int) ≤ (k : Int)) = decide (n ≤ k) := by rw [Bool.eq_iff_iff]; simp
theorem begins_u8 (c : UInt8) : beginsI (c.toNat : Int) = beginsB c := by
  unfold beginsI beginsB
  rw [u8_eq c 95, ← cast_le, ← cast_le, ← cast_le, ← cast_le, ← cast_le]; rfl
theorem goes_u8 (c : UInt8) : goesI (c.toNat : Int) = goesB c := by
  unfold goesI goesB
  rw [begins_u8, u8_eq c 45, u8_eq c 46, ← cast_le, ← cast_le]; rfl
set_option maxHeartbeats 1000000 in
set_option maxRecDepth 100000 in
theorem xml_white {w : World} (x : Int) : Calls Tryd.prog 57 #[.int .i64 x] w fun e w' => e = .returned (.bool (whiteI x)) ∧ w = w' := by
  have h : whiteI x = ((x == 9) || (x == 10) || (x == 13) || (x == 32)) := rfl
  replace h := Lib.hid h
  generalize whiteI x = B at *
  go_enter Tryd.func57, Tryd.ntmps57
  go_wp2
  all_goals go_ret
  all_goals (refine ⟨congrArg (fun b => Ending.returned (.bool b)) ?_, rfl⟩; first | (rw [h.out, Bool.eq_iff_iff]; done) | (rw [h.out, Bool.eq_iff_iff]; simp; done) | (rw [h.out, Bool.eq_iff_iff]; simp; omega))
set_option maxHeartbeats 1000000 in
set_option maxRecDepth 100000 in
theorem xml_begins {w : World} (x : Int) : Calls Tryd.prog 73 #[.int .i64 x] w fun e w' => e = .returned (.bool (beginsI x)) ∧ w = w' := by
  have h : beginsI x = ((decide (97 ≤ x) && decide (x ≤ 122)) || (decide (65 ≤ x) && decide (x ≤ 90)) || (x == 95) || decide (128 ≤ x)) := rfl
  replace h := Lib.hid h
  generalize beginsI x = B at *
  go_enter Tryd.func73, Tryd.ntmps73
  go_wp2
  all_goals go_ret
  all_goals (refine ⟨congrArg (fun b => Ending.returned (.bool b)) ?_, rfl⟩; first | (rw [h.out, Bool.eq_iff_iff]; done) | (rw [h.out, Bool.eq_iff_iff]; simp; done) | (rw [h.out, Bool.eq_iff_iff]; simp; omega))
set_option maxHeartbeats 1000000 in
set_option maxRecDepth 100000 in
theorem xml_goes {w : World} (x : Int) : Calls Tryd.prog 74 #[.int .i64 x] w fun e w' => e = .returned (.bool (goesI x)) ∧ w = w' := by
  have h : goesI x = (beginsI x || (decide (48 ≤ x) && decide (x ≤ 57)) || (x == 45) || (x == 46)) := rfl
  have cb := xml_begins (w := w) x
  replace h := Lib.hid h
  generalize goesI x = B at *
  generalize beginsI x = V at *
  go_enter Tryd.func74, Tryd.ntmps74
  go_wp2_with (go_at_call 73; (with_reducible refine cb.mono ?_); rintro e w1 ⟨rfl, rfl⟩)
  all_goals go_ret
  all_goals (refine ⟨congrArg (fun b => Ending.returned (.bool b)) ?_, rfl⟩; rw [h.out]; cases V <;> first | (exfalso; simp_all; done) | (rw [Bool.eq_iff_iff]; simp; done) | (rw [Bool.eq_iff_iff]; simp; omega))
set_option maxHeartbeats 1000000 in
theorem xml_passed {w : World} (b : Bool) : Calls Tryd.prog 41 #[.bool b] w fun e w' => e = .returned (.int .i64 (if b then 0 else 4)) ∧ w = w' := by
  cases b
  all_goals
    go_enter Tryd.func41, Tryd.ntmps41
    go_wp2
    go_ret
    exact ⟨rfl, rfl⟩
/-- all lies as it lay, but for two blocks -/
structure Fr (L R : Nat) (w w' : World) : Prop where
  os : w'.os = w.os
  tape : w'.tape = w.tape
  output : w'.output = w.output
  size : w.heap.size ≤ w'.heap.size
  block : ∀ k, k < w.heap.size → k ≠ L → k ≠ R → w'.heap[k]? = w.heap[k]?
theorem Fr.refl (L R : Nat) (w : World) : Fr L R w w := ⟨rfl, rfl, rfl, Nat.le_refl _, fun _ _ _ _ => rfl⟩
theorem Fr.trans {L R : Nat} {a b c : World} (h : Fr L R a b) (k : Fr L R b c) : Fr L R a c :=
  ⟨k.os.trans h.os, k.tape.trans h.tape, k.output.trans h.output, Nat.le_trans h.size k.size, fun j hj h1 h2 => (k.block j (Nat.lt_of_lt_of_le hj h.size) h1 h2).trans (h.block j hj h1 h2)⟩
theorem Fr.of_save {L R : Nat} {a b : World} (h : Save L a b) : Fr L R a b := ⟨h.os, h.tape, h.output, h.size, fun k hk h1 _ => h.block k hk h1⟩
theorem Fr.of_below {L R : Nat} {a b : World} (h : Below a.heap.size a b) : Fr L R a b := ⟨h.os, h.tape, h.output, h.size, fun k hk _ _ => h.block k hk⟩
theorem Fr.below {L R B : Nat} {a b : World} (h : Fr L R a b) (hL : B ≤ L) (hR : B ≤ R) (hB : B ≤ a.heap.size) : Below B a b := ⟨h.os, h.tape, h.output, h.size, fun k hk => h.block k (by omega) (by omega) (by omega)⟩
theorem Fr.store {L R : Nat} {a b : World} (h : Fr L R a b) (o : Nat) (u : Value) : Fr L R a (b.setCell ⟨R, o, none⟩ u) :=
  h.trans ⟨rfl, rfl, rfl, by simp [World.setCell], fun k _ _ hn => Below.heap_setCell _ _ _ _ hn⟩
structure RS (w : World) (L R : Nat) (A : Option Addr) (c : Nat) (bs : List UInt8) (p many : Nat) : Prop where
  cur : Cur w w L A c bs p
  rdr : Blk w R 68 #[.pointer (some ⟨L, 0, none⟩), .int .i64 (many : Nat), .slice none 0 0]
  ne : L ≠ R
  neA : 0 < bs.length → ∀ x, A = some x → x.block ≠ R
  cap : bs.length ≤ c
section
variable {w w' : World} {L R c p p' many : Nat} {A : Option Addr} {bs : List UInt8}
theorem Cur.L_lt (h : Cur w w L A c bs p) : L < w.heap.size := cell_lt h.cb
theorem RS.cur_to (h : RS w L R A c bs p many) (k : Cur w w' L A c bs p') : RS w' L R A c bs p' many ∧ Fr L R w w' :=
  ⟨⟨k.here, (k.bel.block R h.rdr.lt h.ne.symm).trans h.rdr, h.ne, h.neA, h.cap⟩, Fr.of_save k.bel⟩
theorem RS.below (h : RS w L R A c bs p many) (hb : Below w.heap.size w w') : RS w' L R A c bs p many := by
  have hc := h.cur
  have hL := hc.L_lt
  refine ⟨⟨hc.ne, Save.refl _ _, (hb.cell (p := ⟨L, 0, none⟩) hL).trans hc.cb, (hb.cell (p := ⟨L, 1, none⟩) hL).trans hc.ca, (hb.frozen (p := ⟨L, 1, none⟩) hL).trans hc.fr, hc.byt.below hb, hc.le, hc.small⟩, h.rdr.below hb h.rdr.lt, h.ne, h.neA, h.cap⟩
end
end Go.Proofs.YtgomlebemefdcaaDoor

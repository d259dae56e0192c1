/- Words for the law of dates. No condition. -/
import Derived.Test.YtkpikpaepgknnaaGreatDoorXdLawp
set_option linter.unusedVariables false
namespace Go.Proofs.YtkpikpaepgknnaaGreatDoor
open Go Go.RowKit Go.Wk Go.Lib
theorem str_app (a b : List UInt8) : (({ data := a.toArray } : ByteArray) ++ { data := b.toArray }) = { data := (a ++ b).toArray } := bytes_ext (by simp)
theorem bits_and_u16_nat (a b : Nat) (ha : a < 65536) (hb : b < 65536) : bits .and .u16 (a : Int) (b : Int) = ((a &&& b : Nat) : Int) := by
  have hx : a &&& b < 2 ^ 16 := Nat.and_lt_two_pow _ (by omega)
  have h1 : (BitVec.ofInt 16 (a : Int)).toNat = a := by
    rw [BitVec.ofInt_natCast, BitVec.toNat_ofNat]; exact Nat.mod_eq_of_lt (by omega)
  have h2 : (BitVec.ofInt 16 (b : Int)).toNat = b := by
    rw [BitVec.ofInt_natCast, BitVec.toNat_ofNat]; exact Nat.mod_eq_of_lt (by omega)
  show IntKind.u16.wrap ((BitVec.ofInt 16 (a : Int) &&& BitVec.ofInt 16 (b : Int)).toNat : Int) = _
  rw [BitVec.toNat_and, h1, h2]
  show ((a &&& b : Nat) : Int) % 65536 = _
  omega
theorem and_three (x : Nat) (hx : x < 65536) : bits .and .u16 (x : Int) 3 = ((x % 4 : Nat) : Int) := by
  have := bits_and_u16_nat x 3 hx (by omega)
  rw [show x &&& 3 = x % 4 from Nat.and_two_pow_sub_one_eq_mod x 2] at this
  exact this
theorem pad_len2 (n : Nat) (h : n < 100) : (padL n 2).length = 2 := by rw [pad2 n h]; rfl
theorem pad_len4 (n : Nat) (h : n < 10000) : (padL n 4).length = 4 := by rw [pad4 n h]; rfl
open Go.Sort in
theorem s2b (w : World) (l : List UInt8) (hl : l.length ≤ 1000) : ∃ c w', (convert 9 25 (.string ⟨l.toArray⟩)).run Tryz.prog w = .ok (.slice (some ⟨w.heap.size, 0, none⟩) l.length c) w' ∧ l.length ≤ c ∧ Byt w' (some ⟨w.heap.size, 0, none⟩) l ∧ Below w.heap.size w w' := by
  have h := run_bytes_of_string (P := Tryz.prog) w 9 25 5 ⟨l.toArray⟩ Tryz.underlying9 Tryz.underlying25 Tryz.underlying5
  refine ⟨_, _, h, grownCap_ge w _ _ _, ⟨by unfold maxLen; omega, fun _ => ⟨w.heap.size, 0, rfl, fun i hi => ?_⟩⟩, ((Below.refl w.heap.size w).drew).alloc (Nat.le_refl _) _⟩
  have := World.cell?_alloc_mark w.drew (bytesRow ⟨l.toArray⟩ (grownCap w (ByteArray.size ⟨l.toArray⟩) 0 5)) 5 ((bytesRow ⟨l.toArray⟩ (grownCap w (ByteArray.size ⟨l.toArray⟩) 0 5)).size, (bytesRow ⟨l.toArray⟩ (grownCap w (ByteArray.size ⟨l.toArray⟩) 0 5)).size + 1) (0 + i)
  refine this.trans ?_
  rw [Nat.zero_add]
  exact bytesRow_at _ _ _ (by simpa using hi)
/-- a text turned to bytes and read as a date: the call, from where the text lies -/
theorem date_of (w : World) (l : List UInt8) (hl : l.length ≤ 1000) : ∃ c w1, (convert 9 25 (.string ⟨l.toArray⟩)).run Tryz.prog w = .ok (.slice (some ⟨w.heap.size, 0, none⟩) l.length c) w1 ∧ Below w.heap.size w w1 ∧
    Calls Tryz.prog 19 #[.slice (some ⟨w.heap.size, 0, none⟩) l.length c] w1 fun e w' => e = .returned (.tuple #[str (dateS l).1, .bool (dateS l).2]) ∧ Below w.heap.size w w' := by
  obtain ⟨c, w1, h1, h2, h3, h4⟩ := s2b w l hl
  exact ⟨c, w1, h1, h4, (xmp_Date _ c l w1 h3 h2 (by omega)).mono fun e w' h => ⟨h.1, h4.trans (h.2.mono h4.size)⟩⟩
theorem add_str (a b : List UInt8) (h : a.length + b.length ≤ 1000) (w : World) : (Op.stringOp .add ⟨a.toArray⟩ ⟨b.toArray⟩).run Tryz.prog w = .ok (.string ⟨(a ++ b).toArray⟩) w := by
  rw [run_string_add_sum w _ _ (by simp [ByteArray.size]; omega), ByteArray.mk_append_mk]
/-- a text put together: under a name of its own -/
theorem mkq (a b : List UInt8) {n m : Nat} (ha : a.length ≤ n) (hb : b.length ≤ m) (h : n + m ≤ 1000) : ∃ q : List UInt8, Hid (q = a ++ b) ∧ q.length ≤ n + m ∧ ∀ w, (Op.stringOp .add ⟨a.toArray⟩ ⟨b.toArray⟩).run Tryz.prog w = .ok (.string ⟨q.toArray⟩) w :=
  ⟨a ++ b, Lib.hid rfl, by rw [List.length_append]; omega, fun w => add_str a b (by omega) w⟩
def hvD (q : Nat) : Nat := match q with | 0 => 12 | 1 => 31 | 2 => 23 | 3 => 59 | _ => 59
def badI (q i n : Nat) : Nat := if i = 1 + q then hvD q + 1 else n
theorem hvD_le (q : Nat) : hvD q ≤ 59 := by unfold hvD; split <;> omega
theorem badI_lt (q i n : Nat) (h : n < 100) : badI q i n < 100 := by have := hvD_le q; unfold badI; split <;> omega
theorem bad_out (q : Nat) (hq : q < 5) (n0 n1 n2 n3 n4 n5 : Nat) : inR n0 (badI q 1 n1) (badI q 2 n2) (badI q 3 n3) (badI q 4 n4) (badI q 5 n5) = false := by
  have : q = 0 ∨ q = 1 ∨ q = 2 ∨ q = 3 ∨ q = 4 := by omega
  rcases this with rfl | rfl | rfl | rfl | rfl <;> simp [inR, badI, hvD]
theorem hi_cell {w : World} {g : Nat} (h : Blk w g 48 #[.int .i64 9999, .int .i64 12, .int .i64 31, .int .i64 23, .int .i64 59, .int .i64 59]) (q : Nat) (hq : q < 5) : w.cell? ⟨g, 1 + q, none⟩ = some (.int .i64 (hvD q : Nat)) := by
  rw [h.cell (1 + q)]
  have : q = 0 ∨ q = 1 ∨ q = 2 ∨ q = 3 ∨ q = 4 := by omega
  rcases this with rfl | rfl | rfl | rfl | rfl <;> rfl
theorem bad_cells {w : World} {n0 n1 n2 n3 n4 n5 : Nat} (q : Nat) (hq : q < 5) :
    (∃ u, (w.alloc (.cells #[.int .i64 (n0 : Nat), .int .i64 (n1 : Nat), .int .i64 (n2 : Nat), .int .i64 (n3 : Nat), .int .i64 (n4 : Nat), .int .i64 (n5 : Nat)] 48)).cell? ⟨w.heap.size, 1 + q, none⟩ = some (.int .i64 u)) ∧
    (w.alloc (.cells #[.int .i64 (n0 : Nat), .int .i64 (n1 : Nat), .int .i64 (n2 : Nat), .int .i64 (n3 : Nat), .int .i64 (n4 : Nat), .int .i64 (n5 : Nat)] 48)).frozen? ⟨w.heap.size, 1 + q, none⟩ = false ∧
    Blk (w.alloc (.cells (([Value.int .i64 (n0 : Nat), .int .i64 (n1 : Nat), .int .i64 (n2 : Nat), .int .i64 (n3 : Nat), .int .i64 (n4 : Nat), .int .i64 (n5 : Nat)] : List Value).set (1 + q) (.int .i64 ((hvD q : Nat) + 1))).toArray 48)) w.heap.size 48
      #[.int .i64 (n0 : Nat), .int .i64 (badI q 1 n1 : Nat), .int .i64 (badI q 2 n2 : Nat), .int .i64 (badI q 3 n3 : Nat), .int .i64 (badI q 4 n4 : Nat), .int .i64 (badI q 5 n5 : Nat)] := by
  have b := Blk.new w 48 #[.int .i64 (n0 : Nat), .int .i64 (n1 : Nat), .int .i64 (n2 : Nat), .int .i64 (n3 : Nat), .int .i64 (n4 : Nat), .int .i64 (n5 : Nat)]
  have : q = 0 ∨ q = 1 ∨ q = 2 ∨ q = 3 ∨ q = 4 := by omega
  refine ⟨?_, b.frozen _, ?_⟩
  · rw [b.cell (1 + q)]
    rcases this with rfl | rfl | rfl | rfl | rfl <;> exact ⟨_, rfl⟩
  · have h := Blk.new w 48 (([Value.int .i64 (n0 : Nat), .int .i64 (n1 : Nat), .int .i64 (n2 : Nat), .int .i64 (n3 : Nat), .int .i64 (n4 : Nat), .int .i64 (n5 : Nat)] : List Value).set (1 + q) (.int .i64 ((hvD q : Nat) + 1))).toArray
    rcases this with rfl | rfl | rfl | rfl | rfl <;> exact h
end Go.Proofs.YtkpikpaepgknnaaGreatDoor

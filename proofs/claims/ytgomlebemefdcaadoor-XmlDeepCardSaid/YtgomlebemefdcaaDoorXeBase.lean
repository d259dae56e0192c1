/- Words of this seat: numbers, texts, worlds. No condition. -/
import Derived.Test.YtgomlebemefdcaaDoorWk
import Derived.Test.YtgomlebemefdcaaDoorBlk
import Derived.Test.YtgomlebemefdcaaDoorRows
import Derived.ProofKit
import Derived.WalkKit
import Derived.Lib.Hide
import Derived.IntWalk
import Derived.Lib.Walk
import Derived.Lib.ItoaMem
import Derived.Lib.ItoaLen
import Derived.BigCall
import Derived.BigGuard
import Derived.Deep.QuietTactic
import Derived.BigQuiet
import Derived.Laws.IdiomStrings
import Derived.Maps.AppendAt
import Derived.Laws.AppendOwnNone
namespace Go.Proofs.YtgomlebemefdcaaDoor
open Go Go.RowKit Go.Wk Go.Sort Go.Lib
def i64 (n : Int) : Prop := -9223372036854775808 ≤ n ∧ n ≤ 9223372036854775807
theorem hidE (a : Int) : ∃ A : Int, Hid (A = a) := ⟨a, Lib.hid rfl⟩
theorem bthen {a b c : World} (h : Below a.heap.size a b) (k : Below b.heap.size b c) : Below a.heap.size a c := h.trans (k.mono h.size)
theorem alloc_cell {w : World} {vs : Array Value} {e i : Nat} : (w.alloc (.cells vs e)).cell? ⟨w.heap.size, 0 + i, none⟩ = vs[i]? := by
  have h : (w.alloc (.cells vs e)).heap[w.heap.size]? = some (.cells vs e) := by
    show (w.heap.push _)[w.heap.size]? = _
    simp
  unfold World.cell?
  rw [h, Nat.zero_add]
  rfl
theorem size_alloc (w : World) (o : Obj) : (w.alloc o).heap.size = w.heap.size + 1 := by show (w.heap.push _).size = _; simp
theorem below_drawn (w : World) (n : Nat) : Below w.heap.size w (w.drewN n) := ⟨rfl, rfl, rfl, Nat.le_refl _, fun _ _ => rfl⟩
def str (l : List UInt8) : Value := .string ⟨l.toArray⟩
theorem bytes_ext {a b : ByteArray} (h : a.data.toList = b.data.toList) : a = b := by
  cases a; cases b; simp at h; rw [h]
theorem bytes_app (a b : ByteArray) : (a ++ b).data.toList = a.data.toList ++ b.data.toList := by simp
theorem bytes_cut (a : ByteArray) (i j : Nat) : (a.extract i j).data.toList = (a.data.toList.take j).drop i := by
  simp [ByteArray.data_extract, Array.toList_extract, List.extract]
  rw [List.drop_take]
theorem str_ne {a b : ByteArray} (h : ¬ a.data.toList = b.data.toList) : (a.toList == b.toList) = false := by
  rw [ByteArray.toList_eq, ByteArray.toList_eq]; simpa using h
end Go.Proofs.YtgomlebemefdcaaDoor

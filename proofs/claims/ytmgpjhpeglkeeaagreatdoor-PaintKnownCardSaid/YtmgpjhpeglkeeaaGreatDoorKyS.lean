/- Few numbers, sorted in place: the plain side. No condition. -/
import Derived.Test.YtmgpjhpeglkeeaaGreatDoorKyU
import Derived.Sort.LotA
namespace Go.Proofs
open Go Go.RowKit Go.Sort
theorem isort_ins (ss : List Int) : (Sort.insertionSort Sort.ltInt ss.toArray 0 ss.length).toList = Am.isort ss := by
  obtain ⟨⟨h1, _, h3⟩, h4⟩ := insertionSort_holds (lt := Sort.ltInt) swo_ltInt ss.toArray 0 ss.length (Nat.zero_le _) (by simp)
  have hs : (Sort.insertionSort Sort.ltInt ss.toArray 0 ss.length).size = ss.length := by simpa using h1
  refine Am.isort_of ?_ ?_
  · have e1 : (Sort.insertionSort Sort.ltInt ss.toArray 0 ss.length).extract 0 ss.length = Sort.insertionSort Sort.ltInt ss.toArray 0 ss.length := by
      generalize Sort.insertionSort Sort.ltInt ss.toArray 0 ss.length = D at hs
      rw [← hs]; simp
    have e2 : ss.toArray.extract 0 ss.length = ss.toArray := by simp
    rw [e1, e2] at h3
    simpa using h3
  · unfold Am.Rises
    rw [List.pairwise_iff_getElem]
    intro i j hi hj hij
    rw [Array.length_toList] at hi hj
    have := h4 i j (Nat.zero_le _) hij (by omega)
    simp only [Sort.ltInt, decide_eq_false_iff_not] at this
    rw [getElem!_pos _ i hi, getElem!_pos _ j hj] at this
    simp only [Array.getElem_toList]
    omega
theorem heap_put_u {w : World} {g n : Nat} {cur : Array Value} {e : TypeId} {fr : Nat × Nat} (d : Array Int) (hb : w.heap[g]? = some (.cells cur e fr)) :
    (putRow encU (Sort.ahead w n) g 0 d).heap[g]? = some (.cells (putCells encU 0 d cur) e fr) := by
  simp [putRow, mapBlock, Sort.ahead, Array.getElem?_modify, hb, onCells]
theorem grownBy_put_u {w : World} {g n : Nat} (d : Array Int) : w.grownBy (putRow encU (Sort.ahead w n) g 0 d) (some g) := by
  refine ⟨rfl, rfl, rfl, by simp, fun k hk hne => ?_⟩
  have : g ≠ k := fun e => hne (by rw [e])
  simp [putRow, mapBlock, Sort.ahead, Array.getElem?_modify, this]
/-- what a caller sees -/
theorem sorted_row {w : World} {g n cap : Nat} {cur : Array Value} {e : TypeId} {ss : List Int} (hb : w.heap[g]? = some (.cells cur e (0, 0))) (hc : ss.length ≤ cap) (hs : cur.size = cap) :
    w.grownBy (putRow encU (Sort.ahead w n) g 0 (Sort.insertionSort Sort.ltInt ss.toArray 0 ss.length)) (some g) ∧ ∃ cur', (putRow encU (Sort.ahead w n) g 0 (Sort.insertionSort Sort.ltInt ss.toArray 0 ss.length)).heap[g]? = some (.cells cur' e (0, 0)) ∧ cur'.size = cur.size ∧ cur'.toList.take ss.length = (Am.isort ss).map encU := by
  refine ⟨grownBy_put_u _, _, heap_put_u _ hb, by simp [putCells], ?_⟩
  have h1 := isort_ins ss
  have h2 : Sort.insertionSort Sort.ltInt ss.toArray 0 ss.length = (Am.isort ss).toArray := by rw [← h1]
  rw [h2]
  have := take_putCells_u cur (Am.isort ss) (by rw [Am.isort_len]; omega)
  rwa [Am.isort_len] at this
end Go.Proofs

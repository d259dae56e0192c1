/- A region that draws its order: each operation is looked at once. No condition. -/
import Derived.Orders
/-! A region that draws its order, each operation looked at once -/
namespace Go.Wk
open Go
def upd (x : Nat → Value) (i : Nat) (v : Value) : Nat → Value := fun j => if j = i then v else x j
/-- what the operation waits for -/
def afters (ops : Array Oper) (i : Nat) : List Nat := match ops[i]? with
  | none => []
  | some o => (o.after.toList.filter fun e => Region.binds .any e).map (·.on)
def each (p : Nat → Prop) : Nat → Prop
  | 0 => True
  | n + 1 => each p n ∧ p n
theorem each_all {p : Nat → Prop} : ∀ {n : Nat}, each p n → ∀ i, i < n → p i
  | n + 1, h, i, hi => by
    rcases Nat.lt_or_ge i n with h' | h'
    · exact each_all h.1 i h'
    · have : i = n := by omega
      subst this; exact h.2
theorem getD_set (l : Array Bool) (i j : Nat) (b : Bool) (hi : i < l.size) : (l.setIfInBounds i true).getD j b = if j = i then true else l.getD j b := by
  simp only [Array.getD_eq_getD_getElem?, Array.getElem?_setIfInBounds]
  by_cases h : i = j
  · subst h; simp [hi]
  · simp [h, Ne.symm h]
theorem all_listed {ops : Array Oper} {listed : Array Bool} (back : ((List.range ops.size).all fun i => (afters ops i).all fun j => decide (j < i)) = true) (hs : listed.size = ops.size) (hr : Region.ready .any ops listed = []) :
    ∀ i, i < ops.size → listed.getD i false = true := by
  intro i
  induction i using Nat.strongRecOn with
  | _ i ih =>
    intro hi
    have hil : i < listed.size := by omega
    rcases hb : listed.getD i true with _ | _
    · exfalso
      have : i ∈ Region.ready .any ops listed := by
        rw [mem_ready]
        refine ⟨hb, ops[i], by simp [hi], fun e he hbd => ?_⟩
        have hm : e.on ∈ afters ops i := by
          unfold afters; rw [Array.getElem?_eq_getElem hi]
          exact List.mem_map.2 ⟨e, List.mem_filter.2 ⟨by simpa using he, hbd⟩, rfl⟩
        have h1 := List.all_eq_true.1 (List.all_eq_true.1 back i (List.mem_range.2 hi)) _ hm
        have h2 : e.on < i := of_decide_eq_true h1
        exact ih _ h2 (by omega)
      rw [hr] at this; cases this
    · simp only [Array.getD_eq_getD_getElem?, Array.getElem?_eq_getElem hil, Option.getD_some] at hb ⊢; exact hb
theorem wpAny_lin {P : Program} {ops : Array Oper} {Q : Exit → Act → World → Prop} (mk : (Nat → Value) → Act) {R : World → Prop} {Keeps : World → World → Prop} {Good : Nat → Value → World → Prop}
    (back : ((List.range ops.size).all fun i => (afters ops i).all fun j => decide (j < i)) = true)
    (mono : ∀ i v w w', Good i v w → Keeps w w' → Good i v w')
    (step : ∀ i, i < ops.size → ∀ x w, R w → (∀ j ∈ afters ops i, Good j (x j) w) → wpOp P ops Q i (fun a' w' => ∃ v, a' = mk (upd x i v) ∧ R w' ∧ Keeps w w' ∧ Good i v w') (mk x) w)
    (done : ∀ x w, R w → (∀ i, i < ops.size → Good i (x i) w) → Q .normal (mk x) w) :
    ∀ (fuel : Nat) (listed : Array Bool) (x : Nat → Value) (w : World), listed.toList.count false ≤ fuel → listed.size = ops.size → R w → (∀ i, i < ops.size → listed.getD i false = true → Good i (x i) w) →
      wpAny P .any ops Q fuel listed (mk x) w := by
  have fin : ∀ (listed : Array Bool) (x : Nat → Value) (w : World), listed.size = ops.size → R w → (∀ i, i < ops.size → listed.getD i false = true → Good i (x i) w) → Region.ready .any ops listed = [] → Q .normal (mk x) w :=
    fun listed x w hs hR hG hr => done x w hR fun i hi => hG i hi (all_listed back hs hr i hi)
  intro fuel
  induction fuel with
  | zero =>
    intro listed x w hc hs hR hG
    have hr : Region.ready .any ops listed = [] := by
      apply List.eq_nil_iff_forall_not_mem.2
      intro i hi
      obtain ⟨h1, o, ho, _⟩ := mem_ready.1 hi
      have hi' : i < ops.size := (Array.getElem?_eq_some_iff.1 ho).1
      have hil : i < listed.size := by omega
      have : false ∈ listed.toList := by
        simp only [Array.getD_eq_getD_getElem?, Array.getElem?_eq_getElem hil, Option.getD_some] at h1
        rw [← h1]; simp
      have := List.count_pos_iff.2 this
      omega
    exact ⟨hr, fin listed x w hs hR hG hr⟩
  | succ fuel ih =>
    intro listed x w hc hs hR hG
    refine ⟨fin listed x w hs hR hG, fun i hi => ?_⟩
    obtain ⟨h1, o, ho, hall⟩ := mem_ready.1 hi
    have hi' : i < ops.size := (Array.getElem?_eq_some_iff.1 ho).1
    have hil : i < listed.size := by omega
    have hdep : ∀ j ∈ afters ops i, Good j (x j) w := by
      intro j hj
      have hji : j < i := of_decide_eq_true (List.all_eq_true.1 (List.all_eq_true.1 back i (List.mem_range.2 hi')) _ hj)
      unfold afters at hj; rw [ho] at hj
      obtain ⟨e, he, rfl⟩ := List.mem_map.1 hj
      obtain ⟨he, hb⟩ := List.mem_filter.1 he
      exact hG _ (by omega) (hall e (by simpa using he) hb)
    refine wpOp_mono ?_ (step i hi' x w hR hdep)
    rintro a' w' ⟨v, rfl, hR', hK, hg⟩
    refine ih _ _ _ ?_ (by simpa using hs) hR' ?_
    · have hf : listed.toList[i]'(by simpa using hil) = false := by
        simp only [Array.getD_eq_getD_getElem?, Array.getElem?_eq_getElem hil, Option.getD_some] at h1
        simpa using h1
      rw [Array.toList_setIfInBounds, List.count_set (by simpa using hil)]
      have : 0 < listed.toList.count false := List.count_pos_iff.2 (by rw [← hf]; exact List.getElem_mem _)
      simp only [hf, beq_self_eq_true, if_true, Bool.true_beq, Bool.false_eq_true, if_false]
      omega
    · intro j hj hl
      rw [getD_set _ _ _ _ hil] at hl
      unfold upd
      by_cases hji : j = i
      · subst hji; simpa using hg
      · rw [if_neg hji] at hl ⊢
        exact mono _ _ _ _ (hG j hj hl) hK
theorem wp_region_lin {P : Program} {ops : Array Oper} {Q : Exit → Act → World → Prop} {id : Nat} {a0 : Act} {w0 : World} (hm : P.follows .mixedOrders = true) (mk : (Nat → Value) → Act) (x0 : Nat → Value) (h0 : a0 = mk x0)
    (R : World → Prop) (Keeps : World → World → Prop) (Good : Nat → Value → World → Prop)
    (back : ((List.range ops.size).all fun i => (afters ops i).all fun j => decide (j < i)) = true)
    (hR : R { w0 with drawn := w0.drawn + 1 })
    (mono : ∀ i v w w', Good i v w → Keeps w w' → Good i v w')
    (step : each (fun i => ∀ x w, R w → (∀ j ∈ afters ops i, Good j (x j) w) → wpOp P ops Q i (fun a' w' => ∃ v, a' = mk (upd x i v) ∧ R w' ∧ Keeps w w' ∧ Good i v w') (mk x) w) ops.size)
    (done : ∀ x w, R w → each (fun i => Good i (x i) w) ops.size → Q .normal (mk x) w) : (Code.region id ops true).wp P Q a0 w0 := by
  subst h0
  refine wp_region_any hm (wpAny_lin mk back mono (each_all step) (fun x w hR hG => done x w hR ?_) _ _ _ _ ?_ (by simp) hR ?_)
  · generalize ops.size = n at hG
    induction n with
    | zero => trivial
    | succ n ih => exact ⟨ih fun i hi => hG i (by omega), hG n (by omega)⟩
  · simp
  · intro i hi hl
    simp [Array.getD_eq_getD_getElem?, hi] at hl
end Go.Wk

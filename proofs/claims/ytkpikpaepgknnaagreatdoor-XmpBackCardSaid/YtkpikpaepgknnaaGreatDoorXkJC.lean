/- Walks and laws, joined: part C. No condition. -/
import Derived.Test.YtkpikpaepgknnaaGreatDoorXkJB
import Derived.Orders
import Derived.Tactics2
import Derived.ProofKit
import Derived.Deep.DeepCutAuto
set_option linter.unusedSimpArgs false
set_option linter.unusedVariables false
/- Is there an attribute of that name among those ahead: one that is another. No condition. -/
namespace Go.Proofs.YtkpikpaepgknnaaGreatDoor
open Go Go.RowKit Go.Wk Go.Xt Go.Xe
set_option maxHeartbeats 1000000 in
set_option maxRecDepth 100000 in
theorem idx_nil {w : World} (A : Option Addr) (c : Nat) (f : Value) :
    Calls Tryz.prog 183 #[.slice A 0 c, f] w fun e w' => e = .returned (.int .i64 (-1)) ∧ w = w' := by
  go_enter Tryz.func183, Tryz.ntmps183
  go_wp2
  refine wp_loop_rounds 1 ?_; rw [rounds_succ]
  go_wp2
  go_ret
  exact ⟨rfl, rfl⟩
set_option maxHeartbeats 1000000 in
set_option maxRecDepth 100000 in
theorem cont_nil {w : World} (A : Option Addr) (c : Nat) (f : Value) :
    Calls Tryz.prog 179 #[.slice A 0 c, f] w fun e w' => e = .returned (.bool false) ∧ w = w' := by
  have ci := fun (w : World) => idx_nil (w := w) A c f
  go_enter Tryz.func179, Tryz.ntmps179
  go_wp2_with (go_at_call 183; (with_reducible refine (ci _).mono ?_); rintro e w1 ⟨rfl, rfl⟩)
  go_ret
  exact ⟨rfl, rfl⟩
set_option maxHeartbeats 1000000 in
set_option maxRecDepth 100000 in
theorem clo_no {w : World} (ga : Nat) (X0 X1 X2 PA NA : ByteArray) (h0 : w.cell? ⟨ga, 0, none⟩ = some (.string PA)) (h1 : w.cell? ⟨ga, 1, none⟩ = some (.string NA)) (hne : ¬ X0.toList = PA.toList ∨ ¬ X1.toList = NA.toList) :
    Calls Tryz.prog 180 #[.agg #[.string X0, .string X1, .string X2], .pointer (some ⟨ga, 0, none⟩)] w fun e w' => e = .returned (.bool false) ∧ Below w.heap.size w w' := by
  have hga := cell_lt h0
  by_cases c0 : X0.toList = PA.toList
  · have c1 : ¬ X1.toList = NA.toList := by rcases hne with h | h; exact absurd c0 h; exact h
    have c0' : (X0.toList == PA.toList) = true := by simpa using c0
    have c1' : (X1.toList == NA.toList) = false := by simpa using c1
    clear hne
    go_enter Tryz.func180, Tryz.ntmps180
    go_wp2
    go_ret
    exact ⟨rfl, (Below.refl _ _).alloc (Nat.le_refl _) _⟩
  · have c0' : (X0.toList == PA.toList) = false := by simpa using c0
    clear hne
    go_enter Tryz.func180, Tryz.ntmps180
    go_wp2
    go_ret
    exact ⟨rfl, (Below.refl _ _).alloc (Nat.le_refl _) _⟩
set_option maxHeartbeats 1000000 in
set_option maxRecDepth 100000 in
theorem idx_one {w : World} (g c ga : Nat) (hc : 1 ≤ c) (X0 X1 X2 PA NA : ByteArray) (x0 : w.cell? ⟨g, 0, none⟩ = some (.string X0)) (x1 : w.cell? ⟨g, 1, none⟩ = some (.string X1)) (x2 : w.cell? ⟨g, 2, none⟩ = some (.string X2)) (h0 : w.cell? ⟨ga, 0, none⟩ = some (.string PA)) (h1 : w.cell? ⟨ga, 1, none⟩ = some (.string NA)) (hne : ¬ X0.toList = PA.toList ∨ ¬ X1.toList = NA.toList) :
    Calls Tryz.prog 183 #[.slice (some ⟨g, 0, none⟩) 1 c, .func (.func 180) #[] #[.pointer (some ⟨ga, 0, none⟩)]] w fun e w' => e = .returned (.int .i64 (-1)) ∧ Below w.heap.size w w' := by
  have cc := clo_no (w := w) ga X0 X1 X2 PA NA h0 h1 hne
  clear hne
  go_enter Tryz.func183, Tryz.ntmps183
  go_wp2
  refine wp_loop_rounds 2 ?_; rw [rounds_succ]
  go_wp2_with (go_at_call 180; (with_reducible refine cc.mono ?_); rintro e w1 ⟨rfl, b1⟩; replace b1 := Lib.hid b1)
  rw [rounds_succ]
  go_wp2
  go_ret
  exact ⟨rfl, b1.out⟩
set_option maxHeartbeats 1000000 in
set_option maxRecDepth 100000 in
theorem cont_one {w : World} (g c ga : Nat) (hc : 1 ≤ c) (X0 X1 X2 PA NA : ByteArray) (x0 : w.cell? ⟨g, 0, none⟩ = some (.string X0)) (x1 : w.cell? ⟨g, 1, none⟩ = some (.string X1)) (x2 : w.cell? ⟨g, 2, none⟩ = some (.string X2)) (h0 : w.cell? ⟨ga, 0, none⟩ = some (.string PA)) (h1 : w.cell? ⟨ga, 1, none⟩ = some (.string NA)) (hne : ¬ X0.toList = PA.toList ∨ ¬ X1.toList = NA.toList) :
    Calls Tryz.prog 179 #[.slice (some ⟨g, 0, none⟩) 1 c, .func (.func 180) #[] #[.pointer (some ⟨ga, 0, none⟩)]] w fun e w' => e = .returned (.bool false) ∧ Below w.heap.size w w' := by
  have ci := idx_one (w := w) g c ga hc X0 X1 X2 PA NA x0 x1 x2 h0 h1 hne
  clear hne
  go_enter Tryz.func179, Tryz.ntmps179
  go_wp2_with (go_at_call 183; (with_reducible refine ci.mono ?_); rintro e w1 ⟨rfl, b1⟩; replace b1 := Lib.hid b1)
  go_ret
  exact ⟨rfl, b1.out⟩
/-- what attributes say of things in front of names, behind what was said ahead -/
def bindsOf : List (List UInt8 × List UInt8 × List UInt8) → List (List UInt8 × List UInt8) → List (List UInt8 × List UInt8)
  | [], B => B
  | a :: l, B => bindsOf l (if a.1 = [120, 109, 108, 110, 115] then B ++ [(a.2.1, a.2.2)] else if a.1 = [] ∧ a.2.1 = [120, 109, 108, 110, 115] then B ++ [([], a.2.2)] else B)
/-- all lies as it lay, but for two blocks and the row of what is bound -/
structure FrX (L R : Nat) (bv bv' : Value) (w w' : World) : Prop where
  os : w'.os = w.os
  tape : w'.tape = w.tape
  output : w'.output = w.output
  size : w.heap.size ≤ w'.heap.size
  block : ∀ k, k < w.heap.size → k ≠ L → k ≠ R → bv.ownBlock ≠ some k → w'.heap[k]? = w.heap[k]?
  own : bv'.ownBlock = bv.ownBlock ∨ ∀ k, bv'.ownBlock = some k → w.heap.size ≤ k
theorem FrX.of_fr {L R : Nat} {bv : Value} {w w' : World} (h : Fr L R w w') : FrX L R bv bv w w' := ⟨h.os, h.tape, h.output, h.size, fun k h1 h2 h3 _ => h.block k h1 h2 h3, .inl rfl⟩
theorem FrX.trans {L R : Nat} {b0 b1 b2 : Value} {w w1 w2 : World} (h : FrX L R b0 b1 w w1) (k : FrX L R b1 b2 w1 w2) : FrX L R b0 b2 w w2 := by
  refine ⟨k.os.trans h.os, k.tape.trans h.tape, k.output.trans h.output, Nat.le_trans h.size k.size, fun j h1 h2 h3 h4 => ?_, ?_⟩
  · refine (k.block j (Nat.lt_of_lt_of_le h1 h.size) h2 h3 fun e => ?_).trans (h.block j h1 h2 h3 h4)
    rcases h.own with h5 | h5
    · exact h4 (h5 ▸ e)
    · have := h5 j e; omega
  · rcases k.own with h5 | h5
    · rw [h5]; exact h.own
    · exact .inr fun j e => Nat.le_trans h.size (h5 j e)
end Go.Proofs.YtkpikpaepgknnaaGreatDoor

/- A region that draws its order: each operation is looked at once. No condition. -/
/-! A region that draws its order, each operation looked at once -/
namespace Go.Wk
open Go
def upd (x : Nat → Value) (i : Nat) (v : Value) : Nat → Value := fun j => if j = i then v else x j
/-- what the operation waits for -/
def afters (ops : Array Oper) (i : Nat) : List Nat := match ops[i]? with
  | none => []
  | some o => (o.after.toList.filter fun e => Region.binds .any e).map (·.on)
def each (p : Nat → Prop) : Nat → Prop
  | 0 => True
  | n + 1 => each p n ∧ p n
theorem each_all {p : Nat → Prop} : ∀ {n : Nat}, each p n → ∀ i, i < n → p i
  | n + 1, h, i, hi => by
    rcases Nat.lt_or_ge i n with h' | h'
    · exact each_all h.1 i h'
    · have : i = n := by omega
      subst this; exact h.2
theorem getD_set (l : Array Bool) (i j : Nat) (b : Bool) (hi : i < l.size) : (l.setIfInBounds i true).getD j b = if j = i then true else l.getD j b := by
  simp only [Array.getD_eq_getD_getElem?, Array.getElem?_setIfInBounds]
  by_cases h : i = j
  · subst h; simp [hi]
  · simp [h, Ne.symm h]
theorem all_listed {ops : Array Oper} {listed : Array Bool} (back : ((List.range ops.size).all fun i => (afters ops i).all fun j => decide (j < i)) = true) (hs : listed.size = ops.size) (hr : Region.ready .any ops listed = []) :
    ∀ i, i < ops.size → listed.getD i false = true := by
  intro i
  induction i using Nat.strongRecOn with
  | _ i ih =>
    intro hi
    have hil : i < listed.size := by omega
    rcases hb : listed.getD i true with _ | _
    · exfalso
      have : i ∈ Region.ready .any ops listed := by
        rw [mem_ready]
        refine ⟨hb, ops[i], by simp [hi], fun e he hbd => ?_⟩
        have hm : e.on ∈ afters ops i := by
          unfold afters; rw [Array.getElem?_eq_getElem hi]
          exact List.mem_map.2 ⟨e, List.mem_filter.2 ⟨by simpa using he, hbd⟩, rfl⟩
        have h1 := List.all_eq_true.1 (List.all_eq_true.1 back i (List.mem_range.2 hi)) _ hm
        have h2 : e.on < i := of_decide_eq_true h1
        exact ih _ h2 (by omega)
      rw [hr] at this; cases this
    · simp only [Array.getD_eq_getD_getElem?, Array.getElem?_eq_getElem hil, Option.getD_some] at hb ⊢; exact hb
theorem wpAny_lin {P : Program} {ops : Array Oper} {Q : Exit → Act → World → Prop} (mk : (Nat → Value) → Act) {R : World → Prop} {Keeps : World → World → Prop} {Good : Nat → Value → World → Prop}
    (back : ((List.range ops.size).all fun i => (afters ops i).all fun j => decide (j < i)) = true)
    (mono : ∀ i v w w', Good i v w → Keeps w w' → Good i v w')
    (step : ∀ i, i < ops.size → ∀ x w, R w → (∀ j ∈ afters ops i, Good j (x j) w) → wpOp P ops Q i (fun a' w' => ∃ v, a' = mk (upd x i v) ∧ R w' ∧ Keeps w w' ∧ Good i v w') (mk x) w)
    (done : ∀ x w, R w → (∀ i, i < ops.size → Good i (x i) w) → Q .normal (mk x) w) :
    ∀ (fuel : Nat) (listed : Array Bool) (x : Nat → Value) (w : World), listed.toList.count false ≤ fuel → listed.size = ops.size → R w → (∀ i, i < ops.size → listed.getD i false = true → Good i (x i) w) →
      wpAny P .any ops Q fuel listed (mk x) w := by
  have fin : ∀ (listed : Array Bool) (x : Nat → Value) (w : World), listed.size = ops.size → R w → (∀ i, i < ops.size → listed.getD i false = true → Good i (x i) w) → Region.ready .any ops listed = [] → Q .normal (mk x) w :=
    fun listed x w hs hR hG hr => done x w hR fun i hi => hG i hi (all_listed back hs hr i hi)
  intro fuel
  induction fuel with
  | zero =>
    intro listed x w hc hs hR hG
    have hr : Region.ready .any ops listed = [] := by
      apply List.eq_nil_iff_forall_not_mem.2
      intro i hi
      obtain ⟨h1, o, ho, _⟩ := mem_ready.1 hi
      have hi' : i < ops.size := (Array.getElem?_eq_some_iff.1 ho).1
      have hil : i < listed.size := by omega
      have : false ∈ listed.toList := by
        simp only [Array.getD_eq_getD_getElem?, Array.getElem?_eq_getElem hil, Option.getD_some] at h1
        rw [← h1]; simp
      have := List.count_pos_iff.2 this
      omega
    exact ⟨hr, fin listed x w hs hR hG hr⟩
  | succ fuel ih =>
    intro listed x w hc hs hR hG
    refine ⟨fin listed x w hs hR hG, fun i hi => ?_⟩
    obtain ⟨h1, o, ho, hall⟩ := mem_ready.1 hi
    have hi' : i < ops.size := (Array.getElem?_eq_some_iff.1 ho).1
    have hil : i < listed.size := by omega
    have hdep : ∀ j ∈ afters ops i, Good j (x j) w := by
      intro j hj
      have hji : j < i := of_decide_eq_true (List.all_eq_true.1 (List.all_eq_true.1 back i (List.mem_range.2 hi')) _ hj)
      unfold afters at hj; rw [ho] at hj
      obtain ⟨e, he, rfl⟩ := List.mem_map.1 hj
      obtain ⟨he, hb⟩ := List.mem_filter.1 he
      exact hG _ (by omega) (hall e (by simpa using he) hb)
    refine wpOp_mono ?_ (step i hi' x w hR hdep)
    rintro a' w' ⟨v, rfl, hR', hK, hg⟩
    refine ih _ _ _ ?_ (by simpa using hs) hR' ?_
    · have hf : listed.toList[i]'(by simpa using hil) = false := by
        simp only [Array.getD_eq_getD_getElem?, Array.getElem?_eq_getElem hil, Option.getD_some] at h1
        simpa using h1
      rw [Array.toList_setIfInBounds, List.count_set (by simpa using hil)]
      have : 0 < listed.toList.count false := List.count_pos_iff.2 (by rw [← hf]; exact List.getElem_mem _)
      simp only [hf, beq_self_eq_true, if_true, Bool.true_beq, Bool.false_eq_true, if_false]
      omega
    · intro j hj hl
      rw [getD_set _ _ _ _ hil] at hl
      unfold upd
      by_cases hji : j = i
      · subst hji; simpa using hg
      · rw [if_neg hji] at hl ⊢
        exact mono _ _ _ _ (hG j hj hl) hK
theorem wp_region_lin {P : Program} {ops : Array Oper} {Q : Exit → Act → World → Prop} {id : Nat} {a0 : Act} {w0 : World} (hm : P.follows .mixedOrders = true) (mk : (Nat → Value) → Act) (x0 : Nat → Value) (h0 : a0 = mk x0)
    (R : World → Prop) (Keeps : World → World → Prop) (Good : Nat → Value → World → Prop)
    (back : ((List.range ops.size).all fun i => (afters ops i).all fun j => decide (j < i)) = true)
    (hR : R { w0 with drawn := w0.drawn + 1 })
    (mono : ∀ i v w w', Good i v w → Keeps w w' → Good i v w')
    (step : each (fun i => ∀ x w, R w → (∀ j ∈ afters ops i, Good j (x j) w) → wpOp P ops Q i (fun a' w' => ∃ v, a' = mk (upd x i v) ∧ R w' ∧ Keeps w w' ∧ Good i v w') (mk x) w) ops.size)
    (done : ∀ x w, R w → each (fun i => Good i (x i) w) ops.size → Q .normal (mk x) w) : (Code.region id ops true).wp P Q a0 w0 := by
  subst h0
  refine wp_region_any hm (wpAny_lin mk back mono (each_all step) (fun x w hR hG => done x w hR ?_) _ _ _ _ ?_ (by simp) hR ?_)
  · generalize ops.size = n at hG
    induction n with
    | zero => trivial
    | succ n ih => exact ⟨ih fun i hi => hG i (by omega), hG n (by omega)⟩
  · simp
  · intro i hi hl
    simp [Array.getD_eq_getD_getElem?, hi] at hl
end Go.Wk

/- A drawn region, one goal an operation, the frame said by a list. No condition. -/
/-! A drawn region, one goal an operation, the frame said by a list: which operation fills which place -/
namespace Go.Wk
open Go
/-- what is known of what was waited for -/
def All (G : Nat → Value → World → Prop) (x : Nat → Value) (w : World) : List Nat → Prop
  | [] => True
  | j :: js => G j (x j) w ∧ All G x w js
theorem all_of {G : Nat → Value → World → Prop} {x : Nat → Value} {w : World} : ∀ {js : List Nat}, (∀ j ∈ js, G j (x j) w) → All G x w js
  | [], _ => trivial
  | _ :: _, h => ⟨h _ (List.mem_cons_self ..), all_of fun j hj => h j (List.mem_cons_of_mem _ hj)⟩
/-- one operation -/
def Step (P : Program) (ops : Array Oper) (Q : Exit → Act → World → Prop) (mk : (Nat → Value) → Act) (R : World → Prop) (Keeps : World → World → Prop) (G : Nat → Value → World → Prop) (i : Nat) : Prop :=
  ∀ x w, R w → (∀ j ∈ afters ops i, G j (x j) w) → wpOp P ops Q i (fun a' w' => ∃ v, a' = mk (upd x i v) ∧ R w' ∧ Keeps w w' ∧ G i v w') (mk x) w
theorem step_of {P : Program} {ops : Array Oper} {Q : Exit → Act → World → Prop} {mk : (Nat → Value) → Act} {R : World → Prop} {Keeps : World → World → Prop} {G : Nat → Value → World → Prop} {i : Nat} {o : Oper} (js : List Nat)
    (ho : ops[i]? = some o) (hj : (js.all fun j => (afters ops i).contains j) = true)
    (h : ∀ x w, R w → All G x w js → ∀ K : Act → World → Prop, (∀ v w', R w' ∧ Keeps w w' ∧ G i v w' → K (mk (upd x i v)) w') →
      if Region.wanted o (yielded ops (mk x).tmps) = true then Oper.wp P o (mk x) w K Q else K ((mk x).put o.dst undef) w) : Step P ops Q mk R Keeps G i := by
  intro x w hR hd
  unfold wpOp
  simp only [ho]
  have h1 := h x w hR (all_of fun j hj' => hd j (List.contains_iff_mem.1 (List.all_eq_true.1 hj j hj'))) (fun a' w' => ∃ v, a' = mk (upd x i v) ∧ R w' ∧ Keeps w w' ∧ G i v w') (fun v w' h => ⟨v, rfl, h.1, h.2.1, h.2.2⟩)
  split
  · rename_i hw; rw [if_pos hw] at h1; exact .inl h1
  · rename_i hw; rw [if_neg hw] at h1; exact h1
inductive Steps (p : Nat → Prop) : Nat → Prop
  | nil : Steps p 0
  | cons (n : Nat) (h : p n) (t : Steps p n) : Steps p (n + 1)
theorem Steps.each {p : Nat → Prop} : ∀ {n : Nat}, Steps p n → Wk.each p n
  | _, .nil => trivial
  | _, .cons n h t => ⟨t.each, h⟩
/-- the frame: each place by the operation that fills it, or as it was -/
def fillL : List Value → List (Option Nat) → (Nat → Value) → List Value
  | v :: vs, some i :: ss, x => x i :: fillL vs ss x
  | v :: vs, none :: ss, x => v :: fillL vs ss x
  | vs, [], _ => vs
  | [], _, _ => []
def oldX : List Value → List (Option Nat) → Nat → Value
  | v :: vs, some i :: ss, j => if j = i then v else oldX vs ss j
  | _ :: vs, none :: ss, j => oldX vs ss j
  | _, _, _ => undef
theorem wp_lin {P : Program} {ops : Array Oper} {Q : Exit → Act → World → Prop} {id : Nat} {tm : List Value} {df : List Deferred} {w0 : World} (hm : P.follows .mixedOrders = true) (ss : List (Option Nat))
    (R : World → Prop) (Keeps : World → World → Prop) (G : Nat → Value → World → Prop)
    (h0 : fillL tm ss (oldX tm ss) = tm)
    (back : ((List.range ops.size).all fun i => (afters ops i).all fun j => decide (j < i)) = true)
    (n : Nat) (hn : ops.size = n)
    (hR : R w0.drew)
    (mono : ∀ i v w w', G i v w → Keeps w w' → G i v w')
    (step : Steps (Step P ops Q (fun x => { tmps := (fillL tm ss x).toArray, defers := df }) R Keeps G) n)
    (done : ∀ x w, R w → (∀ i, i < n → G i (x i) w) → Q .normal { tmps := (fillL tm ss x).toArray, defers := df } w) : (Code.region id ops true).wp P Q { tmps := tm.toArray, defers := df } w0 := by
  subst hn
  exact wp_region_lin hm (fun x => { tmps := (fillL tm ss x).toArray, defers := df }) (oldX tm ss) (by rw [h0]) R Keeps G back hR mono step.each fun x w hR h => done x w hR (each_all h)
end Go.Wk

/- A drawn region with one operation behind all others: each operation looked at once. No condition. -/
namespace Go.Wk
open Go
theorem wpAny_all {P : Program} {ops : Array Oper} {Q : Exit → Act → World → Prop} (listed : Array Bool) (a : Act) (w : World) (hl : ∀ i, i < ops.size → listed.getD i false = true) (hs : listed.size = ops.size) (hQ : Q .normal a w) : ∀ fuel, wpAny P .any ops Q fuel listed a w := by
  have hr : Region.ready .any ops listed = [] := by
    apply List.eq_nil_iff_forall_not_mem.2
    intro i hi
    obtain ⟨h1, o, ho, _⟩ := mem_ready.1 hi
    have hi' : i < ops.size := (Array.getElem?_eq_some_iff.1 ho).1
    have hil : i < listed.size := by omega
    have h2 := hl i hi'
    simp only [Array.getD_eq_getD_getElem?, Array.getElem?_eq_getElem hil, Option.getD_some] at h1 h2
    rw [h1] at h2; cases h2
  intro fuel
  cases fuel with
  | zero => exact ⟨hr, hQ⟩
  | succ fuel => exact ⟨fun _ => hQ, fun i hi => by rw [hr] at hi; cases hi⟩
theorem wpAny_last {P : Program} {ops : Array Oper} {Q : Exit → Act → World → Prop} (mk : (Nat → Value) → Act) {R : World → Prop} {Keeps : World → World → Prop} {Good : Nat → Value → World → Prop} (last : Nat) (hlast : last < ops.size)
    (back : ((List.range ops.size).all fun i => (afters ops i).all fun j => decide (j < i)) = true)
    (wit : List Nat) (cover : ((List.range ops.size).all fun i => i == last || (afters ops (wit.getD i 0)).contains i) = true)
    (mono : ∀ i v w w', Good i v w → Keeps w w' → Good i v w')
    (step : ∀ i, i < ops.size → i ≠ last → ∀ x w, R w → (∀ j ∈ afters ops i, Good j (x j) w) → wpOp P ops Q i (fun a' w' => ∃ v, a' = mk (upd x i v) ∧ R w' ∧ Keeps w w' ∧ Good i v w') (mk x) w)
    (fin : ∀ x w, R w → (∀ i, i < ops.size → i ≠ last → Good i (x i) w) → wpOp P ops Q last (fun a' w' => Q .normal a' w') (mk x) w) :
    ∀ (fuel : Nat) (listed : Array Bool) (x : Nat → Value) (w : World), listed.toList.count false ≤ fuel → listed.size = ops.size → R w → (∀ i, i < ops.size → listed.getD i false = true → Good i (x i) w) →
      listed.getD last false = false → (∀ i, i < ops.size → listed.getD i false = true → ∀ j ∈ afters ops i, listed.getD j false = true) → wpAny P .any ops Q fuel listed (mk x) w := by
  have gd : ∀ {listed : Array Bool} {i : Nat}, i < listed.size → listed.getD i true = listed.getD i false := fun {listed i} h => by
    simp only [Array.getD_eq_getD_getElem?, Array.getElem?_eq_getElem h, Option.getD_some]
  have ltj : ∀ i j, i < ops.size → j ∈ afters ops i → j < i := fun i j hi hj => of_decide_eq_true (List.all_eq_true.1 (List.all_eq_true.1 back i (List.mem_range.2 hi)) _ hj)
  intro fuel
  induction fuel with
  | zero =>
    intro listed x w hc hs hR hG hl hd
    exfalso
    have hil : last < listed.size := by omega
    have : false ∈ listed.toList := by
      simp only [Array.getD_eq_getD_getElem?, Array.getElem?_eq_getElem hil, Option.getD_some] at hl
      rw [← hl]; simp
    have := List.count_pos_iff.2 this
    omega
  | succ fuel ih =>
    intro listed x w hc hs hR hG hl hd
    refine ⟨fun hr => absurd (all_listed back hs hr last hlast) (by rw [hl]; simp), fun i hi => ?_⟩
    obtain ⟨h1, o, ho, hall⟩ := mem_ready.1 hi
    have hi' : i < ops.size := (Array.getElem?_eq_some_iff.1 ho).1
    have hil : i < listed.size := by omega
    have haft : ∀ j ∈ afters ops i, listed.getD j false = true := by
      intro j hj
      unfold afters at hj; rw [ho] at hj
      obtain ⟨e, he, rfl⟩ := List.mem_map.1 hj
      obtain ⟨he, hb⟩ := List.mem_filter.1 he
      exact hall e (by simpa using he) hb
    by_cases hil2 : i = last
    · subst hil2
      have hothers : ∀ n k, k < ops.size → ops.size ≤ k + n → k ≠ i → listed.getD k false = true := by
        intro n
        induction n with
        | zero => intro k hk hn; omega
        | succ n ihn =>
          intro k hk hn hki
          have hcv := List.all_eq_true.1 cover k (List.mem_range.2 hk)
          rw [Bool.or_eq_true, beq_iff_eq] at hcv
          rcases hcv with hcv | hcv
          · exact absurd hcv hki
          · obtain ⟨j, hjj⟩ : ∃ j, j = wit.getD k 0 := ⟨_, rfl⟩
            rw [← hjj] at hcv
            have hjk := List.contains_iff_mem.1 hcv
            have hj : j < ops.size := by
              rcases Nat.lt_or_ge j ops.size with h | h
              · exact h
              · unfold afters at hjk; rw [Array.getElem?_eq_none h] at hjk; cases hjk
            have hlt := ltj j k hj hjk
            by_cases hji : j = i
            · subst hji; exact haft k hjk
            · exact hd j hj (ihn j hj (by omega) hji) k hjk
      have hG' : ∀ k, k < ops.size → k ≠ i → Good k (x k) w := fun k hk hki => hG k hk (hothers ops.size k hk (by omega) hki)
      refine wpOp_mono ?_ (fin x w hR hG')
      intro a' w' hQ
      refine wpAny_all _ _ _ (fun k hk => ?_) (by simpa using hs) hQ fuel
      rw [getD_set _ _ _ _ hil]
      by_cases hki : k = i
      · rw [if_pos hki]
      · rw [if_neg hki]; exact hothers ops.size k hk (by omega) hki
    · refine wpOp_mono ?_ (step i hi' hil2 x w hR fun j hj => hG j (by have := ltj i j hi' hj; omega) (haft j hj))
      rintro a' w' ⟨v, rfl, hR', hK, hg⟩
      refine ih _ _ _ ?_ (by simpa using hs) hR' ?_ ?_ ?_
      · have hf : listed.toList[i]'(by simpa using hil) = false := by
          simp only [Array.getD_eq_getD_getElem?, Array.getElem?_eq_getElem hil, Option.getD_some] at h1
          simpa using h1
        rw [Array.toList_setIfInBounds, List.count_set (by simpa using hil)]
        have : 0 < listed.toList.count false := List.count_pos_iff.2 (by rw [← hf]; exact List.getElem_mem _)
        simp only [hf, beq_self_eq_true, if_true, Bool.true_beq, Bool.false_eq_true, if_false]
        omega
      · intro j hj hl
        rw [getD_set _ _ _ _ hil] at hl
        unfold upd
        by_cases hji : j = i
        · subst hji; simpa using hg
        · rw [if_neg hji] at hl ⊢
          exact mono _ _ _ _ (hG j hj hl) hK
      · rw [getD_set _ _ _ _ hil, if_neg (fun e => hil2 e.symm)]; exact hl
      · intro k hk hkl j hj
        rw [getD_set _ _ _ _ hil] at hkl ⊢
        by_cases hji : j = i
        · rw [if_pos hji]
        · rw [if_neg hji]
          by_cases hki : k = i
          · subst hki; exact haft j hj
          · rw [if_neg hki] at hkl; exact hd k hk hkl j hj
theorem wp_lin_last {P : Program} {ops : Array Oper} {Q : Exit → Act → World → Prop} {id : Nat} {tm : List Value} {df : List Deferred} {w0 : World} (hm : P.follows .mixedOrders = true) (ss : List (Option Nat))
    (R : World → Prop) (Keeps : World → World → Prop) (G : Nat → Value → World → Prop) (o : Oper)
    (h0 : fillL tm ss (oldX tm ss) = tm)
    (back : ((List.range ops.size).all fun i => (afters ops i).all fun j => decide (j < i)) = true)
    (n : Nat) (hn : ops.size = n + 1) (ho : ops[n]? = some o)
    (hgd : o.guard = none) (wit : List Nat) (cover : ((List.range ops.size).all fun i => i == n || (afters ops (wit.getD i 0)).contains i) = true)
    (hR : R w0.drew)
    (mono : ∀ i v w w', G i v w → Keeps w w' → G i v w')
    (step : Steps (Step P ops Q (fun x => { tmps := (fillL tm ss x).toArray, defers := df }) R Keeps G) n)
    (done : ∀ x w, R w → (∀ i, i < n → G i (x i) w) →
      ∀ fr, fr = fillL tm ss x → Oper.wp P o { tmps := fr.toArray, defers := df } w (fun a' w' => Q .normal a' w') Q) :
    (Code.region id ops true).wp P Q { tmps := tm.toArray, defers := df } w0 := by
  have e0 : ({ tmps := tm.toArray, defers := df } : Act) = (fun x => ({ tmps := (fillL tm ss x).toArray, defers := df } : Act)) (oldX tm ss) := by simp only [h0]
  rw [e0]
  refine wp_region_any hm (wpAny_last (fun x => { tmps := (fillL tm ss x).toArray, defers := df }) n (by omega) back wit cover mono (fun i hi hne => each_all step.each i (by omega)) (fun x w hR hG => ?_) _ _ _ _ ?_ (by simp) hR ?_ ?_ ?_)
  · have h1 := done x w hR (fun i hi => hG i (by omega) (by omega)) _ rfl
    unfold wpOp
    have hw : Region.wanted o (yielded ops (fillL tm ss x).toArray) = true := by simp [Region.wanted, hgd]
    simp only [ho, hw, if_true]
    exact .inl h1
  · simp
  · intro i hi hl
    simp [Array.getD_eq_getD_getElem?, hi] at hl
  · simp [Array.getD_eq_getD_getElem?, hn]
  · intro i hi hl
    simp [Array.getD_eq_getD_getElem?, hi] at hl
end Go.Wk

/- A drawn region: operations in whatever order, each looked at once, and a tail that is forced. No condition. -/
namespace Go.Wk
open Go
section
variable {P : Program} {ops : Array Oper} {Q : Exit → Act → World → Prop}
theorem afters_lt {n : Nat} (back : ((List.range ops.size).all fun i => (afters ops i).all fun j => decide (j < i)) = true) (i j : Nat) (hi : i < ops.size) (hj : j ∈ afters ops i) : j < i :=
  of_decide_eq_true (List.all_eq_true.1 (List.all_eq_true.1 back i (List.mem_range.2 hi)) _ hj)
theorem count_up {listed : Array Bool} {i fuel : Nat} (hil : i < listed.size) (h1 : listed.getD i true = false) (hc : listed.toList.count false ≤ fuel + 1) : (listed.setIfInBounds i true).toList.count false ≤ fuel := by
  have hf : listed.toList[i]'(by simpa using hil) = false := by
    simp only [Array.getD_eq_getD_getElem?, Array.getElem?_eq_getElem hil, Option.getD_some] at h1
    simpa using h1
  rw [Array.toList_setIfInBounds, List.count_set (by simpa using hil)]
  have : 0 < listed.toList.count false := List.count_pos_iff.2 (by rw [← hf]; exact List.getElem_mem _)
  simp only [hf, beq_self_eq_true, if_true, Bool.true_beq, Bool.false_eq_true, if_false]
  omega
theorem count_none {listed : Array Bool} {i : Nat} (hil : i < listed.size) (hl : listed.getD i false = false) (hc : listed.toList.count false ≤ 0) : False := by
  have : false ∈ listed.toList := by
    simp only [Array.getD_eq_getD_getElem?, Array.getElem?_eq_getElem hil, Option.getD_some] at hl
    rw [← hl]; simp
  have := List.count_pos_iff.2 this
  omega
theorem ready_after {listed : Array Bool} {i : Nat} (hi : i ∈ Region.ready .any ops listed) : i < ops.size ∧ listed.getD i true = false ∧ ∀ j ∈ afters ops i, listed.getD j false = true := by
  obtain ⟨h1, o, ho, hall⟩ := mem_ready.1 hi
  refine ⟨(Array.getElem?_eq_some_iff.1 ho).1, h1, fun j hj => ?_⟩
  unfold afters at hj; rw [ho] at hj
  obtain ⟨e, he, rfl⟩ := List.mem_map.1 hj
  obtain ⟨he, hb⟩ := List.mem_filter.1 he
  exact hall e (by simpa using he) hb
theorem wpAny_tail (n : Nat) (back : ((List.range ops.size).all fun i => (afters ops i).all fun j => decide (j < i)) = true)
    (chain : ((List.range ops.size).all fun j => Nat.ble j n || (afters ops j).contains (j - 1)) = true) :
    ∀ (l : List Oper) (k fuel : Nat) (listed : Array Bool) (a : Act) (w : World), n ≤ k → k + l.length = ops.size → (∀ j, l[j]? = ops[k + j]?) → listed.size = ops.size → listed.toList.count false ≤ fuel →
      (∀ i, i < ops.size → (listed.getD i false = true ↔ i < k)) → wpList P ops Q l a w → wpAny P .any ops Q fuel listed a w := by
  intro l
  induction l with
  | nil =>
    intro k fuel listed a w hn hk hl hs hc hL hw
    exact wpAny_all listed a w (fun i hi => (hL i hi).2 (by simp at hk; omega)) hs hw fuel
  | cons o l ih =>
    intro k fuel listed a w hn hk hl hs hc hL hw
    simp only [List.length_cons] at hk
    have hkn : k < ops.size := by omega
    have hkf : listed.getD k false = false := by
      cases h : listed.getD k false with
      | false => rfl
      | true => have := (hL k hkn).1 h; omega
    have ho : ops[k]? = some o := by have := hl 0; simpa using this.symm
    cases fuel with
    | zero => exact (count_none (by omega) hkf hc).elim
    | succ fuel =>
      refine ⟨fun hr => absurd (all_listed back hs hr k hkn) (by rw [hkf]; simp), fun i hi => ?_⟩
      obtain ⟨hi', h1, haft⟩ := ready_after hi
      have hif : listed.getD i false = false := by
        have hil : i < listed.size := by omega
        simp only [Array.getD_eq_getD_getElem?, Array.getElem?_eq_getElem hil, Option.getD_some] at h1 ⊢
        exact h1
      have hik : i = k := by
        have h2 : ¬ i < k := fun h => by rw [(hL i hi').2 h] at hif; cases hif
        rcases Nat.lt_or_ge k i with h3 | h3
        · exfalso
          have hch := List.all_eq_true.1 chain i (List.mem_range.2 hi')
          rw [Bool.or_eq_true] at hch
          rcases hch with hch | hch
          · have := Nat.le_of_ble_eq_true hch; omega
          · have := haft _ (List.contains_iff_mem.1 hch)
            have := (hL (i - 1) (by omega)).1 this
            omega
        · omega
      subst hik
      have hnext : ∀ a' w', wpList P ops Q l a' w' → wpAny P .any ops Q fuel (listed.setIfInBounds i true) a' w' := fun a' w' h =>
        ih (i + 1) fuel _ a' w' (by omega) (by omega) (fun j => by have := hl (j + 1); rw [List.getElem?_cons_succ] at this; rw [this]; congr 1; omega) (by simpa using hs) (count_up (by omega) h1 hc)
          (fun q hq => by
            rw [getD_set _ _ _ _ (by omega)]
            by_cases hqi : q = i
            · subst hqi; simp
            · rw [if_neg hqi, hL q hq]; omega) h
      unfold wpOp
      simp only [ho]
      unfold wpList at hw
      split
      · rename_i hwt
        rw [if_pos hwt] at hw
        rcases hw with hw | hw
        · exact .inl (Oper.wp_mono hnext hw)
        · exact .inr hw
      · rename_i hwt
        rw [if_neg hwt] at hw
        exact hnext _ _ hw
theorem wpAny_free (mk : (Nat → Value) → Act) {R : World → Prop} {Keeps : World → World → Prop} {Good : Nat → Value → World → Prop} (n : Nat) (hn : n < ops.size) (l : List Oper) (hln : n + l.length = ops.size) (hl : ∀ j, l[j]? = ops[n + j]?)
    (back : ((List.range ops.size).all fun i => (afters ops i).all fun j => decide (j < i)) = true)
    (chain : ((List.range ops.size).all fun j => Nat.ble j n || (afters ops j).contains (j - 1)) = true)
    (wit : List Nat) (cover : ((List.range n).all fun i => (afters ops (wit.getD i 0)).contains i && Nat.ble (wit.getD i 0) n) = true)
    (mono : ∀ i v w w', Good i v w → Keeps w w' → Good i v w')
    (step : ∀ i, i < n → ∀ x w, R w → (∀ j ∈ afters ops i, Good j (x j) w) → wpOp P ops Q i (fun a' w' => ∃ v, a' = mk (upd x i v) ∧ R w' ∧ Keeps w w' ∧ Good i v w') (mk x) w)
    (fin : ∀ x w, R w → (∀ i, i < n → Good i (x i) w) → wpList P ops Q l (mk x) w) :
    ∀ (fuel : Nat) (listed : Array Bool) (x : Nat → Value) (w : World), listed.toList.count false ≤ fuel → listed.size = ops.size → R w → (∀ i, i < n → listed.getD i false = true → Good i (x i) w) →
      (∀ i, n ≤ i → i < ops.size → listed.getD i false = false) → (∀ i, i < ops.size → listed.getD i false = true → ∀ j ∈ afters ops i, listed.getD j false = true) → wpAny P .any ops Q fuel listed (mk x) w := by
  intro fuel
  induction fuel with
  | zero =>
    intro listed x w hc hs hR hG hl0 hd
    exact (count_none (i := n) (by omega) (hl0 n (Nat.le_refl _) hn) hc).elim
  | succ fuel ih =>
    intro listed x w hc hs hR hG hl0 hd
    refine ⟨fun hr => absurd (all_listed back hs hr n hn) (by rw [hl0 n (Nat.le_refl _) hn]; simp), fun i hi => ?_⟩
    have hi0 := hi
    obtain ⟨hi', h1, haft⟩ := ready_after hi
    rcases Nat.lt_or_ge i n with hin | hin
    · refine wpOp_mono ?_ (step i hin x w hR fun j hj => hG j (by have := afters_lt (n := 0) back i j hi' hj; omega) (haft j hj))
      rintro a' w' ⟨v, rfl, hR', hK, hg⟩
      refine ih _ _ _ (count_up (by omega) h1 hc) (by simpa using hs) hR' ?_ ?_ ?_
      · intro j hj hlj
        rw [getD_set _ _ _ _ (by omega)] at hlj
        unfold upd
        by_cases hji : j = i
        · subst hji; simpa using hg
        · rw [if_neg hji] at hlj ⊢
          exact mono _ _ _ _ (hG j hj hlj) hK
      · intro j hj hj2
        rw [getD_set _ _ _ _ (by omega), if_neg (by omega)]; exact hl0 j hj hj2
      · intro k hk hkl j hj
        rw [getD_set _ _ _ _ (by omega)] at hkl ⊢
        by_cases hji : j = i
        · rw [if_pos hji]
        · rw [if_neg hji]
          by_cases hki : k = i
          · subst hki; exact haft j hj
          · rw [if_neg hki] at hkl; exact hd k hk hkl j hj
    · have hi2 : i = n := by
        rcases Nat.lt_or_ge n i with h3 | h3
        · exfalso
          have hch := List.all_eq_true.1 chain i (List.mem_range.2 hi')
          rw [Bool.or_eq_true] at hch
          rcases hch with hch | hch
          · have := Nat.le_of_ble_eq_true hch; omega
          · have := haft _ (List.contains_iff_mem.1 hch)
            rw [hl0 (i - 1) (by omega) (by omega)] at this; cases this
        · omega
      subst hi2
      have hothers : ∀ m k, k < i → i ≤ k + m → listed.getD k false = true := by
        intro m
        induction m with
        | zero => intro k hk hm; omega
        | succ m ihm =>
          intro k hk hm
          have hcv := List.all_eq_true.1 cover k (List.mem_range.2 hk)
          rw [Bool.and_eq_true] at hcv
          obtain ⟨j, hjj⟩ : ∃ j, j = wit.getD k 0 := ⟨_, rfl⟩
          rw [← hjj] at hcv
          have hjk := List.contains_iff_mem.1 hcv.1
          have hjn := Nat.le_of_ble_eq_true hcv.2
          have hlt := afters_lt (n := 0) back j k (by omega) hjk
          by_cases hji : j = i
          · subst hji; exact haft k hjk
          · exact hd j (by omega) (ihm j (by omega) (by omega)) k hjk
      have htail := fin x w hR fun k hk => hG k hk (hothers i k hk (by omega))
      have hfin := wpAny_tail (P := P) (Q := Q) i back chain l i (fuel + 1) listed (mk x) w (Nat.le_refl _) hln hl hs hc (fun q hq => ⟨fun h => by
          rcases Nat.lt_or_ge q i with h' | h'
          · exact h'
          · have h2 := hl0 q h' hq; rw [h2] at h; exact absurd h (by simp)
        , fun h => hothers i q h (by omega)⟩) htail
      exact hfin.2 i hi0
end
theorem wp_lin_tail {P : Program} {ops : Array Oper} {Q : Exit → Act → World → Prop} {id : Nat} {tm : List Value} {df : List Deferred} {w0 : World} (hm : P.follows .mixedOrders = true) (ss : List (Option Nat))
    (R : World → Prop) (Keeps : World → World → Prop) (G : Nat → Value → World → Prop)
    (h0 : fillL tm ss (oldX tm ss) = tm)
    (back : ((List.range ops.size).all fun i => (afters ops i).all fun j => decide (j < i)) = true)
    (n : Nat) (l : List Oper) (hdr : ops.toList.drop n = l) (hn : n < ops.size)
    (chain : ((List.range ops.size).all fun j => Nat.ble j n || (afters ops j).contains (j - 1)) = true)
    (wit : List Nat) (cover : ((List.range n).all fun i => (afters ops (wit.getD i 0)).contains i && Nat.ble (wit.getD i 0) n) = true)
    (hR : R w0.drew)
    (mono : ∀ i v w w', G i v w → Keeps w w' → G i v w')
    (step : Steps (Step P ops Q (fun x => { tmps := (fillL tm ss x).toArray, defers := df }) R Keeps G) n)
    (done : ∀ x w, R w → (∀ i, i < n → G i (x i) w) → ∀ fr, fr = fillL tm ss x → wpList P ops Q l { tmps := fr.toArray, defers := df } w) :
    (Code.region id ops true).wp P Q { tmps := tm.toArray, defers := df } w0 := by
  have e0 : ({ tmps := tm.toArray, defers := df } : Act) = (fun x => ({ tmps := (fillL tm ss x).toArray, defers := df } : Act)) (oldX tm ss) := by simp only [h0]
  rw [e0]
  refine wp_region_any hm (wpAny_free (fun x => { tmps := (fillL tm ss x).toArray, defers := df }) n hn l (by rw [← hdr]; simp; omega) (fun j => by rw [← hdr, List.getElem?_drop]; simp) back chain wit cover mono (fun i hi => each_all step.each i hi) (fun x w hR hG => done x w hR hG _ rfl) _ _ _ _ ?_ (by simp) hR ?_ ?_ ?_)
  · simp
  · intro i hi hl
    have : i < ops.size := by omega
    simp [Array.getD_eq_getD_getElem?, this] at hl
  · intro i hi hi2
    simp [Array.getD_eq_getD_getElem?, hi2]
  · intro i hi hl
    simp [Array.getD_eq_getD_getElem?, hi] at hl
end Go.Wk

/- A drawn region with a forced tail, one operation of which may come late: behind the tail's first. No condition. -/
namespace Go.Wk
open Go
section
variable {P : Program} {ops : Array Oper} {Q : Exit → Act → World → Prop}
theorem wpAny_late (mk : (Nat → Value) → Act) {R : World → Prop} {Keeps : World → World → Prop} {Good : Nat → Value → World → Prop} (n q : Nat) (hn : n + 1 < ops.size) (hq : q < n) (o oq : Oper) (l : List Oper) (hln : n + (o :: l).length = ops.size) (hl : ∀ j, (o :: l)[j]? = ops[n + j]?) (hoq : ops[q]? = some oq)
    (back : ((List.range ops.size).all fun i => (afters ops i).all fun j => decide (j < i)) = true)
    (chain : ((List.range ops.size).all fun j => Nat.ble j n || (afters ops j).contains (j - 1)) = true)
    (late : (afters ops (n + 1)).contains q = true)
    (wit : List Nat) (cover : ((List.range n).all fun i => Nat.beq i q || ((afters ops (wit.getD i 0)).contains i && Nat.ble (wit.getD i 0) n && !Nat.beq (wit.getD i 0) q)) = true)
    (mono : ∀ i v w w', Good i v w → Keeps w w' → Good i v w')
    (step : ∀ i, i < n → ∀ x w, R w → (∀ j ∈ afters ops i, Good j (x j) w) → wpOp P ops Q i (fun a' w' => ∃ v, a' = mk (upd x i v) ∧ R w' ∧ Keeps w w' ∧ Good i v w') (mk x) w)
    (fin : ∀ x w, R w → (∀ i, i < n → Good i (x i) w) → wpList P ops Q (o :: l) (mk x) w)
    (fin2 : ∀ x w, R w → (∀ i, i < n → i ≠ q → Good i (x i) w) → wpList P ops Q (o :: oq :: l) (mk x) w) :
    ∀ (fuel : Nat) (listed : Array Bool) (x : Nat → Value) (w : World), listed.toList.count false ≤ fuel → listed.size = ops.size → R w → (∀ i, i < n → listed.getD i false = true → Good i (x i) w) →
      (∀ i, n ≤ i → i < ops.size → listed.getD i false = false) → (∀ i, i < ops.size → listed.getD i false = true → ∀ j ∈ afters ops i, listed.getD j false = true) → wpAny P .any ops Q fuel listed (mk x) w := by
  intro fuel
  induction fuel with
  | zero =>
    intro listed x w hc hs hR hG hl0 hd
    exact (count_none (i := n) (by omega) (hl0 n (Nat.le_refl _) (by omega)) hc).elim
  | succ fuel ih =>
    intro listed x w hc hs hR hG hl0 hd
    refine ⟨fun hr => absurd (all_listed back hs hr n (by omega)) (by rw [hl0 n (Nat.le_refl _) (by omega)]; simp), fun i hi => ?_⟩
    have hi0 := hi
    obtain ⟨hi', h1, haft⟩ := ready_after hi
    rcases Nat.lt_or_ge i n with hin | hin
    · refine wpOp_mono ?_ (step i hin x w hR fun j hj => hG j (by have := afters_lt (n := 0) back i j hi' hj; omega) (haft j hj))
      rintro a' w' ⟨v, rfl, hR', hK, hg⟩
      refine ih _ _ _ (count_up (by omega) h1 hc) (by simpa using hs) hR' ?_ ?_ ?_
      · intro j hj hlj
        rw [getD_set _ _ _ _ (by omega)] at hlj
        unfold upd
        by_cases hji : j = i
        · subst hji; simpa using hg
        · rw [if_neg hji] at hlj ⊢
          exact mono _ _ _ _ (hG j hj hlj) hK
      · intro j hj hj2
        rw [getD_set _ _ _ _ (by omega), if_neg (by omega)]; exact hl0 j hj hj2
      · intro k hk hkl j hj
        rw [getD_set _ _ _ _ (by omega)] at hkl ⊢
        by_cases hji : j = i
        · rw [if_pos hji]
        · rw [if_neg hji]
          by_cases hki : k = i
          · subst hki; exact haft j hj
          · rw [if_neg hki] at hkl; exact hd k hk hkl j hj
    · have hi2 : i = n := by
        rcases Nat.lt_or_ge n i with h3 | h3
        · exfalso
          have hch := List.all_eq_true.1 chain i (List.mem_range.2 hi')
          rw [Bool.or_eq_true] at hch
          rcases hch with hch | hch
          · have := Nat.le_of_ble_eq_true hch; omega
          · have := haft _ (List.contains_iff_mem.1 hch)
            rw [hl0 (i - 1) (by omega) (by omega)] at this; cases this
        · omega
      subst hi2
      have hothers : ∀ m k, k < i → i ≤ k + m → k ≠ q → listed.getD k false = true := by
        intro m
        induction m with
        | zero => intro k hk hm; omega
        | succ m ihm =>
          intro k hk hm hkq
          have hcv := List.all_eq_true.1 cover k (List.mem_range.2 hk)
          rw [Bool.or_eq_true, Bool.and_eq_true, Bool.and_eq_true] at hcv
          rcases hcv with hcv | hcv
          · exact absurd (Nat.eq_of_beq_eq_true hcv) hkq
          obtain ⟨j, hjj⟩ : ∃ j, j = wit.getD k 0 := ⟨_, rfl⟩
          rw [← hjj] at hcv
          have hjk := List.contains_iff_mem.1 hcv.1.1
          have hjn := Nat.le_of_ble_eq_true hcv.1.2
          have hjq : j ≠ q := fun e => by
            have h5 := hcv.2
            subst e
            simp at h5
          have hlt := afters_lt (n := 0) back j k (by omega) hjk
          by_cases hji : j = i
          · subst hji; exact haft k hjk
          · exact hd j (by omega) (ihm j (by omega) (by omega) hjq) k hjk
      by_cases hqd : listed.getD q false = true
      · have hall : ∀ k, k < i → listed.getD k false = true := fun k hk => by
          by_cases hkq : k = q
          · subst hkq; exact hqd
          · exact hothers i k hk (by omega) hkq
        have htail := fin x w hR fun k hk => hG k hk (hall k hk)
        have hfin := wpAny_tail (P := P) (Q := Q) i back chain (o :: l) i (fuel + 1) listed (mk x) w (Nat.le_refl _) hln hl hs hc (fun p hp => ⟨fun h => by
            rcases Nat.lt_or_ge p i with h' | h'
            · exact h'
            · have h2 := hl0 p h' hp; rw [h2] at h; exact absurd h (by simp)
          , fun h => hall p h⟩) htail
        exact hfin.2 i hi0
      · have hqf : listed.getD q false = false := by simpa using hqd
        have htail := fin2 x w hR fun k hk hkq => hG k hk (hothers i k hk (by omega) hkq)
        have ho : ops[i]? = some o := by have := hl 0; simpa using this.symm
        -- behind the late one
        have hlast : ∀ (listed2 : Array Bool) (f2 : Nat) (a' : Act) (w' : World), listed2.size = ops.size → listed2.toList.count false ≤ f2 → (∀ p, p < ops.size → (listed2.getD p false = true ↔ p < i + 1)) → wpList P ops Q l a' w' → wpAny P .any ops Q f2 listed2 a' w' := fun listed2 f2 a' w' hs2 hc2 hL2 hw2 =>
          wpAny_tail (P := P) (Q := Q) i back chain l (i + 1) f2 listed2 a' w' (by omega) (by simp only [List.length_cons] at hln; omega) (fun j => by have := hl (j + 1); rw [List.getElem?_cons_succ] at this; rw [this]; congr 1; omega) hs2 hc2 hL2 hw2
        have hmid : ∀ a' w', wpList P ops Q (oq :: l) a' w' → wpAny P .any ops Q fuel (listed.setIfInBounds i true) a' w' := by
          intro a' w' hw
          have hc1 : (listed.setIfInBounds i true).toList.count false ≤ fuel := count_up (by omega) h1 hc
          have hs1 : (listed.setIfInBounds i true).size = ops.size := by simpa using hs
          have hq1 : (listed.setIfInBounds i true).getD q false = false := by rw [getD_set _ _ _ _ (by omega), if_neg (by omega)]; exact hqf
          cases fuel with
          | zero => exact (count_none (i := q) (by omega) hq1 hc1).elim
          | succ fuel =>
            refine ⟨fun hr => absurd (all_listed back hs1 hr q (by omega)) (by rw [hq1]; simp), fun j hj => ?_⟩
            obtain ⟨hj', hj1, hjaft⟩ := ready_after hj
            have hjf : (listed.setIfInBounds i true).getD j false = false := by
              have hjl : j < (listed.setIfInBounds i true).size := by omega
              simp only [Array.getD_eq_getD_getElem?, Array.getElem?_eq_getElem hjl, Option.getD_some] at hj1 ⊢
              exact hj1
            rw [getD_set _ _ _ _ (by omega)] at hjf
            have hji : j ≠ i := fun e => by rw [if_pos e] at hjf; cases hjf
            rw [if_neg hji] at hjf
            have hjq : j = q := by
              rcases Nat.lt_or_ge j i with h3 | h3
              · by_cases hh : j = q
                · exact hh
                · rw [hothers i j h3 (by omega) hh] at hjf; cases hjf
              · exfalso
                by_cases h4 : j = i + 1
                · subst h4
                  have := hjaft q (List.contains_iff_mem.1 late)
                  rw [hq1] at this; cases this
                · have hch := List.all_eq_true.1 chain j (List.mem_range.2 hj')
                  rw [Bool.or_eq_true] at hch
                  rcases hch with hch | hch
                  · have := Nat.le_of_ble_eq_true hch; omega
                  · have := hjaft _ (List.contains_iff_mem.1 hch)
                    rw [getD_set _ _ _ _ (by omega), if_neg (by omega), hl0 (j - 1) (by omega) (by omega)] at this; cases this
            subst hjq
            have hnext : ∀ a2 w2, wpList P ops Q l a2 w2 → wpAny P .any ops Q fuel ((listed.setIfInBounds i true).setIfInBounds j true) a2 w2 := fun a2 w2 h =>
              hlast _ fuel a2 w2 (by simpa using hs) (count_up (by omega) hj1 hc1) (fun p hp => by
                rw [getD_set _ _ _ _ (by omega), getD_set _ _ _ _ (by omega)]
                by_cases hpj : p = j
                · rw [if_pos hpj]; simp; omega
                · rw [if_neg hpj]
                  by_cases hpi : p = i
                  · rw [if_pos hpi]; simp; omega
                  · rw [if_neg hpi]
                    rcases Nat.lt_or_ge p i with h5 | h5
                    · rw [hothers i p h5 (by omega) hpj]; simp; omega
                    · rw [hl0 p h5 hp]; simp; omega) h
            unfold wpOp
            simp only [hoq]
            unfold wpList at hw
            split
            · rename_i hwt
              rw [if_pos hwt] at hw
              rcases hw with hw | hw
              · exact .inl (Oper.wp_mono hnext hw)
              · exact .inr hw
            · rename_i hwt
              rw [if_neg hwt] at hw
              exact hnext _ _ hw
        unfold wpOp
        simp only [ho]
        unfold wpList at htail
        split
        · rename_i hwt
          rw [if_pos hwt] at htail
          rcases htail with hw | hw
          · exact .inl (Oper.wp_mono hmid hw)
          · exact .inr hw
        · rename_i hwt
          rw [if_neg hwt] at htail
          exact hmid _ _ htail
end
theorem wp_lin_late {P : Program} {ops : Array Oper} {Q : Exit → Act → World → Prop} {id : Nat} {tm : List Value} {df : List Deferred} {w0 : World} (hm : P.follows .mixedOrders = true) (ss : List (Option Nat))
    (R : World → Prop) (Keeps : World → World → Prop) (G : Nat → Value → World → Prop)
    (h0 : fillL tm ss (oldX tm ss) = tm)
    (back : ((List.range ops.size).all fun i => (afters ops i).all fun j => decide (j < i)) = true)
    (n q : Nat) (o oq : Oper) (l : List Oper) (hdr : ops.toList.drop n = o :: l) (hoq : ops[q]? = some oq) (hn : n + 1 < ops.size) (hq : q < n)
    (chain : ((List.range ops.size).all fun j => Nat.ble j n || (afters ops j).contains (j - 1)) = true)
    (late : (afters ops (n + 1)).contains q = true)
    (wit : List Nat) (cover : ((List.range n).all fun i => Nat.beq i q || ((afters ops (wit.getD i 0)).contains i && Nat.ble (wit.getD i 0) n && !Nat.beq (wit.getD i 0) q)) = true)
    (hR : R w0.drew)
    (mono : ∀ i v w w', G i v w → Keeps w w' → G i v w')
    (step : Steps (Step P ops Q (fun x => { tmps := (fillL tm ss x).toArray, defers := df }) R Keeps G) n)
    (done : ∀ l', (l' = o :: l ∨ l' = o :: oq :: l) → ∀ x w, R w → (∀ i, i < n → (i = q → l' = o :: l) → G i (x i) w) → ∀ fr, fr = fillL tm ss x → wpList P ops Q l' { tmps := fr.toArray, defers := df } w) :
    (Code.region id ops true).wp P Q { tmps := tm.toArray, defers := df } w0 := by
  have e0 : ({ tmps := tm.toArray, defers := df } : Act) = (fun x => ({ tmps := (fillL tm ss x).toArray, defers := df } : Act)) (oldX tm ss) := by simp only [h0]
  rw [e0]
  refine wp_region_any hm (wpAny_late (fun x => { tmps := (fillL tm ss x).toArray, defers := df }) n q hn hq o oq l (by rw [← hdr]; simp; omega) (fun j => by rw [← hdr, List.getElem?_drop]; simp) hoq back chain late wit cover mono (fun i hi => each_all step.each i hi) (fun x w hR hG => done _ (.inl rfl) x w hR (fun i hi _ => hG i hi) _ rfl) (fun x w hR hG => done _ (.inr rfl) x w hR (fun i hi h => hG i hi fun e => by
      have h6 := congrArg List.length (h e); simp at h6) _ rfl) _ _ _ _ ?_ (by simp) hR ?_ ?_ ?_)
  · simp
  · intro i hi hl
    have : i < ops.size := by omega
    simp [Array.getD_eq_getD_getElem?, this] at hl
  · intro i hi hi2
    simp [Array.getD_eq_getD_getElem?, hi2]
  · intro i hi hl
    simp [Array.getD_eq_getD_getElem?, hi] at hl
end Go.Wk

/- What attributes say is bound. No condition. -/
namespace Go.Proofs.YtkpikpaepgknnaaGreatDoor
open Go Go.RowKit Go.Wk Go.Xt Go.Xe
theorem RS.setB {w : World} {L R c p many : Nat} {bv : Value} {A : Option Addr} {bs : List UInt8} (h : RS w L R bv A c bs p many) (u : Value) : RS (w.setCell ⟨R, 2, none⟩ u) L R u A c bs p many := by
  have hc := h.cur
  have hne : ∀ o, (⟨R, 2, none⟩ : Addr) ≠ ⟨L, o, none⟩ := fun o e => h.ne (by cases e; rfl)
  refine ⟨⟨hc.ne, Save.refl _ _, ?_, ?_, ?_, ⟨hc.byt.1, fun h0 => ?_⟩, hc.le, hc.small⟩, h.rdr.set_ 2 _, h.ne, h.neA, h.cap⟩
  · rw [World.cell?_setCell_other _ _ _ _ (hne 0)]; exact hc.cb
  · rw [World.cell?_setCell_other _ _ _ _ (hne 1)]; exact hc.ca
  · rw [World.frozen?_setCell]; exact hc.fr
  · obtain ⟨b, o, rfl, hcell⟩ := hc.byt.2 h0
    have hb : b ≠ R := h.neA h0 _ rfl
    refine ⟨b, o, rfl, fun i hi => ?_⟩
    rw [World.cell?_setCell_other _ _ _ _ (fun e => hb (congrArg Addr.block e).symm)]
    exact hcell i hi
theorem bindsOf_snoc (l : List (List UInt8 × List UInt8 × List UInt8)) (a : List UInt8 × List UInt8 × List UInt8) : ∀ B, bindsOf (l ++ [a]) B = (if a.1 = [120, 109, 108, 110, 115] then bindsOf l B ++ [(a.2.1, a.2.2)] else if a.1 = [] ∧ a.2.1 = [120, 109, 108, 110, 115] then bindsOf l B ++ [([], a.2.2)] else bindsOf l B) := by
  induction l with
  | nil => intro B; rfl
  | cons x l ih => intro B; exact ih _
set_option maxRecDepth 100000 in
theorem bind_info : ∃ i, Tryz.prog.info? 220 = some i ∧ i.zero = some (.agg #[.string ⟨#[]⟩, .string ⟨#[]⟩]) ∧ i.size = 2 ∧ i.bytes = 32 := ⟨_, rfl, by kernel_rfl, by kernel_rfl, by kernel_rfl⟩
set_option maxHeartbeats 1000000 in
set_option maxRecDepth 100000 in
theorem xml_saysN {w : World} (P N V : ByteArray) (hP : (P.toList == [120, 109, 108, 110, 115]) = false) (b : Bool) (hb : (P.toList.isEmpty && (N.toList == [120, 109, 108, 110, 115])) = b) :
    Calls Tryz.prog 173 #[.agg #[.string P, .string N, .string V]] w fun e w' => e = .returned (.bool b) ∧ Below w.heap.size w w' := by
  by_cases c0 : P.toList = []
  · have c1 : P.toList.isEmpty = true := by rw [c0]; rfl
    rw [c1, Bool.true_and] at hb
    cases b
    all_goals
      go_enter Tryz.func173, Tryz.ntmps173
      go_wp2
      go_ret
      exact ⟨rfl, (Below.refl _ _).alloc (Nat.le_refl _) _⟩
  · have c1 : P.toList.isEmpty = false := by simpa using c0
    rw [c1, Bool.false_and] at hb
    subst hb
    go_enter Tryz.func173, Tryz.ntmps173
    go_wp2
    go_ret
    exact ⟨rfl, (Below.refl _ _).alloc (Nat.le_refl _) _⟩
/-- what the operations yield that lay what is bound -/
def GB8 (H R X : Nat) (bv : Value) (NA VA : ByteArray) : Nat → Value → World → Prop := fun j v w => match j with
  | 0 | 1 | 2 => v = .pointer (some ⟨R, 0, none⟩)
  | 3 => v = .pointer (some ⟨R, 2, none⟩)
  | 4 => v = bv
  | 5 => v = .pointer (some ⟨X, 1, none⟩)
  | 6 => v = .string NA
  | 7 => v = .pointer (some ⟨X, 2, none⟩)
  | 8 => v = .string VA
  | 9 => v = .agg #[.string NA, .string VA]
  | 10 => ∃ h, v = .slice (some ⟨h, 0, none⟩) 1 1 ∧ H ≤ h ∧ Blk w h 220 #[.string NA, .string VA]
  | _ => True
theorem GB8_mono {H R X : Nat} {bv : Value} {NA VA : ByteArray} (i : Nat) (v : Value) (w w' : World) (h : GB8 H R X bv NA VA i v w) (hk : Below w.heap.size w w') : GB8 H R X bv NA VA i v w' := by
  unfold GB8 at h ⊢
  split at h <;> first
    | exact h
    | (obtain ⟨h, e, h1, h2⟩ := h; exact ⟨h, e, h1, h2.below hk h2.lt⟩)
/-- likewise where the name in front is none -/
def GB10 (H R X : Nat) (bv : Value) (VA : ByteArray) : Nat → Value → World → Prop := fun j v w => match j with
  | 0 | 1 | 2 => v = .pointer (some ⟨R, 0, none⟩)
  | 3 => v = .pointer (some ⟨R, 2, none⟩)
  | 4 => v = bv
  | 5 => v = .pointer (some ⟨X, 2, none⟩)
  | 6 => v = .string VA
  | 7 => v = .agg #[.string ⟨#[]⟩, .string VA]
  | 8 => ∃ h, v = .slice (some ⟨h, 0, none⟩) 1 1 ∧ H ≤ h ∧ Blk w h 220 #[.string ⟨#[]⟩, .string VA]
  | _ => True
theorem GB10_mono {H R X : Nat} {bv : Value} {VA : ByteArray} (i : Nat) (v : Value) (w w' : World) (h : GB10 H R X bv VA i v w) (hk : Below w.heap.size w w') : GB10 H R X bv VA i v w' := by
  unfold GB10 at h ⊢
  split at h <;> first
    | exact h
    | (obtain ⟨h, e, h1, h2⟩ := h; exact ⟨h, e, h1, h2.below hk h2.lt⟩)
theorem two_at {w : World} {h t : Nat} {v0 v1 : Value} (hb : Blk w h t #[v0, v1]) : ∀ j u, [v0, v1][j]? = some u → w.cell? ((⟨h, 0, none⟩ : Addr).add j) = some u := by
  intro j u hj
  rw [Lib.add_plain, Nat.zero_add, hb.cell j, ← hj]
  match j with
  | 0 => rfl
  | 1 => rfl
  | _ + 2 => rfl
theorem two_one (a0 a1 : ByteArray) : ∀ u ∈ [Value.string a0, .string a1], u.oneCell' = true := by
  intro u hu
  simp at hu
  rcases hu with rfl | rfl <;> rfl
theorem own_farB {w : World} {B e s n : Nat} {v u : Value} {xs : List Value} {p : Addr} (h : w.ownsRow B e s v n xs) (hp : p.block < B) : (w.setCell p u).ownsRow B e s v n xs := by
  refine ⟨h.1, ?_⟩
  rcases h.2 with h2 | ⟨g, cap, cur, e1, hB, hh, rest⟩
  · exact .inl h2
  · exact .inr ⟨g, cap, cur, e1, hB, (Below.heap_setCell w p u g (by omega)).trans hh, rest⟩
set_option maxHeartbeats 8000000 in
set_option maxRecDepth 100000 in
theorem xml_boundP {w : World} {L R c p many B0 : Nat} {bv : Value} {A : Option Addr} {bs : List UInt8} {B : List (List UInt8 × List UInt8)} {l : List (List UInt8 × List UInt8 × List UInt8)} (al : Option Addr) (cap : Nat) (h : RS w L R bv A c bs p many) (hb : Bnd w B0 bv B) (hLB : L < B0) (hRB : R < B0) (hB0 : B0 ≤ w.heap.size) (hAB : 0 < bs.length → ∀ x, A = some x → x.block < B0)
    (hl2 : l.length ≤ 2) (hlc : l.length ≤ cap) (hBm : B.length ≤ 1000)
    (row : ∀ i (hi : i < l.length), ∃ g, al = some ⟨g, 0, none⟩ ∧ g ≠ L ∧ g ≠ R ∧ bv.ownBlock ≠ some g ∧ w.cell? ⟨g, 3 * i, none⟩ = some (str l[i].1) ∧ w.cell? ⟨g, 3 * i + 1, none⟩ = some (str l[i].2.1) ∧ w.cell? ⟨g, 3 * i + 2, none⟩ = some (str l[i].2.2))
    (hdis : ∀ i j (hi : i < l.length) (hj : j < l.length), i < j → l[i].1 ≠ l[j].1 ∨ l[i].2.1 ≠ l[j].2.1) (hok : ∀ a ∈ l, a.1 = [120, 109, 108, 110, 115] → a.2.2 ≠ []) :
    Calls Tryz.prog 171 #[.pointer (some ⟨R, 0, none⟩), .slice al l.length cap] w fun e w' => e = .returned (.int .i64 0) ∧ ∃ bv', RS w' L R bv' A c bs p many ∧ Bnd w' B0 bv' (bindsOf l B) ∧ FrX L R bv bv' w w' := by
  obtain ⟨n, hn⟩ : ∃ n, n = l.length := ⟨_, rfl⟩
  obtain ⟨i0, hi0, hz0, hz1, hz2⟩ := bind_info
  replace hi0 := Lib.hid hi0
  replace hz0 := Lib.hid hz0
  replace hz1 := Lib.hid hz1
  replace hz2 := Lib.hid hz2
  rw [← hn] at hl2 hlc ⊢
  have hAlt := Lib.hid h.A_lt
  have hLlt := h.cur.L_lt
  have hRlt := h.rdr.lt
  replace hAB := Lib.hid hAB
  replace hn := Lib.hid hn
  replace h := Lib.hid h
  replace hb := Lib.hid hb
  replace row := Lib.hid row
  replace hdis := Lib.hid hdis
  replace hok := Lib.hid hok
  go_enter Tryz.func171, Tryz.ntmps171
  go_wp2
  go_loopw [10] (fun s10 wr => ∃ (i : Nat) (bv1 : Value), i ≤ n ∧ s10 = .int .i64 i ∧ RS wr L R bv1 A c bs p many ∧ Bnd wr B0 bv1 (bindsOf (l.take i) B) ∧ FrX L R bv bv1 w wr ∧ (bindsOf (l.take i) B).length ≤ 1000 + i) (fun s10 _ => n - (RowKit.intOf s10).toNat)
  case atStart => exact ⟨0, bv, Nat.zero_le _, rfl, h.out, by rw [List.take_zero]; exact hb.out, FrX.of_fr (Fr.refl _ _ _), by rw [List.take_zero]; exact hBm⟩
  case round =>
    obtain ⟨i, bv1, hi, rfl, hS, hB, hF, hBl⟩ := hrel
    by_cases hin : i < n
    · have hil : i < l.length := by rw [← hn.out]; exact hin
      obtain ⟨g, rfl, hgL, hgR, hgX, k0, k1, k2⟩ := row.out i hil
      obtain ⟨a, ha⟩ : ∃ a, a = l[i] := ⟨_, rfl⟩
      rw [← ha] at k0 k1 k2
      obtain ⟨pre, nm, v⟩ := a
      obtain ⟨PA, hPA⟩ : ∃ N : ByteArray, str pre = .string N := ⟨_, rfl⟩
      obtain ⟨NA, hNA⟩ : ∃ N : ByteArray, str nm = .string N := ⟨_, rfl⟩
      obtain ⟨VA, hVA⟩ : ∃ N : ByteArray, str v = .string N := ⟨_, rfl⟩
      have lPA := toList_str _ _ hPA
      have lNA := toList_str _ _ hNA
      have lVA := toList_str _ _ hVA
      rw [hPA] at k0
      rw [hNA] at k1
      rw [hVA] at k2
      have lg : g < w.heap.size := cell_lt k0
      have hgb := hF.block g lg hgL hgR hgX
      have e0 : wr.cell? ⟨g, i * 3, none⟩ = some (.string PA) := by rw [Nat.mul_comm]; exact (World.cell?_of_block hgb).trans k0
      have e1 : wr.cell? ⟨g, i * 3 + 1, none⟩ = some (.string NA) := by rw [Nat.mul_comm]; exact (World.cell?_of_block hgb).trans k1
      have e2 : wr.cell? ⟨g, i * 3 + 2, none⟩ = some (.string VA) := by rw [Nat.mul_comm]; exact (World.cell?_of_block hgb).trans k2
      have hlt : decide ((i : Int) < (n : Int)) = true := by simp; omega
      have hsz := hF.size
      have hgr : g < wr.heap.size := by omega
      -- is there one ahead
      have kc : Calls Tryz.prog 179 #[.slice (some ⟨g, 0, none⟩) i cap, .func (.func 180) #[] #[.pointer (some ⟨wr.heap.size, 0, none⟩)]] (wr.alloc (.cells #[.string PA, .string NA, .string VA] 209)) fun e w' => e = .returned (.bool false) ∧ Below wr.heap.size wr w' ∧ Blk w' wr.heap.size 209 #[.string PA, .string NA, .string VA] := by
        have hx := Blk.new wr 209 #[.string PA, .string NA, .string VA]
        have hbw : Below wr.heap.size wr (wr.alloc (.cells #[.string PA, .string NA, .string VA] 209)) := (Below.refl _ _).alloc (Nat.le_refl _) _
        have fin : ∀ e w', (e = .returned (.bool false) ∧ Below (wr.alloc (.cells #[.string PA, .string NA, .string VA] 209)).heap.size (wr.alloc (.cells #[.string PA, .string NA, .string VA] 209)) w') → e = Ending.returned (.bool false) ∧ Below wr.heap.size wr w' ∧ Blk w' wr.heap.size 209 #[.string PA, .string NA, .string VA] := fun e w' k => ⟨k.1, hbw.trans (k.2.mono (by rw [World.size_alloc]; omega)), hx.below k.2 hx.lt⟩
        have hi2 : i = 0 ∨ i = 1 := by omega
        rcases hi2 with rfl | rfl
        · exact (cont_nil _ _ _).mono fun e w' k => fin e w' ⟨k.1, k.2 ▸ Below.refl _ _⟩
        · obtain ⟨g', hgg, _, _, _, m0, m1, m2⟩ := row.out 0 (by omega)
          have hgg : g' = g := by injection hgg with hgg; injection hgg with hgg _; exact hgg.symm
          subst hgg
          have hd := hdis.out 0 1 (by omega) hil (by omega)
          rw [← ha] at hd
          have far : ∀ o, (wr.alloc (.cells #[.string PA, .string NA, .string VA] 209)).cell? ⟨g', o, none⟩ = w.cell? ⟨g', o, none⟩ := fun o => (World.cell?_of_block (Below.heap_alloc _ _ _ hgr)).trans (World.cell?_of_block hgb)
          refine (cont_one g' cap wr.heap.size (by omega) ⟨l[0].1.toArray⟩ ⟨l[0].2.1.toArray⟩ ⟨l[0].2.2.toArray⟩ PA NA ((far _).trans m0) ((far _).trans m1) ((far _).trans m2) (hx.cell 0) (hx.cell 1) ?_).mono fin
          rw [lPA, lNA, ByteArray.toList_eq, ByteArray.toList_eq]
          exact hd
      have hRr := hS.rdr.lt
      have hLr := hS.cur.L_lt
      have htk : l.take (i + 1) = l.take i ++ [(pre, nm, v)] := by rw [List.take_succ_eq_append_getElem hil, ← ha]
      have hsn := bindsOf_snoc (l.take i) (pre, nm, v) B
      rw [← htk] at hsn
      have hokv := hok.out (pre, nm, v) (by rw [ha]; exact List.getElem_mem _)
      obtain ⟨BB, hBB⟩ : ∃ b, b = bindsOf (l.take i) B := ⟨_, rfl⟩
      rw [← hBB] at hsn hB hBl
      obtain ⟨bva, bvc, rfl⟩ := sl_of hB
      replace kc := Lib.hid kc
      replace htk := Lib.hid htk
      replace hBB := Lib.hid hBB
      replace hF := Lib.hid hF
      replace hS := Lib.hid hS
      replace hB := Lib.hid hB
      replace ha := Lib.hid ha
      replace hgb := Lib.hid hgb
      replace hPA := Lib.hid hPA
      replace hNA := Lib.hid hNA
      replace hVA := Lib.hid hVA
      clear k0 k1 k2 hgL hgR hgX
      by_cases cx : pre = [120, 109, 108, 110, 115]
      · have hv := hokv cx
        have tP : (PA.toList == [120, 109, 108, 110, 115]) = true := by rw [lPA]; simpa using cx
        have tV : VA.toList.isEmpty = false := by rw [lVA]; simpa using hv
        have tV2 : ¬ VA.toList = [] := by rw [lVA]; exact hv
        rw [if_pos cx] at hsn
        replace hsn := Lib.hid hsn
        clear hokv lPA lNA lVA cx hv
        have k1 := kc.out
        go_wp2_with (first
          | (go_at_call 179; (with_reducible refine k1.mono ?_); rintro e w2 ⟨rfl, b2, x2⟩; have x20 := x2.cell 0; have x21 := x2.cell 1; have x22 := x2.cell 2; have h2 := hS.out.below b2; have c22 := h2.rdr.cell 2; have f22 := h2.rdr.frozen 2; replace b2 := Lib.hid b2; replace x2 := Lib.hid x2; replace h2 := Lib.hid h2))
        have l2R : R < w2.heap.size := h2.out.rdr.lt
        have l2X : wr.heap.size < w2.heap.size := x2.out.lt
        refine wp_lin_late (by kernel_rfl) [none, none, none, none, none, none, none, none, none, none, none, none, none, none, none, none, none, none, none, none, none, none, none, none, none, none, none, none, none, none, none, none, none, none, none, some 0, some 1, some 2, some 3, some 4, some 5, some 6, some 7, some 8, some 9, some 10, none, none, none, none, none, none, none, none, none, none, none, none, none, none, none, none, none, none, none] (fun w' => Below w2.heap.size w2 w') (fun w' w'' => Below w'.heap.size w' w'') (GB8 w2.heap.size R wr.heap.size (.slice bva BB.length bvc) NA VA) (by rfl) (by kernel_rfl) 11 0 _ _ _ rfl rfl (by decide) (by decide) (by kernel_rfl) (by kernel_rfl) [0, 2, 3, 4, 11, 6, 9, 8, 9, 10, 11, 0] (by kernel_rfl) ?hR ?mono (.cons 10 (step_of [9] rfl (by kernel_rfl) ?s10) (.cons 9 (step_of [6, 8] rfl (by kernel_rfl) ?s9) (.cons 8 (step_of [7] rfl (by kernel_rfl) ?s8) (.cons 7 (step_of [] rfl (by kernel_rfl) ?s7) (.cons 6 (step_of [5] rfl (by kernel_rfl) ?s6) (.cons 5 (step_of [] rfl (by kernel_rfl) ?s5) (.cons 4 (step_of [3] rfl (by kernel_rfl) ?s4) (.cons 3 (step_of [2] rfl (by kernel_rfl) ?s3) (.cons 2 (step_of [1] rfl (by kernel_rfl) ?s2) (.cons 1 (step_of [] rfl (by kernel_rfl) ?s1) (.cons 0 (step_of [] rfl (by kernel_rfl) ?s0) (.nil)))))))))))) ?done
        case hR => exact (Below.refl _ _).drew
        case mono => exact GB8_mono
        case done =>
          intro l' hl' x w' hR hG fr hfr
          have g4 := hG 4 (by omega) (fun e => absurd e (by omega))
          have g10 := hG 10 (by omega) (fun e => absurd e (by omega))
          simp only [GB8] at g4 g10
          obtain ⟨hh, e10, hh1, hblk⟩ := g10
          simp only [fillL] at hfr
          rw [g4, e10] at hfr
          rcases hl' with rfl | rfl
          all_goals
            (try (have g0 := hG 0 (by omega) (fun _ => rfl); simp only [GB8] at g0; rw [g0] at hfr; clear g0))
            subst hfr
            clear hG
            have hW' := h2.out.below hR
            have hrw : Below wr.heap.size wr w' := b2.out.trans (hR.mono b2.out.size)
            have hO := own_belowB hB.out hrw
            have hmx : BB.length + 1 ≤ maxLen := by unfold maxLen; omega
            have hby : (BB.length + 1) * 32 ≤ 140737488355328 := by omega
            have hsr := hrw.size
            have hbase : B0 ≤ w'.heap.size := by omega
            refine wpList_append_own_at _ rfl (.tmp 39) (.tmp 45) 132 rfl B0 220 i0 _ 2 32 Tryz.underlying132 hi0.out hz0.out hz1.out hz2.out rfl (by decide) (.slice bva BB.length bvc) BB.length (bndV BB) rfl hO ⟨hh, 0, none⟩ 1 1 [.string NA, .string VA] rfl rfl (two_at hblk) (two_one _ _) hmx hby hbase ?_
            intro v5 w5 hown5 hg5 _ hat5
            obtain ⟨a5, cp5, rfl⟩ := sl_of hown5
            have bb5 : Below B0 w' w5 := (Below.refl B0 w').grown hg5 hbase (fun k hk => (hO.lt k hk).1)
            have h5 := hW'.belowB bb5 hLB hRB hAB.out
            have c52 := h5.rdr.cell 2
            have f52 := h5.rdr.frozen 2
            have c50 := h5.rdr.cell 0
            have h6 := h5.setB (.slice a5 (BB.length + 1) cp5)
            have hown6 := own_farB (p := ⟨R, 2, none⟩) (u := .slice a5 (BB.length + 1) cp5) hown5 hRB
            have hs5 := hg5.size
            have hz6 : (w5.setCell ⟨R, 2, none⟩ (.slice a5 (BB.length + 1) cp5)).heap.size = w5.heap.size := by simp [World.setCell]
            have hF6 : FrX L R (.slice bva BB.length bvc) (.slice a5 (BB.length + 1) cp5) wr (w5.setCell ⟨R, 2, none⟩ (.slice a5 (BB.length + 1) cp5)) :=
              ⟨hg5.os.trans hrw.os, hg5.tape.trans hrw.tape, hg5.output.trans hrw.output, by omega, fun k k1 k2 k3 k4 => (Below.heap_setCell _ _ _ _ k3).trans ((hg5.block k (by omega) (fun e => k4 e.symm)).trans (hrw.block k k1)), by
                rcases hat5 with e | e
                · exact .inl e
                · exact .inr fun k hk => by rw [e] at hk; injection hk with hk; omega⟩
            have hvals : [Value.string NA, .string VA] = [str nm, str v] := by rw [hNA.out, hVA.out]
            rw [hvals, ← bndV_app] at hown6
            have hlen6 : (BB ++ [(nm, v)]).length = BB.length + 1 := by simp
            replace hown6 := Lib.hid hown6
            replace h6 := Lib.hid h6
            replace hF6 := Lib.hid hF6
            replace h5 := Lib.hid h5
            replace hown5 := Lib.hid hown5
            replace hg5 := Lib.hid hg5
            replace hat5 := Lib.hid hat5
            replace hR := Lib.hid hR
            replace hW' := Lib.hid hW'
            replace hO := Lib.hid hO
            replace bb5 := Lib.hid bb5
            replace hrw := Lib.hid hrw
            replace hlen6 := Lib.hid hlen6
            replace hvals := Lib.hid hvals
            replace hblk := Lib.hid hblk
            clear hmx hby hbase hz6 hs5 x20 x21 x22 c22 f22 e0 e1 e2 k1
            go_wp2
            go_roundw
            case rel => exact ⟨i + 1, .slice a5 (BB.length + 1) cp5, by omega, by go_num, h6.out, by rw [hsn.out]; unfold Bnd; rw [hlen6.out]; exact hown6.out, hF.out.trans hF6.out, by rw [hsn.out, hlen6.out]; omega⟩
            case measure => simp [RowKit.intOf]; omega
        all_goals
          intro x w' hR hd K hK
          simp only [All, GB8] at hd
          have z1 := (h2.out.below hR).rdr.cell 2
          have z0 := (h2.out.below hR).rdr.cell 0
          have zx := x2.out.below hR x2.out.lt
          have zx1 := zx.cell 1
          have zx2 := zx.cell 2
          simp (config := {decide := true}) only [upd, GB8, fillL, if_true, if_false] at hK ⊢
          repeat (obtain ⟨_, hd⟩ := hd)
          (try simp only [*] at hK ⊢)
          go_simp
          first
            | (have hK2 := hK _ _ ⟨hR, Below.refl _ _, rfl⟩; exact hK2)
            | (have hK2 := hK _ _ ⟨hR.alloc hR.size _, (Below.refl _ _).alloc (Nat.le_refl _) _, _, rfl, hR.size, Blk.new w' 220 _⟩; exact hK2)
            | skip

      · have tP : (PA.toList == [120, 109, 108, 110, 115]) = false := by rw [lPA]; simpa using cx
        rw [if_neg cx] at hsn
        by_cases cy : pre = [] ∧ nm = [120, 109, 108, 110, 115]
        · rw [if_pos cy] at hsn
          have k2 := fun (ww : World) => xml_saysN (w := ww) PA NA VA tP true (by rw [lPA, lNA, cy.1, cy.2]; rfl)
          replace hsn := Lib.hid hsn
          clear hokv lPA lNA lVA cx cy
          have k1 := kc.out
          go_wp2_with (first
            | (go_at_call 179; (with_reducible refine k1.mono ?_); rintro e w2 ⟨rfl, b2, x2⟩; have x20 := x2.cell 0; have x21 := x2.cell 1; have x22 := x2.cell 2; replace b2 := Lib.hid b2; replace x2 := Lib.hid x2)
            | (go_at_call 173; (with_reducible refine (k2 _).mono ?_); rintro e w3 ⟨rfl, b3⟩; have b4 := b2.out.trans (b3.mono b2.out.size); have x3 := x2.out.below b3 x2.out.lt; have x30 := x3.cell 0; have x31 := x3.cell 1; have x32 := x3.cell 2; have h3 := hS.out.below b4; replace b3 := Lib.hid b3; replace b4 := Lib.hid b4; replace x3 := Lib.hid x3; replace h3 := Lib.hid h3))
          have l3R : R < w3.heap.size := h3.out.rdr.lt
          have l3X : wr.heap.size < w3.heap.size := x3.out.lt
          refine wp_lin_late (by kernel_rfl) [none, none, none, none, none, none, none, none, none, none, none, none, none, none, none, none, none, none, none, none, none, none, none, none, none, none, none, none, none, none, none, none, none, none, none, none, none, none, none, none, none, none, none, none, none, none, none, none, none, none, none, none, some 0, some 1, some 2, some 3, some 4, some 5, some 6, some 7, some 8, none, none, none, none] (fun w' => Below w3.heap.size w3 w') (fun w' w'' => Below w'.heap.size w' w'') (GB10 w3.heap.size R wr.heap.size (.slice bva BB.length bvc) VA) (by rfl) (by kernel_rfl) 9 0 _ _ _ rfl rfl (by decide) (by decide) (by kernel_rfl) (by kernel_rfl) [0, 2, 3, 4, 9, 6, 7, 8, 9, 0] (by kernel_rfl) ?hR2 ?mono2 (.cons 8 (step_of [7] rfl (by kernel_rfl) ?r8) (.cons 7 (step_of [6] rfl (by kernel_rfl) ?r7) (.cons 6 (step_of [5] rfl (by kernel_rfl) ?r6) (.cons 5 (step_of [] rfl (by kernel_rfl) ?r5) (.cons 4 (step_of [3] rfl (by kernel_rfl) ?r4) (.cons 3 (step_of [2] rfl (by kernel_rfl) ?r3) (.cons 2 (step_of [1] rfl (by kernel_rfl) ?r2) (.cons 1 (step_of [] rfl (by kernel_rfl) ?r1) (.cons 0 (step_of [] rfl (by kernel_rfl) ?r0) (.nil)))))))))) ?done2
          case hR2 => exact (Below.refl _ _).drew
          case mono2 => exact GB10_mono
          case done2 =>
            intro l' hl' x w' hR hG fr hfr
            have g4 := hG 4 (by omega) (fun e => absurd e (by omega))
            have g10 := hG 8 (by omega) (fun e => absurd e (by omega))
            simp only [GB10] at g4 g10
            obtain ⟨hh, e10, hh1, hblk⟩ := g10
            simp only [fillL] at hfr
            rw [g4, e10] at hfr
            rcases hl' with rfl | rfl
            all_goals
              (try (have g0 := hG 0 (by omega) (fun _ => rfl); simp only [GB10] at g0; rw [g0] at hfr; clear g0))
              subst hfr
              clear hG
              have hW' := h3.out.below hR
              have hrw : Below wr.heap.size wr w' := b4.out.trans (hR.mono b4.out.size)
              have hO := own_belowB hB.out hrw
              have hmx : BB.length + 1 ≤ maxLen := by unfold maxLen; omega
              have hby : (BB.length + 1) * 32 ≤ 140737488355328 := by omega
              have hsr := hrw.size
              have hbase : B0 ≤ w'.heap.size := by omega
              refine wpList_append_own_at _ rfl (.tmp 56) (.tmp 60) 132 rfl B0 220 i0 _ 2 32 Tryz.underlying132 hi0.out hz0.out hz1.out hz2.out rfl (by decide) (.slice bva BB.length bvc) BB.length (bndV BB) rfl hO ⟨hh, 0, none⟩ 1 1 [.string ⟨#[]⟩, .string VA] rfl rfl (two_at hblk) (two_one _ _) hmx hby hbase ?_
              intro v5 w5 hown5 hg5 _ hat5
              obtain ⟨a5, cp5, rfl⟩ := sl_of hown5
              have bb5 : Below B0 w' w5 := (Below.refl B0 w').grown hg5 hbase (fun k hk => (hO.lt k hk).1)
              have h5 := hW'.belowB bb5 hLB hRB hAB.out
              have c52 := h5.rdr.cell 2
              have f52 := h5.rdr.frozen 2
              have c50 := h5.rdr.cell 0
              have h6 := h5.setB (.slice a5 (BB.length + 1) cp5)
              have hown6 := own_farB (p := ⟨R, 2, none⟩) (u := .slice a5 (BB.length + 1) cp5) hown5 hRB
              have hs5 := hg5.size
              have hz6 : (w5.setCell ⟨R, 2, none⟩ (.slice a5 (BB.length + 1) cp5)).heap.size = w5.heap.size := by simp [World.setCell]
              have hF6 : FrX L R (.slice bva BB.length bvc) (.slice a5 (BB.length + 1) cp5) wr (w5.setCell ⟨R, 2, none⟩ (.slice a5 (BB.length + 1) cp5)) :=
                ⟨hg5.os.trans hrw.os, hg5.tape.trans hrw.tape, hg5.output.trans hrw.output, by omega, fun k k1 k2 k3 k4 => (Below.heap_setCell _ _ _ _ k3).trans ((hg5.block k (by omega) (fun e => k4 e.symm)).trans (hrw.block k k1)), by
                  rcases hat5 with e | e
                  · exact .inl e
                  · exact .inr fun k hk => by rw [e] at hk; injection hk with hk; omega⟩
              have hvals : [Value.string ⟨#[]⟩, .string VA] = [str [], str v] := by rw [hVA.out]; rfl
              rw [hvals, ← bndV_app] at hown6
              have hlen6 : (BB ++ [([], v)]).length = BB.length + 1 := by simp
              replace hown6 := Lib.hid hown6
              replace h6 := Lib.hid h6
              replace hF6 := Lib.hid hF6
              replace h5 := Lib.hid h5
              replace hown5 := Lib.hid hown5
              replace hg5 := Lib.hid hg5
              replace hat5 := Lib.hid hat5
              replace hR := Lib.hid hR
              replace hW' := Lib.hid hW'
              replace hO := Lib.hid hO
              replace bb5 := Lib.hid bb5
              replace hrw := Lib.hid hrw
              replace hlen6 := Lib.hid hlen6
              replace hvals := Lib.hid hvals
              replace hblk := Lib.hid hblk
              clear hmx hby hbase hz6 hs5 x20 x21 x22 x30 x31 x32 e0 e1 e2 k1 k2
              go_wp2
              go_roundw
              case rel => exact ⟨i + 1, .slice a5 (BB.length + 1) cp5, by omega, by go_num, h6.out, by rw [hsn.out]; unfold Bnd; rw [hlen6.out]; exact hown6.out, hF.out.trans hF6.out, by rw [hsn.out, hlen6.out]; omega⟩
              case measure => simp [RowKit.intOf]; omega
          all_goals
            intro x w' hR hd K hK
            simp only [All, GB10] at hd
            have z1 := (h3.out.below hR).rdr.cell 2
            have z0 := (h3.out.below hR).rdr.cell 0
            have zx := x3.out.below hR x3.out.lt
            have zx1 := zx.cell 1
            have zx2 := zx.cell 2
            simp (config := {decide := true}) only [upd, GB10, fillL, if_true, if_false] at hK ⊢
            repeat (obtain ⟨_, hd⟩ := hd)
            (try simp only [*] at hK ⊢)
            go_simp
            first
              | (have hK2 := hK _ _ ⟨hR, Below.refl _ _, rfl⟩; exact hK2)
              | (have hK2 := hK _ _ ⟨hR.alloc hR.size _, (Below.refl _ _).alloc (Nat.le_refl _) _, _, rfl, hR.size, Blk.new w' 220 _⟩; exact hK2)
              | skip

        · rw [if_neg cy] at hsn
          have k2 := fun (ww : World) => xml_saysN (w := ww) PA NA VA tP false (by
            rw [lPA, lNA]
            by_cases c0 : pre = []
            · have c1 : ¬ nm = [120, 109, 108, 110, 115] := fun e => cy ⟨c0, e⟩
              rw [c0]; simpa using c1
            · have : pre.isEmpty = false := by simpa using c0
              rw [this]; rfl)
          replace hsn := Lib.hid hsn
          clear hokv lPA lNA lVA cx cy
          have k1 := kc.out
          go_wp2_with (first
            | (go_at_call 179; (with_reducible refine k1.mono ?_); rintro e w2 ⟨rfl, b2, x2⟩; have x20 := x2.cell 0; have x21 := x2.cell 1; have x22 := x2.cell 2; replace b2 := Lib.hid b2; replace x2 := Lib.hid x2)
            | (go_at_call 173; (with_reducible refine (k2 _).mono ?_); rintro e w3 ⟨rfl, b3⟩; have b4 := b2.out.trans (b3.mono b2.out.size); have h3 := hS.out.below b4; replace b3 := Lib.hid b3; replace b4 := Lib.hid b4; replace h3 := Lib.hid h3))
          go_roundw
          case rel => exact ⟨i + 1, .slice bva BB.length bvc, by omega, by go_num, h3.out, by rw [hsn.out]; exact own_belowB hB.out b4.out, hF.out.trans (FrX.of_fr (Fr.of_below b4.out)), by rw [hsn.out]; omega⟩
          case measure => simp [RowKit.intOf]; omega
    · have hni : i = n := by omega
      subst hni
      have hlt : decide ((i : Int) < (i : Int)) = false := by simp
      rw [hn.out, List.take_length] at hB
      replace hF := Lib.hid hF
      replace hS := Lib.hid hS
      replace hB := Lib.hid hB
      go_wp2
      go_ret
      exact ⟨rfl, bv1, hS.out, hB.out, hF.out⟩
end Go.Proofs.YtkpikpaepgknnaaGreatDoor

/- The node: parts. No condition. -/
namespace Go.Proofs.YtkpikpaepgknnaaGreatDoor
open Go Go.RowKit Go.Wk Go.Xt Go.Xe
abbrev z5 : Array Value := #[.string ⟨#[]⟩, .string ⟨#[]⟩, .string ⟨#[]⟩, .slice none 0 0, .slice none 0 0]
def put5 (W : World) (g : Nat) (v0 v1 v2 v3 v4 : Value) : World := ((((W.setCell ⟨g, 0, none⟩ v0).setCell ⟨g, 1, none⟩ v1).setCell ⟨g, 2, none⟩ v2).setCell ⟨g, 3, none⟩ v3).setCell ⟨g, 4, none⟩ v4
theorem put5_save (W : World) (g : Nat) (v0 v1 v2 v3 v4 : Value) : Save g W (put5 W g v0 v1 v2 v3 v4) := (((((Save.refl g W).store 0 v0).store 1 v1).store 2 v2).store 3 v3).store 4 v4
theorem put5_blk {W : World} {g : Nat} {t : TypeId} {u0 u1 u2 u3 u4 : Value} (h : Blk W g t #[u0, u1, u2, u3, u4]) (v0 v1 v2 v3 v4 : Value) : Blk (put5 W g v0 v1 v2 v3 v4) g t #[v0, v1, v2, v3, v4] := ((((h.set_ 0 v0).set_ 1 v1).set_ 2 v2).set_ 3 v3).set_ 4 v4
set_option maxHeartbeats 1000000 in
set_option maxRecDepth 100000 in
theorem idx2_nil {w : World} (A : Option Addr) (c : Nat) (f : Value) :
    Calls Tryz.prog 181 #[.slice A 0 c, f] w fun e w' => e = .returned (.int .i64 (-1)) ∧ w = w' := by
  go_enter Tryz.func181, Tryz.ntmps181
  go_wp2
  refine wp_loop_rounds 1 ?_; rw [rounds_succ]
  go_wp2
  go_ret
  exact ⟨rfl, rfl⟩
set_option maxHeartbeats 1000000 in
set_option maxRecDepth 100000 in
theorem cont2_nil {w : World} (A : Option Addr) (c : Nat) (f : Value) :
    Calls Tryz.prog 174 #[.slice A 0 c, f] w fun e w' => e = .returned (.bool false) ∧ w = w' := by
  have ci := fun (w : World) => idx2_nil (w := w) A c f
  go_enter Tryz.func174, Tryz.ntmps174
  go_wp2_with (go_at_call 181; (with_reducible refine (ci _).mono ?_); rintro e w1 ⟨rfl, rfl⟩)
  go_ret
  exact ⟨rfl, rfl⟩
set_option maxRecDepth 100000 in
theorem attr_info : ∃ i, Tryz.prog.info? 112 = some i ∧ i.zero = some (.agg #[.string ⟨#[]⟩, .string ⟨#[]⟩, .string ⟨#[]⟩]) ∧ i.size = 3 ∧ i.bytes = 48 := ⟨_, rfl, by kernel_rfl, by kernel_rfl, by kernel_rfl⟩
set_option maxRecDepth 100000 in
theorem own_at {w w' : World} {B e s n cap : Nat} {a : Option Addr} {xs : List Value} {k : Nat} (h : w.ownsRow B e s (.slice a n cap) n xs) (hn : 0 < n) (hat : (Value.slice a n cap).ownBlock = none ∨ (Value.slice a n cap).ownBlock = some k) : a = some ⟨k, 0, none⟩ ∧ k < w.heap.size ∧ (w'.heap[k]? = w.heap[k]? → w'.ownsRow 0 e s (.slice a n cap) n xs) := by
  rcases h.2 with ⟨e1, h0⟩ | ⟨g, cap', cur, e1, hB, hh, rest⟩
  · omega
  · cases e1
    rcases hat with h1 | h1
    · cases h1
    · cases h1
      refine ⟨rfl, ?_, fun hk => ⟨h.1, .inr ⟨_, _, cur, rfl, Nat.zero_le _, hk.trans hh, rest⟩⟩⟩
      rcases Nat.lt_or_ge g w.heap.size with h' | h'
      · exact h'
      · rw [Array.getElem?_eq_none h'] at hh; cases hh
theorem three_new (w : World) (v0 v1 v2 : Value) (t : TypeId) : ∀ j u, [v0, v1, v2][j]? = some u → (w.alloc (.cells #[v0, v1, v2] t)).cell? ((⟨w.heap.size, 0, none⟩ : Addr).add j) = some u := by
  intro j u hj
  rw [Lib.add_plain, alloc_cell, ← hj]
  match j with
  | 0 => rfl
  | 1 => rfl
  | 2 => rfl
  | _ + 3 => rfl
set_option maxHeartbeats 4000000 in
set_option maxRecDepth 100000 in
set_option maxHeartbeats 1000000 in
set_option maxRecDepth 100000 in
theorem xml_saysY {w : World} (P N V : ByteArray) (hP : (P.toList == [120, 109, 108, 110, 115]) = true) :
    Calls Tryz.prog 173 #[.agg #[.string P, .string N, .string V]] w fun e w' => e = .returned (.bool true) ∧ Below w.heap.size w w' := by
  go_enter Tryz.func173, Tryz.ntmps173
  go_wp2
  go_ret
  exact ⟨rfl, (Below.refl _ _).alloc (Nat.le_refl _) _⟩
/-- says it of a prefix -/
def saysB (a : List UInt8 × List UInt8 × List UInt8) : Bool := a.1 == [120, 109, 108, 110, 115] || (a.1.isEmpty && (a.2.1 == [120, 109, 108, 110, 115]))
theorem xml_saysA {w : World} (P N V : ByteArray) (a : List UInt8 × List UInt8 × List UInt8) (h0 : P.toList = a.1) (h1 : N.toList = a.2.1) (b : Bool) (hb : saysB a = b) :
    Calls Tryz.prog 173 #[.agg #[.string P, .string N, .string V]] w fun e w' => e = .returned (.bool b) ∧ Below w.heap.size w w' := by
  unfold saysB at hb
  cases hP : (P.toList == [120, 109, 108, 110, 115]) with
  | true =>
    rw [h0] at hP
    rw [hP, Bool.true_or] at hb
    subst hb
    exact xml_saysY P N V (by rw [h0]; exact hP)
  | false =>
    refine xml_saysN P N V hP b ?_
    rw [h0] at hP ⊢
    rw [h1]
    rw [hP, Bool.false_or] at hb
    exact hb
end Go.Proofs.YtkpikpaepgknnaaGreatDoor

/- The node: its attributes say what is bound, but for one at most, the last. No condition. -/
namespace Go.Proofs.YtkpikpaepgknnaaGreatDoor
open Go Go.RowKit Go.Wk Go.Xt Go.Xe
/-- the attributes of a node: none, or one with what its prefix says -/
def AtW (w : World) (lo : Nat) (bv : Value) (so : List UInt8) (o : List (List UInt8 × List UInt8 × List UInt8)) (av : Value) : Prop :=
  match o with
  | [] => av = .slice none 0 0
  | [a] => ∃ g cp, av = .slice (some ⟨g, 0, none⟩) 1 cp ∧ lo ≤ g ∧ bv.ownBlock ≠ some g ∧ w.cell? ⟨g, 0, none⟩ = some (str so) ∧ w.cell? ⟨g, 1, none⟩ = some (str a.2.1) ∧ w.cell? ⟨g, 2, none⟩ = some (str a.2.2)
  | _ => False
theorem own_save {w w' : World} {B e s n g : Nat} {v : Value} {xs : List Value} (h : w.ownsRow B e s v n xs) (hs : Save g w w') (hg : v.ownBlock ≠ some g) : w'.ownsRow B e s v n xs := by
  have hlt := h.lt
  refine ⟨h.1, ?_⟩
  rcases h.2 with h2 | ⟨g', cap, cur, e1, hB, hh, rest⟩
  · exact .inl h2
  · subst e1
    have hl := (hlt g' rfl).2
    exact .inr ⟨g', cap, cur, rfl, hB, (hs.block g' hl (fun e => hg (by rw [← e]; rfl))).trans hh, rest⟩
theorem AtW.save {w w' : World} {lo lo' g : Nat} {bv : Value} {so : List UInt8} {o : List (List UInt8 × List UInt8 × List UInt8)} {av : Value} (h : AtW w lo bv so o av) (hs : Save g w w') (h1 : g < lo) (h2 : lo' ≤ lo) : AtW w' lo' bv so o av := by
  unfold AtW at h ⊢
  split at h
  · exact h
  · obtain ⟨q, cp, e, a1, a2, c0, c1, c2⟩ := h
    have hb := hs.block q (cell_lt c0) (by omega)
    exact ⟨q, cp, e, by omega, a2, (World.cell?_of_block hb).trans c0, (World.cell?_of_block hb).trans c1, (World.cell?_of_block hb).trans c2⟩
  · exact h
set_option maxHeartbeats 8000000 in
set_option maxRecDepth 100000 in
theorem xml_nodeP {w : World} {L R c p many B0 : Nat} {bv : Value} {A : Option Addr} {bs pre nm sp so : List UInt8} {B E B1 B2 : List (List UInt8 × List UInt8)} {l ls o : List (List UInt8 × List UInt8 × List UInt8)} (al : Option Addr) (cap : Nat) (h : RS w L R bv A c bs p many) (hb : Bnd w B0 bv B) (hLB : L < B0) (hRB : R < B0) (hB0 : B0 ≤ w.heap.size) (hAB : 0 < bs.length → ∀ x, A = some x → x.block < B0)
    (hl2 : l.length ≤ 2) (hlc : l.length ≤ cap) (hBm : B.length ≤ 1000)
    (row : ∀ i (hi : i < l.length), ∃ g, al = some ⟨g, 0, none⟩ ∧ g ≠ L ∧ g ≠ R ∧ bv.ownBlock ≠ some g ∧ w.cell? ⟨g, 3 * i, none⟩ = some (str l[i].1) ∧ w.cell? ⟨g, 3 * i + 1, none⟩ = some (str l[i].2.1) ∧ w.cell? ⟨g, 3 * i + 2, none⟩ = some (str l[i].2.2))
    (hdis : ∀ i j (hi : i < l.length) (hj : j < l.length), i < j → l[i].1 ≠ l[j].1 ∨ l[i].2.1 ≠ l[j].2.1) (hok : ∀ a ∈ l, a.1 = [120, 109, 108, 110, 115] → a.2.2 ≠ [])
    (hE : bindsOf l B = E) (hEm : E.length ≤ 10000000) (hsp : E = B1 ++ (pre, sp) :: B2) (h2 : ∀ b ∈ B2, b.1 ≠ pre) (hx : pre ≠ [120, 109, 108])
    (hlo : l = ls ++ o) (hls : ∀ a ∈ ls, saysB a = true) (ho : o.length ≤ 1)
    (hos : ∀ a ∈ o, saysB a = false ∧ a.1 ≠ [] ∧ a.1 ≠ [120, 109, 108] ∧ ∃ C1 C2, E = C1 ++ (a.1, so) :: C2 ∧ ∀ b ∈ C2, b.1 ≠ a.1) :
    Calls Tryz.prog 164 #[.pointer (some ⟨R, 0, none⟩), str pre, str nm, .slice al l.length cap] w fun e w' => ∃ bv' av, e = .returned (.tuple #[.agg #[str sp, str nm, .string ⟨#[]⟩, av, .slice none 0 0], .int .i64 0]) ∧ RS w' L R bv' A c bs p many ∧ Bnd w' B0 bv' E ∧ FrX L R bv bv' w w' ∧ AtW w' w.heap.size bv' so o av := by
  obtain ⟨n, hn⟩ : ∃ n, n = l.length := ⟨_, rfl⟩
  obtain ⟨w0, hw0⟩ : ∃ w0, w0 = w.alloc (.cells z5 70) := ⟨_, rfl⟩
  have hb0 : Below w.heap.size w w0 := hw0 ▸ (Below.refl _ _).alloc (Nat.le_refl _) _
  have hx0 : Blk w0 w.heap.size 70 z5 := hw0 ▸ Blk.new w 70 z5
  have hsz0 := hb0.size
  have hrl := fun i (hi : i < l.length) => row i hi
  have cb := xml_boundP al cap (h.below hb0) (own_belowB hb hb0) hLB hRB (by omega) hAB hl2 hlc hBm (fun i hi => by
    obtain ⟨g, e, a1, a2, a3, k0, k1, k2⟩ := row i hi
    have lg := cell_lt k0
    exact ⟨g, e, a1, a2, a3, (World.cell?_of_block (hb0.block g lg)).trans k0, (World.cell?_of_block (hb0.block g lg)).trans k1, (World.cell?_of_block (hb0.block g lg)).trans k2⟩) hdis hok
  rw [hE, ← hn] at cb
  have cs := fun (w1 : World) (bv1 : Value) (h1 : RS w1 L R bv1 A c bs p many) (k1 : Bnd w1 B0 bv1 E) => xml_spaceP h1 k1 hsp h2 hx hEm
  obtain ⟨PR, hPR⟩ : ∃ N : ByteArray, str pre = .string N := ⟨_, rfl⟩
  obtain ⟨NR, hNR⟩ : ∃ N : ByteArray, str nm = .string N := ⟨_, rfl⟩
  obtain ⟨SR, hSR⟩ : ∃ N : ByteArray, str sp = .string N := ⟨_, rfl⟩
  rw [hPR, hNR, hSR]
  rw [hPR, hSR] at cs
  rw [← hn] at hl2 hlc ⊢
  have hLlt := h.cur.L_lt
  have hRlt := h.rdr.lt
  replace hAB := Lib.hid hAB
  replace hn := Lib.hid hn
  replace h := Lib.hid h
  replace hb := Lib.hid hb
  replace row := Lib.hid row
  replace hdis := Lib.hid hdis
  replace hok := Lib.hid hok
  replace hE := Lib.hid hE
  replace hsp := Lib.hid hsp
  replace hls := Lib.hid hls
  replace hos := Lib.hid hos
  replace hlo := Lib.hid hlo
  replace hb0 := Lib.hid hb0
  replace hx0 := Lib.hid hx0
  replace cs := Lib.hid cs
  replace hw0 := Lib.hid hw0
  clear hrl h2 hx hPR hNR hSR
  have hw1 := hw0.out
  subst hw1
  go_enter Tryz.func164, Tryz.ntmps164
  go_wp2_with (first
    | (go_at_call 171; (with_reducible refine cb.mono ?_); rintro e w1 ⟨rfl, bv1, h1, k1, f1⟩; have c1 := cs.out w1 bv1 h1 k1; replace h1 := Lib.hid h1; replace k1 := Lib.hid k1; replace f1 := Lib.hid f1)
    | (go_at_call 172; (with_reducible refine c1.mono ?_); rintro e w2 ⟨rfl, rfl⟩))
  obtain ⟨w2, hw2⟩ : ∃ w2, w2 = w1.alloc (.cells #[.string SR, .string NR, .string ⟨#[]⟩, .slice none 0 0, .slice none 0 0] 70) := ⟨_, rfl⟩
  have hx2 : Blk w2 w1.heap.size 70 #[.string SR, .string NR, .string ⟨#[]⟩, .slice none 0 0, .slice none 0 0] := hw2 ▸ Blk.new w1 70 _
  have hb2 : Below w1.heap.size w1 w2 := hw2 ▸ (Below.refl _ _).alloc (Nat.le_refl _) _
  rw [← hw2]
  have h3 := h1.out.below hb2
  have k3 := own_belowB k1.out hb2
  have hln : ls.length + o.length = n := by rw [hn.out, hlo.out, List.length_append]
  replace hx2 := Lib.hid hx2
  replace hb2 := Lib.hid hb2
  replace h3 := Lib.hid h3
  replace k3 := Lib.hid k3
  clear hw2
  have hown : bv.ownBlock ≠ some w.heap.size := fun e => by have := (hb.out.lt _ e).2; omega
  have hxr : Blk w1 w.heap.size 70 z5 := (f1.out.block w.heap.size (by rw [World.size_alloc]; omega) (by omega) (by omega) hown).trans hx0.out
  have hzr : w.heap.size < w1.heap.size := hxr.lt
  replace hxr := Lib.hid hxr
  clear hown
  go_loopw [12, 35] (fun s12 s35 wr => ∃ (i : Nat) (av : Value), i ≤ n ∧ s12 = .int .i64 0 ∧ s35 = .int .i64 i ∧ RS wr L R bv1 A c bs p many ∧ Bnd wr B0 bv1 E ∧ Below w1.heap.size w1 wr ∧ Blk wr w1.heap.size 70 #[.string SR, .string NR, .string ⟨#[]⟩, av, .slice none 0 0] ∧ (i ≤ ls.length → av = .slice none 0 0) ∧ (i = n → AtW wr w1.heap.size bv1 so o av)) (fun _ s35 _ => n - (RowKit.intOf s35).toNat)
  case atStart =>
    refine ⟨0, .slice none 0 0, Nat.zero_le _, rfl, rfl, h3.out, k3.out, hb2.out, hx2.out, fun _ => rfl, fun e => ?_⟩
    have : o = [] := List.eq_nil_of_length_eq_zero (by omega)
    subst this
    rfl
  case round =>
    obtain ⟨i, av, hi, rfl, rfl, hS, hB, hL, hX, hav, hat⟩ := hrel
    by_cases hin : i < n
    · have hil : i < l.length := by rw [← hn.out]; exact hin
      obtain ⟨g, rfl, hgL, hgR, hgX, q0, q1, q2⟩ := row.out i hil
      obtain ⟨a, ha⟩ : ∃ a, a = l[i] := ⟨_, rfl⟩
      rw [← ha] at q0 q1 q2
      obtain ⟨PA, hPA⟩ : ∃ N : ByteArray, str a.1 = .string N := ⟨_, rfl⟩
      obtain ⟨NA, hNA⟩ : ∃ N : ByteArray, str a.2.1 = .string N := ⟨_, rfl⟩
      obtain ⟨VA, hVA⟩ : ∃ N : ByteArray, str a.2.2 = .string N := ⟨_, rfl⟩
      have lPA := toList_str _ _ hPA
      have lNA := toList_str _ _ hNA
      have lVA := toList_str _ _ hVA
      rw [hPA] at q0
      rw [hNA] at q1
      rw [hVA] at q2
      have lg : g < w.heap.size := cell_lt q0
      have hgb : wr.heap[g]? = w.heap[g]? := (hL.block g (by omega)).trans ((f1.out.block g (by rw [World.size_alloc]; omega) hgL hgR hgX).trans (hb0.out.block g lg))
      have e0 : wr.cell? ⟨g, i * 3, none⟩ = some (.string PA) := by rw [Nat.mul_comm]; exact (World.cell?_of_block hgb).trans q0
      have e1 : wr.cell? ⟨g, i * 3 + 1, none⟩ = some (.string NA) := by rw [Nat.mul_comm]; exact (World.cell?_of_block hgb).trans q1
      have e2 : wr.cell? ⟨g, i * 3 + 2, none⟩ = some (.string VA) := by rw [Nat.mul_comm]; exact (World.cell?_of_block hgb).trans q2
      have hlt : decide ((i : Int) < (n : Int)) = true := by simp; omega
      have hgr : g < wr.heap.size := by have := hL.size; omega
      have hwr := hX.lt
      have hbn : Below wr.heap.size wr (wr.alloc (.cells #[.string PA, .string NA, .string VA] 209)) := (Below.refl _ _).alloc (Nat.le_refl _) _
      have kd : ∀ b, saysB a = b → Calls Tryz.prog 173 #[.agg #[.string PA, .string NA, .string VA]] (wr.alloc (.cells #[.string PA, .string NA, .string VA] 209)) fun e w' => e = .returned (.bool b) ∧ Below wr.heap.size wr w' ∧ Blk w' wr.heap.size 209 #[.string PA, .string NA, .string VA] := fun b hb =>
        (xml_saysA PA NA VA a lPA lNA b hb).mono fun e w' k => ⟨k.1, hbn.trans (k.2.mono (by rw [World.size_alloc]; omega)), (Blk.new wr 209 _).below k.2 (by rw [World.size_alloc]; omega)⟩
      replace hgb := Lib.hid hgb
      replace hL := Lib.hid hL
      replace hS := Lib.hid hS
      replace hB := Lib.hid hB
      replace hX := Lib.hid hX
      replace hav := Lib.hid hav
      replace hPA := Lib.hid hPA
      replace hNA := Lib.hid hNA
      replace hVA := Lib.hid hVA
      replace hbn := Lib.hid hbn
      clear q0 q1 q2 hgL hgR hgX hat
      by_cases cs1 : i < ls.length
      · have hsy : saysB a = true := hls.out a (by rw [ha]; simp only [hlo.out]; rw [List.getElem_append_left cs1]; exact List.getElem_mem _)
        have kd1 := kd true hsy
        replace ha := Lib.hid ha
        clear kd lPA lNA lVA
        go_wp2_with (go_at_call 173; (with_reducible refine kd1.mono ?_); rintro e w3 ⟨rfl, b3, x3⟩; replace b3 := Lib.hid b3; replace x3 := Lib.hid x3)
        go_roundw
        case rel =>
          have hl3 := hL.out.size
          exact ⟨i + 1, av, by omega, rfl, by go_num, hS.out.below b3.out, own_belowB hB.out b3.out, hL.out.trans (b3.out.mono hl3), hX.out.below b3.out hwr, fun h5 => hav.out (by omega), fun h5 => by
            have ho0 : o = [] := List.eq_nil_of_length_eq_zero (by omega)
            rw [hav.out (by omega), ho0]; rfl⟩
        case measure => simp [RowKit.intOf]; omega
      · obtain ⟨rfl, hi2⟩ : o = [a] ∧ i = ls.length := by
          have h6 : o.length = 1 := by omega
          have h7 : i = ls.length := by omega
          refine ⟨?_, h7⟩
          obtain ⟨y, rfl⟩ := List.length_eq_one_iff.1 h6
          congr 1
          rw [ha]; simp only [hlo.out]
          rw [List.getElem_append_right (by omega)]
          simp [h7]
        obtain ⟨hs0, hne, hnx, C1, C2, hC, hC2⟩ := hos.out a (by simp)
        have hav0 := hav.out (by omega)
        subst hav0
        have kd1 := kd false hs0
        obtain ⟨SO, hSO⟩ : ∃ N : ByteArray, str so = .string N := ⟨_, rfl⟩
        have c67 := fun (W : World) (hW : Below wr.heap.size wr W) => xml_spaceP (hS.out.below hW) (own_belowB hB.out hW) hC hC2 hnx hEm
        rw [hPA.out, hSO] at c67
        have tP : PA.toList.isEmpty = false := by rw [lPA]; simpa using hne
        have tP2 : ¬ PA.toList = [] := by rw [lPA]; exact hne
        have cc := fun (w : World) A c f => cont2_nil (w := w) A c f
        obtain ⟨i0, hi0, hz0, hz1, hz2⟩ := attr_info
        replace hi0 := Lib.hid hi0
        replace hz0 := Lib.hid hz0
        replace hz1 := Lib.hid hz1
        replace hz2 := Lib.hid hz2
        replace ha := Lib.hid ha
        replace c67 := Lib.hid c67
        replace hSO := Lib.hid hSO
        replace hC := Lib.hid hC
        have hin1 : i + 1 = n := by simp at hln; omega
        replace hin1 := Lib.hid hin1
        replace hi2 := Lib.hid hi2
        replace hln := Lib.hid hln
        clear cs1
        clear kd lPA lNA lVA hC2 hnx hne hs0
        go_wp2_with (first
          | (go_at_call 173; (with_reducible refine kd1.mono ?_); rintro e w3 ⟨rfl, b3, x3⟩; have x30 := x3.cell 0; have x31 := x3.cell 1; have x32 := x3.cell 2; have X3 := hX.out.below b3 hwr; have X30 := X3.cell 0; have X31 := X3.cell 1; have X32 := X3.cell 2; have X33 := X3.cell 3; have X34 := X3.cell 4; have F33 := X3.frozen 3; have hl3 : wr.heap.size < w3.heap.size := x3.lt; have hl4 : w1.heap.size < w3.heap.size := X3.lt; have c1 := c67.out _ (b3.alloc b3.size (.cells #[.string ⟨#[]⟩, .string NA, .string VA] 112)); replace b3 := Lib.hid b3; replace x3 := Lib.hid x3; replace X3 := Lib.hid X3)
          | (go_at_call 172; (with_reducible refine c1.mono ?_); rintro e w4 ⟨rfl, rfl⟩)
          | (go_at_call 174; (with_reducible refine (cc _ _ _ _).mono ?_); rintro e w5 ⟨rfl, rfl⟩)
          | (at_builtin; refine wpList_append_own_at _ rfl (.tmp 67) (.tmp 69) 67 rfl w1.heap.size 112 i0 _ 3 48 Tryz.underlying67 hi0.out hz0.out hz1.out hz2.out rfl (by decide) (.slice none 0 0) 0 [] rfl (World.ownsRow_nil _ _ _ _) ⟨w3.heap.size + 1, 0, none⟩ 1 1 [.string SO, .string NA, .string VA] rfl rfl (by have := three_new (w3.alloc (.cells #[.string SO, .string NA, .string VA] 112)) (.string SO) (.string NA) (.string VA) 112; rw [World.size_alloc] at this; exact this) (three_one _ _ _) (by decide) (by decide) (by simp; omega) ?_; intro v5 w5 hown5 hg5 _ hat5; generalize hstop : wpList _ _ _ _ _ _ = G))
        subst hstop
        have b5 : Below w3.heap.size w3 w5 := (((Below.refl _ _).alloc (Nat.le_refl _) _).alloc (by rw [World.size_alloc]; omega) _).grown hg5 (by rw [World.size_alloc, World.size_alloc]; omega) (fun g hg => by simp [Value.ownBlock] at hg)
        have X5 := X3.out.below b5 hl4
        have X53 := X5.cell 3
        have F53 := X5.frozen 3
        have hl5 := X5.lt
        obtain ⟨a5, cp5, rfl⟩ := sl_of hown5
        have hz2 : ((w3.alloc (.cells #[.string SO, .string NA, .string VA] 112)).alloc (.cells #[.string SO, .string NA, .string VA] 112)).heap.size = w3.heap.size + 2 := by rw [World.size_alloc, World.size_alloc]
        rw [hz2] at hat5
        obtain ⟨rfl, hk5, hU5⟩ := own_at (w' := w5.setCell ⟨w1.heap.size, 3, none⟩ (.slice a5 1 cp5)) hown5 (by omega) (by simpa [Value.ownBlock] using hat5)
        have hown6 := hU5 (Below.heap_setCell _ _ _ _ (by show w3.heap.size + 2 ≠ w1.heap.size; omega))
        have b6 : Below wr.heap.size wr w5 := b3.out.trans (b5.mono (Nat.le_of_lt hl3))
        replace b5 := Lib.hid b5
        replace b6 := Lib.hid b6
        replace X5 := Lib.hid X5
        replace hown5 := Lib.hid hown5
        replace hown6 := Lib.hid hown6
        replace hU5 := Lib.hid hU5
        replace hg5 := Lib.hid hg5
        replace hat5 := Lib.hid hat5
        replace hz2 := Lib.hid hz2
        clear x30 x31 x32 X30 X31 X32 X33 X34 F33
        go_wp2
        go_roundw
        case rel =>
          have hl3' := hL.out.size
          have hs6 := b6.out.size
          have b7 : Below w1.heap.size wr (w5.setCell ⟨w1.heap.size, 3, none⟩ (.slice (some ⟨w3.heap.size + 2, 0, none⟩) 1 cp5)) := (b6.out.mono hl3').setCell (p := ⟨w1.heap.size, 3, none⟩) (Nat.le_refl _) _
          have hX7 := X5.out.set_ 3 (.slice (some ⟨w3.heap.size + 2, 0, none⟩) 1 cp5)
          refine ⟨i + 1, _, by have := hin1.out; omega, rfl, by go_num, hS.out.belowB (b7.mono (by omega)) hLB hRB hAB.out, ?_, hL.out.trans b7, hX7, fun h5 => by have := hi2.out; omega, fun _ => ?_⟩
          · exact own_belowB k1.out (hL.out.trans b7)
          · exact ⟨w3.heap.size + 2, cp5, rfl, by omega, fun e => by have := (k1.out.lt _ e).2; omega, (hown6.out.cellAt 0 (by omega)).trans (by rw [hSO.out]; rfl), (hown6.out.cellAt 1 (by omega)).trans (by rw [hNA.out]; rfl), (hown6.out.cellAt 2 (by omega)).trans (by rw [hVA.out]; rfl)⟩
        case measure => simp [RowKit.intOf]; omega
    · have hni : i = n := by omega
      subst hni
      have hlt : decide ((i : Int) < (i : Int)) = false := by simp
      have hA := hat rfl
      obtain ⟨a, m, cp, rfl⟩ : ∃ a m cp, av = .slice a m cp := by
        unfold AtW at hA
        split at hA
        · exact ⟨_, _, _, hA⟩
        · obtain ⟨g, cp, e, _⟩ := hA; exact ⟨_, _, _, e⟩
        · exact hA.elim
      have n5 := hxr.out.below hL hzr
      have x50 := hX.cell 0
      have x51 := hX.cell 1
      have x52 := hX.cell 2
      have x53 := hX.cell 3
      have x54 := hX.cell 4
      have y50 := n5.frozen 0
      have y51 := n5.frozen 1
      have y52 := n5.frozen 2
      have y53 := n5.frozen 3
      have y54 := n5.frozen 4
      have m50 := n5.cell 0
      have m51 := n5.cell 1
      have m52 := n5.cell 2
      have m53 := n5.cell 3
      have m54 := n5.cell 4
      have hne : ¬ w.heap.size = w1.heap.size := by omega
      have hne2 : ¬ w1.heap.size = w.heap.size := by omega
      replace n5 := Lib.hid n5
      replace hX := Lib.hid hX
      replace hL := Lib.hid hL
      replace hS := Lib.hid hS
      replace hB := Lib.hid hB
      replace hA := Lib.hid hA
      clear hat hav
      go_wp2
      have hV := put5_blk n5.out (.string SR) (.string NR) (.string ⟨#[]⟩) (.slice a m cp) (.slice none 0 0)
      have hSV := put5_save wr w.heap.size (.string SR) (.string NR) (.string ⟨#[]⟩) (.slice a m cp) (.slice none 0 0)
      unfold put5 at hV hSV
      obtain ⟨U, hU⟩ : ∃ U, U = (((((wr.setCell ⟨w.heap.size, 0, none⟩ (.string SR)).setCell ⟨w.heap.size, 1, none⟩ (.string NR)).setCell ⟨w.heap.size, 2, none⟩ (.string ⟨#[]⟩)).setCell ⟨w.heap.size, 3, none⟩ (.slice a m cp)).setCell ⟨w.heap.size, 4, none⟩ (.slice none 0 0)) := ⟨_, rfl⟩
      rw [← hU] at hV hSV ⊢
      have r0 := hV.cell 0
      have r1 := hV.cell 1
      have r2 := hV.cell 2
      have r3 := hV.cell 3
      have r4 := hV.cell 4
      have hsU := hL.out.size
      have hBU : Below w.heap.size wr U := hSV.below (Nat.le_refl _) (by omega)
      have hown : bv1.ownBlock ≠ some w.heap.size := fun e => by
        rcases f1.out.own with h5 | h5
        · rw [h5] at e; have := (hb.out.lt _ e).2; omega
        · have := h5 _ e; rw [World.size_alloc] at this; omega
      have hFX : FrX L R bv bv1 w U := ⟨hSV.os.trans (hL.out.os.trans (f1.out.os.trans hb0.out.os)), hSV.tape.trans (hL.out.tape.trans (f1.out.tape.trans hb0.out.tape)), hSV.output.trans (hL.out.output.trans (f1.out.output.trans hb0.out.output)), by have := hSV.size; omega, fun k q1 q2 q3 q4 =>
          (hBU.block k q1).trans ((hL.out.block k (by omega)).trans ((f1.out.block k (by rw [World.size_alloc]; omega) q2 q3 q4).trans (hb0.out.block k q1))), by
            rcases f1.out.own with h5 | h5
            · exact .inl h5
            · exact .inr fun k e => by have := h5 k e; rw [World.size_alloc] at this; omega⟩
      refine bodyPost_ret (v := .tuple #[.agg #[.string SR, .string NR, .string ⟨#[]⟩, .slice a m cp, .slice none 0 0], .int .i64 0]) (by simp [results, Tryz.results62, go_sem, r0, r1, r2, r3, r4]) rfl ⟨bv1, _, rfl, hS.out.belowB (hBU.mono hB0) hLB hRB hAB.out, own_save hB.out hSV hown, hFX, hA.out.save hSV hzr (Nat.le_of_lt hzr)⟩
end Go.Proofs.YtkpikpaepgknnaaGreatDoor

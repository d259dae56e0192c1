/- Walks and laws, joined: part E. No condition. -/
import Derived.Test.YtkpikpaepgknnaaGreatDoorXwJD
set_option linter.unusedSimpArgs false
set_option linter.unusedVariables false
/- A language's mark; one thing behind a row. No condition. -/
namespace Go.Proofs.YtkpikpaepgknnaaGreatDoor
open Go Go.RowKit Go.Wk Go.Xt Go.Xe Go.Xw
theorem ref_langMark {w : World} (L : ByteArray) (hL : L.size ≤ 100) : Calls Tryz.prog 30 #[.string L] w fun e w' => ∃ R : ByteArray, e = .returned (.string R) ∧ R.data.toList = langL L.data.toList ∧ R.size ≤ 200 ∧ w = w' := by
  cases h : (L.toList == []) with
  | true =>
    have h2 : L.data.toList = [] := by rw [← Lib.toList_data]; simpa using h
    go_enter Tryz.func30, Tryz.ntmps30
    go_wp2
    go_ret
    exact ⟨_, rfl, by rw [h2]; rfl, by decide, rfl⟩
  | false =>
    have h2 : ¬ L.data.toList = [] := by rw [← Lib.toList_data]; simpa using h
    go_enter Tryz.func30, Tryz.ntmps30
    go_wp2
    go_ret
    refine ⟨_, rfl, ?_, ?_, rfl⟩
    · unfold langL; rw [if_neg h2]; simp
    · simp only [ByteArray.size_append]; show 11 + _ + 1 ≤ 200; omega
/-- one thing behind a row of one's own -/
theorem app_one {w : World} {ops : Array Oper} {rest : List Oper} {o : Oper} {a : Act} {Q : Exit → Act → World → Prop} (t e size bytes : Nat) (i : TypeInfo) (z : Value) (ht : Tryz.prog.underlying t = some (.slice e)) (hi : Tryz.prog.info? e = some i) (hz : i.zero = some z) (hsize : i.size = size) (hby : i.bytes = bytes) (hzs : z.cells.size = size) (hsz : 0 < size) (hb100 : bytes ≤ 100) (hs100 : size ≤ 100)
    (hgd : o.guard = none) (s x : Operand) (ho : o.op = .call { callee := .builtin .append, args := #[s, x], argTypes := #[t, t] }) (B : Nat) (v : Value) (n : Nat) (xs : List Value) (hs : a.eval s = v) (hown : w.ownsRow B e size v n xs)
    (q : Nat) (cs : Array Value) (hx : a.eval x = .slice (some ⟨q, 0, none⟩) 1 1) (hq : Blk w q e cs) (hcs : cs.size = size) (hone : ∀ u ∈ cs.toList, u.oneCell' = true) (hn : n ≤ 1000000) (hB : B ≤ w.heap.size)
    (h : ∀ v' w', w'.ownsRow B e size v' (n + 1) (xs ++ cs.toList) → Below B w w' → wpList Tryz.prog ops Q rest (a.put o.dst v') w') : wpList Tryz.prog ops Q (o :: rest) a w := by
  refine wpList_append_own_at w hgd s x t ho B e i z size bytes ht hi hz hsize hby hzs hsz v n xs hs hown ⟨q, 0, none⟩ 1 1 cs.toList hx (by rw [Array.length_toList, hcs, Nat.one_mul]) ?_ hone (by unfold maxLen; omega) ?_ hB ?_
  · intro j u hj
    rw [add_none, Nat.zero_add, hq.cell j, ← Array.getElem?_toList]; exact hj
  · calc (n + 1) * bytes ≤ 1000001 * 100 := Nat.mul_le_mul (by omega) hb100
      _ ≤ _ := by decide
  · intro v' w' h1 h2 _ _
    exact h v' w' h1 ((Below.refl _ _ |>.mono hB).grown h2 hB fun k hk => (hown.lt k hk).1)
theorem info43 : ∃ i, Tryz.prog.info? 43 = some i ∧ i.zero = some (.agg #[.string ⟨#[]⟩, .string ⟨#[]⟩, .int .i64 0, .slice none 0 0]) ∧ i.size = 4 ∧ i.bytes = 64 := ⟨Tryz.t43, by kernel_rfl, by kernel_rfl, by kernel_rfl, by kernel_rfl⟩
theorem info38 : ∃ i, Tryz.prog.info? 38 = some i ∧ i.zero = some (.agg #[.string ⟨#[]⟩, .string ⟨#[]⟩, .int .i64 0, .slice none 0 0]) ∧ i.size = 4 ∧ i.bytes = 64 := ⟨Tryz.t38, by kernel_rfl, by kernel_rfl, by kernel_rfl, by kernel_rfl⟩
theorem info55 : ∃ i, Tryz.prog.info? 55 = some i ∧ i.zero = some (.agg #[.string ⟨#[]⟩, .string ⟨#[]⟩]) ∧ i.size = 2 ∧ i.bytes = 32 := ⟨Tryz.t55, by kernel_rfl, by kernel_rfl, by kernel_rfl, by kernel_rfl⟩
theorem flat_snoc (l : List PA) (x : PA) : flatP (l ++ [x]) = flatP l ++ prs x := by unfold flatP; simp
theorem prs_one (x : PA) : ∀ u ∈ (prs x).toArray.toList, u.oneCell' = true := by
  intro u hu
  unfold prs at hu
  simp at hu
  rcases hu with rfl | rfl | rfl | rfl <;> rfl
theorem app_prs {w : World} {ops : Array Oper} {rest : List Oper} {o : Oper} {a : Act} {Q : Exit → Act → World → Prop} (hgd : o.guard = none) (s x : Operand) (ho : o.op = .call { callee := .builtin .append, args := #[s, x], argTypes := #[22, 22] }) (B : Nat) (v : Value) (l : List PA) (hs : a.eval s = v) (hown : w.ownsRow B 43 4 v l.length (flatP l))
    (q : Nat) (y : PA) (hx : a.eval x = .slice (some ⟨q, 0, none⟩) 1 1) (hq : Blk w q 43 (prs y).toArray) (hn : l.length ≤ 1000000) (hB : B ≤ w.heap.size)
    (h : ∀ A n c w', w'.ownsRow B 43 4 (.slice A n c) (l ++ [y]).length (flatP (l ++ [y])) → Below B w w' → wpList Tryz.prog ops Q rest (a.put o.dst (.slice A n c)) w') : wpList Tryz.prog ops Q (o :: rest) a w := by
  obtain ⟨i0, hi, hz0, hz1, hz2⟩ := info43
  refine app_one 22 43 4 64 i0 _ Tryz.underlying22 hi hz0 hz1 hz2 rfl (by decide) (by decide) (by decide) hgd s x ho B v _ _ hs hown q _ hx hq rfl (prs_one y) hn hB ?_
  intro v' w' h1 h2
  rw [show l.length + 1 = (l ++ [y]).length by simp, show flatP l ++ (prs y).toArray.toList = flatP (l ++ [y]) from (flat_snoc l y).symm] at h1
  have hsl : ∃ a m c, v' = .slice a m c := by rcases h1.2 with ⟨rfl, _⟩ | ⟨_, _, _, rfl, _⟩ <;> exact ⟨_, _, _, rfl⟩
  obtain ⟨A, n, c, rfl⟩ := hsl
  exact h A n c w' h1 h2
theorem row_out43 {w : World} {B : Nat} {v : Value} {l : List PA} (h : w.ownsRow B 43 4 v l.length (flatP l)) : ∃ A g cap, v = .slice A l.length cap ∧ (0 < l.length → A = some ⟨g, 0, none⟩) ∧ l.length ≤ cap ∧ CellsP w g l := by
  rcases h.2 with ⟨rfl, h0⟩ | ⟨g, cap, cur, rfl, _, hh, hnc, _, _, htk⟩
  · have : l = [] := List.eq_nil_of_length_eq_zero h0
    subst this
    exact ⟨none, 0, 0, rfl, fun h => by simp at h, Nat.le_refl _, fun i hi => by simp at hi⟩
  · refine ⟨_, g, cap, rfl, fun _ => rfl, hnc, fun i hi => ?_⟩
    have hc : ∀ j u, (prs l[i])[j]? = some u → j < 4 → w.cell? ⟨g, i * 4 + j, none⟩ = some u := fun j u hu hj => by
      rw [cell_of_row w g _ cur 43 (0, 0) hh, ← Array.getElem?_toList]
      have h1 := flat_at l i j hi hj
      rw [hu, ← htk, List.getElem?_take, if_pos (by omega)] at h1
      exact h1
    exact ⟨hc 0 _ rfl (by omega), hc 1 _ rfl (by omega), hc 2 _ rfl (by omega), hc 3 _ rfl (by omega)⟩
end Go.Proofs.YtkpikpaepgknnaaGreatDoor

/- A property put into a list, by the document's own answer. No condition. -/
namespace Go.Proofs.YtkpikpaepgknnaaGreatDoor
open Go Go.RowKit Go.Wk Go.Xt Go.Xe Go.Xw
attribute [local go_sem ↓] Go.wp_at_zero Go.wp_at_succ
theorem drewN_below' (w : World) (n : Nat) : Below w.heap.size w (w.drewN n) := ⟨rfl, rfl, rfl, Nat.le_refl _, fun _ _ => rfl⟩
def insL (l : List PA) (x : PA) (P : Nat) : List PA := l.take P ++ x :: l.drop P
def outL (l : List PA) (x : PA) (P i : Nat) : List PA := if i ≤ P then l.take i else (insL l x P).take (i + 1)
theorem out_lt {l : List PA} {x : PA} {P i : Nat} (h : i < P) (hi : i < l.length) : outL l x P i ++ [l[i]] = outL l x P (i + 1) := by
  unfold outL; rw [if_pos (by omega), if_pos (by omega), List.take_succ_eq_append_getElem hi]
theorem ins_at {l : List PA} {x : PA} {P i : Nat} (hP : P ≤ i) (hi : i < l.length) : (insL l x P).take (i + 1) ++ [l[i]] = (insL l x P).take (i + 2) := by
  have hl : (insL l x P).length = l.length + 1 := by unfold insL; rw [List.length_append, List.length_cons, List.length_take, List.length_drop]; omega
  rw [List.take_succ_eq_append_getElem (show i + 1 < (insL l x P).length by omega)]
  congr 2
  unfold insL
  rw [List.getElem_append_right (by rw [List.length_take]; omega)]
  have e : i + 1 - (l.take P).length = (i - P) + 1 := by rw [List.length_take]; omega
  simp only [e, List.getElem_cons_succ, List.getElem_drop]
  congr 1; omega
theorem out_gt {l : List PA} {x : PA} {P i : Nat} (h : P < i) (hi : i < l.length) : outL l x P i ++ [l[i]] = outL l x P (i + 1) := by
  unfold outL; rw [if_neg (by omega), if_neg (by omega), ins_at (by omega) hi]
theorem out_x {l : List PA} {x : PA} {P : Nat} (h : P ≤ l.length) : outL l x P P ++ [x] = (insL l x P).take (P + 1) := by
  unfold outL insL
  rw [if_pos (Nat.le_refl _)]
  have e : P + 1 = (l.take P).length + 1 := by rw [List.length_take]; omega
  conv => rhs; rw [e, List.take_length_add_append]
  simp
theorem out_eq {l : List PA} {x : PA} {P : Nat} (hi : P < l.length) : (outL l x P P ++ [x]) ++ [l[P]] = outL l x P (P + 1) := by
  rw [out_x (by omega), ins_at (Nat.le_refl _) hi]; unfold outL; rw [if_neg (by omega)]
theorem out_end {l : List PA} {x : PA} {P : Nat} (h : P < l.length) : outL l x P l.length = insL l x P := by
  unfold outL; rw [if_neg (by omega)]
  have hl : (insL l x P).length = l.length + 1 := by unfold insL; rw [List.length_append, List.length_cons, List.length_take, List.length_drop]; omega
  rw [← hl, List.take_length]
theorem out_end2 {l : List PA} {x : PA} : outL l x l.length l.length ++ [x] = insL l x l.length := by
  unfold outL insL; simp
theorem out_len {l : List PA} {x : PA} {P i : Nat} : (outL l x P i).length ≤ l.length + 1 := by
  unfold outL; split
  · rw [List.length_take]; omega
  · rw [List.length_take]; unfold insL; rw [List.length_append, List.length_cons, List.length_take, List.length_drop]; omega
theorem lt_case {p q : Pr} (h : ltP p q = true) : lt p.sp.toList q.sp.toList = true ∨ (p.sp.toList = q.sp.toList ∧ lt p.nm.toList q.nm.toList = true) := by
  unfold ltP at h
  simp only [Bool.or_eq_true, Bool.and_eq_true, beq_iff_eq] at h
  exact h
theorem lt_ne {a b : Xw.Bs} (h : lt a b = true) : (a == b) = false ∧ (b == a) = false ∧ lt b a = false := by
  refine ⟨?_, ?_, lt_asym h⟩
  · rw [beq_eq_false_iff_ne]; rintro rfl; rw [lt_irr] at h; cases h
  · rw [beq_eq_false_iff_ne]; rintro rfl; rw [lt_irr] at h; cases h
theorem row_box {A : Option Addr} {g n : Nat} {w : World} {o : List PA} (e : o.length = n) : True := trivial
set_option maxHeartbeats 16000000 in
set_option maxRecDepth 100000 in
theorem ref_add {w : World} (A : Option Addr) (g c : Nat) (l : List PA) (hA : 0 < l.length → A = some ⟨g, 0, none⟩) (hn : l.length ≤ 20) (hcp : l.length ≤ c) (hc : CellsP w g l) (hs : Sorted (pl l)) (x : PA) :
    Calls Tryz.prog 29 #[.slice A l.length c, prV x.1 (.slice x.2.1 x.1.it.length x.2.2)] w fun e w' => Below w.heap.size w w' ∧ ∃ A' n' c', e = .returned (.tuple #[.slice A' n' c', .bool (!(hasP x.1 (pl l)) && !(x.1.sp.toList == rdfL))]) ∧
      (hasP x.1 (pl l) = false → n' = (insL l x (posP x.1 (pl l))).length ∧ n' ≤ c' ∧ ∃ g', A' = some ⟨g', 0, none⟩ ∧ CellsP w' g' (insL l x (posP x.1 (pl l)))) := by
  obtain ⟨W1, hW1⟩ : ∃ W, W = w.alloc (.cells #[.string x.1.sp, .string x.1.nm, .int .i64 x.1.kd, .slice x.2.1 x.1.it.length x.2.2] 43) := ⟨_, rfl⟩
  have hb1 : Below w.heap.size w W1 := by rw [hW1]; exact (Below.refl _ _).alloc (Nat.le_refl _) _
  have hR : Blk W1 w.heap.size 43 #[.string x.1.sp, .string x.1.nm, .int .i64 x.1.kd, .slice x.2.1 x.1.it.length x.2.2] := by rw [hW1]; exact Blk.new w 43 _
  have kx := fun W (hW : Below W1.heap.size W1 W) => blk4 (hR.below hW hR.lt)
  have kc := fun W (hW : Below W1.heap.size W1 W) => hc.below (bthen hb1 hW)
  obtain ⟨n, hnn⟩ : ∃ n, n = l.length := ⟨_, rfl⟩
  obtain ⟨P, hP⟩ : ∃ P, P = posP x.1 (pl l) := ⟨_, rfl⟩
  obtain ⟨Z, hZ⟩ : ∃ Z, Z = hasP x.1 (pl l) := ⟨_, rfl⟩
  have hl : (pl l).length = n := by rw [pl_len]; exact hnn.symm
  have hPn : P ≤ n := by rw [hP, ← hl]; exact pos_le _ _
  have mid1 : ∀ k (hk : k < l.length), k < P → ltP l[k].1 x.1 = true := fun k hk h => by
    obtain ⟨h2, h3⟩ := pos_lt (p := x.1) (l := pl l) k (by rw [← hP]; exact h)
    rw [pl_at hk] at h3; exact h3
  have mid2 : Z = false → ∀ k (hk : k < l.length), P ≤ k → ltP x.1 l[k].1 = true := fun hz k hk h => by
    have h1 := pos_ge hs (i := k) (by rw [← hP]; exact h) (by rw [pl_len]; exact hk)
    rw [pl_at hk] at h1
    have h2 : eqP l[k].1 x.1 = false := by
      rw [hZ] at hz
      have := (List.any_eq_false.1 hz) l[k].1 (by unfold pl; exact List.mem_map_of_mem (List.getElem_mem hk))
      simpa using this
    rcases ltP_tri l[k].1 x.1 with h3 | h3 | h3
    · rw [h1] at h3; cases h3
    · rw [h2] at h3; cases h3
    · exact h3
  have mid3 : Z = true → ∃ hk : P < l.length, eqP l[P].1 x.1 = true := fun hz => by
    rw [hZ, has_at hs] at hz
    obtain ⟨h, h3⟩ := hz
    simp only [← hP] at h3
    have hk : P < l.length := by rw [← pl_len l, hP]; exact h
    rw [pl_at hk] at h3; exact ⟨hk, h3⟩
  obtain ⟨RDF, hRDF⟩ : ∃ b, b = (x.1.sp.toList == rdfL) := ⟨_, rfl⟩
  rw [← hnn, ← hP, ← hZ, ← hRDF]
  replace hRDF := Lib.hid hRDF
  rw [← hnn] at hn hcp hA
  obtain ⟨r0, r1, r2, r3⟩ := blk4 hR
  unfold prV
  clear hs hc hP hZ hl
  replace hb1 := Lib.hid hb1
  replace kx := Lib.hid kx
  replace kc := Lib.hid kc
  replace hnn := Lib.hid hnn
  replace mid1 := Lib.hid mid1
  replace mid2 := Lib.hid mid2
  replace mid3 := Lib.hid mid3
  replace hA := Lib.hid hA
  replace hPn := Lib.hid hPn
  clear hR r0 r1 r2 r3
  go_enter Tryz.func29, Tryz.ntmps29
  go_upto_region 1 with (fail)
  rw [← hW1]
  replace hW1 := Lib.hid hW1
  go_wp2
  go_loopw [6, 7, 8] (fun s6 s7 s8 wr => ∃ (i : Nat) (o : List PA), i ≤ n ∧ s8 = .int .i64 i ∧ s7 = .bool (decide (P < i)) ∧ (∃ a m c, s6 = .slice a m c) ∧ o = outL l x P i ∧ wr.ownsRow W1.heap.size 43 4 s6 o.length (flatP o) ∧ (Z = true → i ≤ P) ∧ Below W1.heap.size W1 wr) (fun _ _ s8 _ => n - (RowKit.intOf s8).toNat)
  case atStart => exact ⟨0, [], Nat.zero_le _, rfl, rfl, ⟨_, _, _, rfl⟩, by unfold outL; rw [if_pos (Nat.zero_le _)]; rfl, World.ownsRow_nil _ _ _ _, fun _ => Nat.zero_le _, Below.refl _ _⟩
  case round =>
    obtain ⟨i, o, hi, rfl, rfl, ⟨a6, m6, c6, rfl⟩, ho, hO, hzi, hB⟩ := hrel
    have hol : o.length ≤ 21 := by rw [ho]; have := @out_len l x P i; have := hnn.out; omega
    obtain ⟨u0, u1, u2, u3⟩ := kx.out wr hB
    by_cases hin : i < n
    · have hil : i < l.length := by rw [← hnn.out]; exact hin
      have hAe := hA.out (by omega)
      subst hAe
      have kq := fun W (hW : Below W1.heap.size W1 W) => kc.out W hW i hil
      have m1 := mid1.out i hil
      have m2 := fun hz => mid2.out hz i hil
      have m3 : Z = true → i = P → eqP l[i].1 x.1 = true := fun hz h => by obtain ⟨_, h3⟩ := mid3.out hz; subst h; exact h3
      have t1 : i < P → o ++ [l[i]] = outL l x P (i + 1) := fun h => by rw [ho]; exact out_lt h hil
      have t2 : i = P → (o ++ [x]) ++ [l[i]] = outL l x P (i + 1) := fun h => by subst h; rw [ho]; exact out_eq hil
      have t3 : P < i → o ++ [l[i]] = outL l x P (i + 1) := fun h => by rw [ho]; exact out_gt h hil
      generalize l[i] = y at kq m1 m2 m3 t1 t2 t3
      obtain ⟨x0, x1, x2, x3⟩ := kq wr hB
      replace kq := Lib.hid kq
      replace t1 := Lib.hid t1
      replace t2 := Lib.hid t2
      replace t3 := Lib.hid t3
      replace hO := Lib.hid hO
      replace hB := Lib.hid hB
      replace hol := Lib.hid hol
      replace ho := Lib.hid ho
      replace hzi := Lib.hid hzi
      rcases Nat.lt_trichotomy i P with h | h | h
      · rcases lt_case (m1 h) with hk | ⟨hk1, hk⟩
        · obtain ⟨e1, e3, b1⟩ := lt_ne hk
          have b1 : Op.bytesLess x.1.sp.toList y.1.sp.toList = false := b1
          clear hk
          have hdp : decide (P < i) = false := by simp; omega
          rw [hdp]
          clear hdp m1 m2 m3
          go_upto_region 6 with (fail)
          go_quiet (fail)
          obtain ⟨wq, hwq⟩ : ∃ W, W = wr.drewN nq := ⟨_, rfl⟩
          rw [← hwq]
          have hBwq : Below wr.heap.size wr wq := by rw [hwq]; exact drewN_below' _ _
          obtain ⟨u0, u1, u2, u3⟩ := kx.out wq (bthen hB.out hBwq)
          obtain ⟨x0, x1, x2, x3⟩ := kq.out wq (bthen hB.out hBwq)
          replace hwq := Lib.hid hwq
          replace hBwq := Lib.hid hBwq
          have hB2 := bthen hB.out hBwq.out
          replace hB2 := Lib.hid hB2
          go_upto_region 8 with (fail)
          go_quiet (fail)
          obtain ⟨wz, hwz⟩ : ∃ W, W = wq.drewN nq := ⟨_, rfl⟩
          rw [← hwz]
          have hBwz : Below wq.heap.size wq wz := by rw [hwz]; exact drewN_below' _ _
          obtain ⟨u0, u1, u2, u3⟩ := kx.out wz (bthen hB2.out hBwz)
          obtain ⟨x0, x1, x2, x3⟩ := kq.out wz (bthen hB2.out hBwz)
          replace hwz := Lib.hid hwz
          replace hBwz := Lib.hid hBwz
          have hB3 := bthen hB2.out hBwz.out
          have hO3 := row_kept hO.out (bthen hBwq.out hBwz.out)
          clear u0 u1 u2 u3
          have hbA1 := (Below.refl wz.heap.size wz).alloc (Nat.le_refl _) (.cells #[.string y.1.sp, .string y.1.nm, .int .i64 y.1.kd, .slice y.2.1 y.1.it.length y.2.2] 43)
          have hO1 := row_kept hO3 hbA1
          have hQ1 := Blk.new wz 43 #[.string y.1.sp, .string y.1.nm, .int .i64 y.1.kd, .slice y.2.1 y.1.it.length y.2.2]
          have hD1 := bthen hB3 hbA1
          have hz1 := hD1.size
          replace hO1 := Lib.hid hO1
          replace hQ1 := Lib.hid hQ1
          replace hD1 := Lib.hid hD1
          clear hbA1
          clear hO3 hB3
          go_wp2_with (refine app_prs rfl _ _ rfl W1.heap.size _ o rfl hO1.out wz.heap.size y rfl hQ1.out (by have := hol.out; omega) hz1 ?_; intro a1 n1 c1 v1 hr1 hb1; replace hr1 := Lib.hid hr1; replace hb1 := Lib.hid hb1)
          go_roundw
          case rel => exact ⟨i + 1, _, by omega, by go_num, by congr 1; simp; omega, ⟨_, _, _, rfl⟩, t1.out h, hr1.out, fun hz => by have := hzi.out hz; omega, hD1.out.trans hb1.out⟩
          case measure => simp [RowKit.intOf]; omega
        · have e1 : (y.1.sp.toList == x.1.sp.toList) = true := by rw [hk1]; simp
          have e3 : (x.1.sp.toList == y.1.sp.toList) = true := by rw [hk1]; simp
          have b1 : Op.bytesLess x.1.sp.toList y.1.sp.toList = false := by rw [hk1]; exact lt_irr _
          obtain ⟨e2, _, b2⟩ := lt_ne hk
          have b2 : Op.bytesLess x.1.nm.toList y.1.nm.toList = false := b2
          clear hk hk1
          have hdp : decide (P < i) = false := by simp; omega
          rw [hdp]
          clear hdp m1 m2 m3
          go_upto_region 6 with (fail)
          go_quiet (fail)
          obtain ⟨wq, hwq⟩ : ∃ W, W = wr.drewN nq := ⟨_, rfl⟩
          rw [← hwq]
          have hBwq : Below wr.heap.size wr wq := by rw [hwq]; exact drewN_below' _ _
          obtain ⟨u0, u1, u2, u3⟩ := kx.out wq (bthen hB.out hBwq)
          obtain ⟨x0, x1, x2, x3⟩ := kq.out wq (bthen hB.out hBwq)
          replace hwq := Lib.hid hwq
          replace hBwq := Lib.hid hBwq
          have hB2 := bthen hB.out hBwq.out
          replace hB2 := Lib.hid hB2
          go_upto_region 8 with (fail)
          go_quiet (fail)
          obtain ⟨wz, hwz⟩ : ∃ W, W = wq.drewN nq := ⟨_, rfl⟩
          rw [← hwz]
          have hBwz : Below wq.heap.size wq wz := by rw [hwz]; exact drewN_below' _ _
          obtain ⟨u0, u1, u2, u3⟩ := kx.out wz (bthen hB2.out hBwz)
          obtain ⟨x0, x1, x2, x3⟩ := kq.out wz (bthen hB2.out hBwz)
          replace hwz := Lib.hid hwz
          replace hBwz := Lib.hid hBwz
          have hB3 := bthen hB2.out hBwz.out
          have hO3 := row_kept hO.out (bthen hBwq.out hBwz.out)
          clear u0 u1 u2 u3
          have hbA1 := (Below.refl wz.heap.size wz).alloc (Nat.le_refl _) (.cells #[.string y.1.sp, .string y.1.nm, .int .i64 y.1.kd, .slice y.2.1 y.1.it.length y.2.2] 43)
          have hO1 := row_kept hO3 hbA1
          have hQ1 := Blk.new wz 43 #[.string y.1.sp, .string y.1.nm, .int .i64 y.1.kd, .slice y.2.1 y.1.it.length y.2.2]
          have hD1 := bthen hB3 hbA1
          have hz1 := hD1.size
          replace hO1 := Lib.hid hO1
          replace hQ1 := Lib.hid hQ1
          replace hD1 := Lib.hid hD1
          clear hbA1
          clear hO3 hB3
          go_wp2_with (refine app_prs rfl _ _ rfl W1.heap.size _ o rfl hO1.out wz.heap.size y rfl hQ1.out (by have := hol.out; omega) hz1 ?_; intro a1 n1 c1 v1 hr1 hb1; replace hr1 := Lib.hid hr1; replace hb1 := Lib.hid hb1)
          go_roundw
          case rel => exact ⟨i + 1, _, by omega, by go_num, by congr 1; simp; omega, ⟨_, _, _, rfl⟩, t1.out h, hr1.out, fun hz => by have := hzi.out hz; omega, hD1.out.trans hb1.out⟩
          case measure => simp [RowKit.intOf]; omega
      · subst h
        cases hZf : Z with
        | true =>
          have m3' := m3 hZf rfl
          unfold eqP Pr.s Pr.n at m3'
          rw [Bool.and_eq_true] at m3'
          obtain ⟨e1, e2⟩ := m3'
          clear m1 m2 m3
          go_upto_region 6 with (fail)
          go_quiet (fail)
          obtain ⟨wq, hwq⟩ : ∃ W, W = wr.drewN nq := ⟨_, rfl⟩
          rw [← hwq]
          have hBwq : Below wr.heap.size wr wq := by rw [hwq]; exact drewN_below' _ _
          obtain ⟨u0, u1, u2, u3⟩ := kx.out wq (bthen hB.out hBwq)
          obtain ⟨x0, x1, x2, x3⟩ := kq.out wq (bthen hB.out hBwq)
          replace hwq := Lib.hid hwq
          replace hBwq := Lib.hid hBwq
          have hB2 := bthen hB.out hBwq.out
          have hB3 := bthen hb1.out hB2
          replace hB3 := Lib.hid hB3
          clear hB2
          go_wp2
          go_ret2
          first | exact ⟨hB3.out, _, _, _, rfl, fun h => by cases h⟩ | exact ⟨hB3.out, _, _, _, rfl⟩
        | false =>
          rcases lt_case (m2 hZf (by omega)) with hk | ⟨hk1, hk⟩
          · obtain ⟨e3, e1, _⟩ := lt_ne hk
            have b1 : Op.bytesLess x.1.sp.toList y.1.sp.toList = true := hk
            clear hk
            have hdp : ∀ z : Nat, decide (z < z) = false := fun z => by simp
            rw [hdp]
            clear hdp m1 m2 m3
            go_upto_region 6 with (fail)
            go_quiet (fail)
            obtain ⟨wq, hwq⟩ : ∃ W, W = wr.drewN nq := ⟨_, rfl⟩
            rw [← hwq]
            have hBwq : Below wr.heap.size wr wq := by rw [hwq]; exact drewN_below' _ _
            obtain ⟨u0, u1, u2, u3⟩ := kx.out wq (bthen hB.out hBwq)
            obtain ⟨x0, x1, x2, x3⟩ := kq.out wq (bthen hB.out hBwq)
            replace hwq := Lib.hid hwq
            replace hBwq := Lib.hid hBwq
            have hB2 := bthen hB.out hBwq.out
            replace hB2 := Lib.hid hB2
            go_upto_region 8 with (fail)
            go_quiet (fail)
            obtain ⟨wz, hwz⟩ : ∃ W, W = wq.drewN nq := ⟨_, rfl⟩
            rw [← hwz]
            have hBwz : Below wq.heap.size wq wz := by rw [hwz]; exact drewN_below' _ _
            obtain ⟨u0, u1, u2, u3⟩ := kx.out wz (bthen hB2.out hBwz)
            obtain ⟨x0, x1, x2, x3⟩ := kq.out wz (bthen hB2.out hBwz)
            replace hwz := Lib.hid hwz
            replace hBwz := Lib.hid hBwz
            have hB3 := bthen hB2.out hBwz.out
            have hO3 := row_kept hO.out (bthen hBwq.out hBwz.out)
            have hbA1 := (Below.refl wz.heap.size wz).alloc (Nat.le_refl _) (.cells #[.string x.1.sp, .string x.1.nm, .int .i64 x.1.kd, .slice x.2.1 x.1.it.length x.2.2] 43)
            have hO1 := row_kept hO3 hbA1
            have hQ1 := Blk.new wz 43 #[.string x.1.sp, .string x.1.nm, .int .i64 x.1.kd, .slice x.2.1 x.1.it.length x.2.2]
            have hD1 := bthen hB3 hbA1
            have hz1 := hD1.size
            replace hO1 := Lib.hid hO1
            replace hQ1 := Lib.hid hQ1
            replace hD1 := Lib.hid hD1
            clear hbA1
            clear hO3 hB3
            go_upto_region 10 with (refine app_prs rfl _ _ rfl W1.heap.size _ o rfl hO1.out wz.heap.size x rfl hQ1.out (by have := hol.out; omega) hz1 ?_; intro a1 n1 c1 v1 hr1 hb1; replace hr1 := Lib.hid hr1; replace hb1 := Lib.hid hb1)
            have hB4 := hD1.out.trans hb1.out
            obtain ⟨x0, x1, x2, x3⟩ := kq.out v1 hB4
            have hol2 : (o ++ [x]).length ≤ 22 := by have := hol.out; rw [List.length_append, List.length_singleton]; omega
            replace hol2 := Lib.hid hol2
            have hbA2 := (Below.refl v1.heap.size v1).alloc (Nat.le_refl _) (.cells #[.string y.1.sp, .string y.1.nm, .int .i64 y.1.kd, .slice y.2.1 y.1.it.length y.2.2] 43)
            have hO2 := row_kept hr1.out hbA2
            have hQ2 := Blk.new v1 43 #[.string y.1.sp, .string y.1.nm, .int .i64 y.1.kd, .slice y.2.1 y.1.it.length y.2.2]
            have hD2 := bthen hB4 hbA2
            have hz2 := hD2.size
            replace hO2 := Lib.hid hO2
            replace hQ2 := Lib.hid hQ2
            replace hD2 := Lib.hid hD2
            clear hbA2
            clear hB4
            go_wp2_with (refine app_prs rfl _ _ rfl W1.heap.size _ (o ++ [x]) rfl hO2.out v1.heap.size y rfl hQ2.out (by have := hol2.out; omega) hz2 ?_; intro a2 n2 c2 v2 hr2 hb2; replace hr2 := Lib.hid hr2; replace hb2 := Lib.hid hb2)
            go_roundw
            case rel => exact ⟨_ + 1, _, by omega, by go_num, by congr 1; simp, ⟨_, _, _, rfl⟩, t2.out rfl, hr2.out, (fun hz => by cases hz), hD2.out.trans hb2.out⟩
            case measure => simp [RowKit.intOf]; omega
          · have e1 : (y.1.sp.toList == x.1.sp.toList) = true := by rw [hk1]; simp
            have e3 : (x.1.sp.toList == y.1.sp.toList) = true := by rw [hk1]; simp
            have b1 : Op.bytesLess x.1.sp.toList y.1.sp.toList = false := by rw [hk1]; exact lt_irr _
            obtain ⟨_, e2, _⟩ := lt_ne hk
            have b2 : Op.bytesLess x.1.nm.toList y.1.nm.toList = true := hk
            clear hk hk1
            have hdp : ∀ z : Nat, decide (z < z) = false := fun z => by simp
            rw [hdp]
            clear hdp m1 m2 m3
            go_upto_region 6 with (fail)
            go_quiet (fail)
            obtain ⟨wq, hwq⟩ : ∃ W, W = wr.drewN nq := ⟨_, rfl⟩
            rw [← hwq]
            have hBwq : Below wr.heap.size wr wq := by rw [hwq]; exact drewN_below' _ _
            obtain ⟨u0, u1, u2, u3⟩ := kx.out wq (bthen hB.out hBwq)
            obtain ⟨x0, x1, x2, x3⟩ := kq.out wq (bthen hB.out hBwq)
            replace hwq := Lib.hid hwq
            replace hBwq := Lib.hid hBwq
            have hB2 := bthen hB.out hBwq.out
            replace hB2 := Lib.hid hB2
            go_upto_region 8 with (fail)
            go_quiet (fail)
            obtain ⟨wz, hwz⟩ : ∃ W, W = wq.drewN nq := ⟨_, rfl⟩
            rw [← hwz]
            have hBwz : Below wq.heap.size wq wz := by rw [hwz]; exact drewN_below' _ _
            obtain ⟨u0, u1, u2, u3⟩ := kx.out wz (bthen hB2.out hBwz)
            obtain ⟨x0, x1, x2, x3⟩ := kq.out wz (bthen hB2.out hBwz)
            replace hwz := Lib.hid hwz
            replace hBwz := Lib.hid hBwz
            have hB3 := bthen hB2.out hBwz.out
            have hO3 := row_kept hO.out (bthen hBwq.out hBwz.out)
            have hbA1 := (Below.refl wz.heap.size wz).alloc (Nat.le_refl _) (.cells #[.string x.1.sp, .string x.1.nm, .int .i64 x.1.kd, .slice x.2.1 x.1.it.length x.2.2] 43)
            have hO1 := row_kept hO3 hbA1
            have hQ1 := Blk.new wz 43 #[.string x.1.sp, .string x.1.nm, .int .i64 x.1.kd, .slice x.2.1 x.1.it.length x.2.2]
            have hD1 := bthen hB3 hbA1
            have hz1 := hD1.size
            replace hO1 := Lib.hid hO1
            replace hQ1 := Lib.hid hQ1
            replace hD1 := Lib.hid hD1
            clear hbA1
            clear hO3 hB3
            go_upto_region 10 with (refine app_prs rfl _ _ rfl W1.heap.size _ o rfl hO1.out wz.heap.size x rfl hQ1.out (by have := hol.out; omega) hz1 ?_; intro a1 n1 c1 v1 hr1 hb1; replace hr1 := Lib.hid hr1; replace hb1 := Lib.hid hb1)
            have hB4 := hD1.out.trans hb1.out
            obtain ⟨x0, x1, x2, x3⟩ := kq.out v1 hB4
            have hol2 : (o ++ [x]).length ≤ 22 := by have := hol.out; rw [List.length_append, List.length_singleton]; omega
            replace hol2 := Lib.hid hol2
            have hbA2 := (Below.refl v1.heap.size v1).alloc (Nat.le_refl _) (.cells #[.string y.1.sp, .string y.1.nm, .int .i64 y.1.kd, .slice y.2.1 y.1.it.length y.2.2] 43)
            have hO2 := row_kept hr1.out hbA2
            have hQ2 := Blk.new v1 43 #[.string y.1.sp, .string y.1.nm, .int .i64 y.1.kd, .slice y.2.1 y.1.it.length y.2.2]
            have hD2 := bthen hB4 hbA2
            have hz2 := hD2.size
            replace hO2 := Lib.hid hO2
            replace hQ2 := Lib.hid hQ2
            replace hD2 := Lib.hid hD2
            clear hbA2
            clear hB4
            go_wp2_with (refine app_prs rfl _ _ rfl W1.heap.size _ (o ++ [x]) rfl hO2.out v1.heap.size y rfl hQ2.out (by have := hol2.out; omega) hz2 ?_; intro a2 n2 c2 v2 hr2 hb2; replace hr2 := Lib.hid hr2; replace hb2 := Lib.hid hb2)
            go_roundw
            case rel => exact ⟨_ + 1, _, by omega, by go_num, by congr 1; simp, ⟨_, _, _, rfl⟩, t2.out rfl, hr2.out, (fun hz => by cases hz), hD2.out.trans hb2.out⟩
            case measure => simp [RowKit.intOf]; omega
      · have hZf : Z = false := by
          cases hz : Z with
          | false => rfl
          | true => have := hzi.out hz; omega
        rcases lt_case (m2 hZf (by omega)) with hk | ⟨hk1, hk⟩
        · obtain ⟨e3, e1, _⟩ := lt_ne hk
          have b1 : Op.bytesLess x.1.sp.toList y.1.sp.toList = true := hk
          clear hk
          have hdp : decide (P < i) = true := by simp; omega
          rw [hdp]
          clear hdp m1 m2 m3
          go_upto_region 6 with (fail)
          go_quiet (fail)
          obtain ⟨wq, hwq⟩ : ∃ W, W = wr.drewN nq := ⟨_, rfl⟩
          rw [← hwq]
          have hBwq : Below wr.heap.size wr wq := by rw [hwq]; exact drewN_below' _ _
          obtain ⟨u0, u1, u2, u3⟩ := kx.out wq (bthen hB.out hBwq)
          obtain ⟨x0, x1, x2, x3⟩ := kq.out wq (bthen hB.out hBwq)
          replace hwq := Lib.hid hwq
          replace hBwq := Lib.hid hBwq
          have hB2 := bthen hB.out hBwq.out
          replace hB2 := Lib.hid hB2
          go_upto_region 8 with (fail)
          go_quiet (fail)
          obtain ⟨wz, hwz⟩ : ∃ W, W = wq.drewN nq := ⟨_, rfl⟩
          rw [← hwz]
          have hBwz : Below wq.heap.size wq wz := by rw [hwz]; exact drewN_below' _ _
          obtain ⟨u0, u1, u2, u3⟩ := kx.out wz (bthen hB2.out hBwz)
          obtain ⟨x0, x1, x2, x3⟩ := kq.out wz (bthen hB2.out hBwz)
          replace hwz := Lib.hid hwz
          replace hBwz := Lib.hid hBwz
          have hB3 := bthen hB2.out hBwz.out
          have hO3 := row_kept hO.out (bthen hBwq.out hBwz.out)
          clear u0 u1 u2 u3
          have hbA1 := (Below.refl wz.heap.size wz).alloc (Nat.le_refl _) (.cells #[.string y.1.sp, .string y.1.nm, .int .i64 y.1.kd, .slice y.2.1 y.1.it.length y.2.2] 43)
          have hO1 := row_kept hO3 hbA1
          have hQ1 := Blk.new wz 43 #[.string y.1.sp, .string y.1.nm, .int .i64 y.1.kd, .slice y.2.1 y.1.it.length y.2.2]
          have hD1 := bthen hB3 hbA1
          have hz1 := hD1.size
          replace hO1 := Lib.hid hO1
          replace hQ1 := Lib.hid hQ1
          replace hD1 := Lib.hid hD1
          clear hbA1
          clear hO3 hB3
          go_wp2_with (refine app_prs rfl _ _ rfl W1.heap.size _ o rfl hO1.out wz.heap.size y rfl hQ1.out (by have := hol.out; omega) hz1 ?_; intro a1 n1 c1 v1 hr1 hb1; replace hr1 := Lib.hid hr1; replace hb1 := Lib.hid hb1)
          go_roundw
          case rel => exact ⟨i + 1, _, by omega, by go_num, by congr 1; simp; omega, ⟨_, _, _, rfl⟩, t3.out h, hr1.out, fun hz => by have := hzi.out hz; omega, hD1.out.trans hb1.out⟩
          case measure => simp [RowKit.intOf]; omega
        · have e1 : (y.1.sp.toList == x.1.sp.toList) = true := by rw [hk1]; simp
          have e3 : (x.1.sp.toList == y.1.sp.toList) = true := by rw [hk1]; simp
          have b1 : Op.bytesLess x.1.sp.toList y.1.sp.toList = false := by rw [hk1]; exact lt_irr _
          obtain ⟨_, e2, _⟩ := lt_ne hk
          have b2 : Op.bytesLess x.1.nm.toList y.1.nm.toList = true := hk
          clear hk hk1
          have hdp : decide (P < i) = true := by simp; omega
          rw [hdp]
          clear hdp m1 m2 m3
          go_upto_region 6 with (fail)
          go_quiet (fail)
          obtain ⟨wq, hwq⟩ : ∃ W, W = wr.drewN nq := ⟨_, rfl⟩
          rw [← hwq]
          have hBwq : Below wr.heap.size wr wq := by rw [hwq]; exact drewN_below' _ _
          obtain ⟨u0, u1, u2, u3⟩ := kx.out wq (bthen hB.out hBwq)
          obtain ⟨x0, x1, x2, x3⟩ := kq.out wq (bthen hB.out hBwq)
          replace hwq := Lib.hid hwq
          replace hBwq := Lib.hid hBwq
          have hB2 := bthen hB.out hBwq.out
          replace hB2 := Lib.hid hB2
          go_upto_region 8 with (fail)
          go_quiet (fail)
          obtain ⟨wz, hwz⟩ : ∃ W, W = wq.drewN nq := ⟨_, rfl⟩
          rw [← hwz]
          have hBwz : Below wq.heap.size wq wz := by rw [hwz]; exact drewN_below' _ _
          obtain ⟨u0, u1, u2, u3⟩ := kx.out wz (bthen hB2.out hBwz)
          obtain ⟨x0, x1, x2, x3⟩ := kq.out wz (bthen hB2.out hBwz)
          replace hwz := Lib.hid hwz
          replace hBwz := Lib.hid hBwz
          have hB3 := bthen hB2.out hBwz.out
          have hO3 := row_kept hO.out (bthen hBwq.out hBwz.out)
          clear u0 u1 u2 u3
          have hbA1 := (Below.refl wz.heap.size wz).alloc (Nat.le_refl _) (.cells #[.string y.1.sp, .string y.1.nm, .int .i64 y.1.kd, .slice y.2.1 y.1.it.length y.2.2] 43)
          have hO1 := row_kept hO3 hbA1
          have hQ1 := Blk.new wz 43 #[.string y.1.sp, .string y.1.nm, .int .i64 y.1.kd, .slice y.2.1 y.1.it.length y.2.2]
          have hD1 := bthen hB3 hbA1
          have hz1 := hD1.size
          replace hO1 := Lib.hid hO1
          replace hQ1 := Lib.hid hQ1
          replace hD1 := Lib.hid hD1
          clear hbA1
          clear hO3 hB3
          go_wp2_with (refine app_prs rfl _ _ rfl W1.heap.size _ o rfl hO1.out wz.heap.size y rfl hQ1.out (by have := hol.out; omega) hz1 ?_; intro a1 n1 c1 v1 hr1 hb1; replace hr1 := Lib.hid hr1; replace hb1 := Lib.hid hb1)
          go_roundw
          case rel => exact ⟨i + 1, _, by omega, by go_num, by congr 1; simp; omega, ⟨_, _, _, rfl⟩, t3.out h, hr1.out, fun hz => by have := hzi.out hz; omega, hD1.out.trans hb1.out⟩
          case measure => simp [RowKit.intOf]; omega
    · obtain rfl : i = n := by omega
      have hPn' := hPn.out
      rcases Nat.lt_or_ge P i with h | h
      · have hdp : decide (P < i) = true := by simp; omega
        rw [hdp]
        clear hdp
        have hZf : Z = false := by
          cases hz : Z with
          | false => rfl
          | true => have := hzi hz; omega
        subst hZf
        have he : outL l x P i = insL l x P := by rw [hnn.out]; exact out_end (by have := hnn.out; omega)
        rw [he] at ho
        rw [ho] at hO
        obtain ⟨A9, g9, c9, e9, hA9, hc9, hx9⟩ := row_out43 hO
        injection e9 with e9 e10 e11
        subst e9 e10 e11
        have hp9 : 0 < (insL l x P).length := by unfold insL; rw [List.length_append, List.length_cons]; omega
        have hA9' := hA9 hp9
        subst hA9'
        have hrd2 := hRDF.out.symm
        unfold rdfL at hrd2
        replace hx9 := Lib.hid hx9
        replace hB := Lib.hid hB
        replace hc9 := Lib.hid hc9
        clear hO hA9 hp9 ho he
        go_upto_region 14 with (fail)
        go_quiet (fail)
        obtain ⟨wq, hwq⟩ : ∃ W, W = wr.drewN nq := ⟨_, rfl⟩
        rw [← hwq]
        have hBq : Below wr.heap.size wr wq := by rw [hwq]; exact drewN_below' _ _
        replace hBq := Lib.hid hBq
        replace hwq := Lib.hid hwq
        go_wp2
        go_ret2
        exact ⟨bthen hb1.out (bthen hB.out hBq.out), _, _, _, rfl, rfl, hc9.out, _, rfl, hx9.out.below hBq.out⟩
      · obtain rfl : P = i := by omega
        have hdp : ∀ z : Nat, decide (z < z) = false := fun z => by simp
        rw [hdp]
        clear hdp
        have hZf : Z = false := by
          cases hz : Z with
          | false => rfl
          | true => obtain ⟨h3, _⟩ := mid3.out hz; have := hnn.out; omega
        subst hZf
        have hpl : P = l.length := hnn.out
        have he : o ++ [x] = insL l x P := by rw [ho, hpl]; exact out_end2
        have hrd2 := hRDF.out.symm
        unfold rdfL at hrd2
        have hO3 := hO
        have hbA1 := (Below.refl wr.heap.size wr).alloc (Nat.le_refl _) (.cells #[.string x.1.sp, .string x.1.nm, .int .i64 x.1.kd, .slice x.2.1 x.1.it.length x.2.2] 43)
        have hO1 := row_kept hO3 hbA1
        have hQ1 := Blk.new wr 43 #[.string x.1.sp, .string x.1.nm, .int .i64 x.1.kd, .slice x.2.1 x.1.it.length x.2.2]
        have hD1 := bthen hB hbA1
        have hz1 := hD1.size
        replace hO1 := Lib.hid hO1
        replace hQ1 := Lib.hid hQ1
        replace hD1 := Lib.hid hD1
        replace he := Lib.hid he
        replace hpl := Lib.hid hpl
        replace hol := Lib.hid hol
        replace ho := Lib.hid ho
        clear hbA1 hO hO3
        go_upto_region 14 with (refine app_prs rfl _ _ rfl W1.heap.size _ o rfl hO1.out wr.heap.size x rfl hQ1.out (by have := hol.out; omega) hz1 ?_; intro a1 n1 c1 v1 hr1 hb1'; replace hr1 := Lib.hid hr1; replace hb1' := Lib.hid hb1')
        have hB4 := hD1.out.trans hb1'.out
        obtain ⟨u0, u1, u2, u3⟩ := kx.out v1 hB4
        have hr2 := hr1.out
        rw [he.out] at hr2
        obtain ⟨A9, g9, c9, e9, hA9, hc9, hx9⟩ := row_out43 hr2
        injection e9 with e9 e10 e11
        subst e9 e10 e11
        have hp9 : 0 < (insL l x P).length := by unfold insL; rw [List.length_append, List.length_cons]; omega
        have hA9' := hA9 hp9
        subst hA9'
        replace hx9 := Lib.hid hx9
        replace hB4 := Lib.hid hB4
        replace hc9 := Lib.hid hc9
        clear hr1 hr2 hA9 hp9
        go_quiet (fail)
        obtain ⟨wq, hwq⟩ : ∃ W, W = v1.drewN nq := ⟨_, rfl⟩
        rw [← hwq]
        have hBq : Below v1.heap.size v1 wq := by rw [hwq]; exact drewN_below' _ _
        replace hBq := Lib.hid hBq
        replace hwq := Lib.hid hwq
        go_wp2
        go_ret2
        exact ⟨bthen hb1.out (bthen hB4.out hBq.out), _, _, _, rfl, rfl, hc9.out, _, rfl, hx9.out.below hBq.out⟩
end Go.Proofs.YtkpikpaepgknnaaGreatDoor

/- Fixed: the law of shares, walked. No condition. -/
import Derived.Test.YtbmcmilbmkdabaaDoorFxRules
import Derived.Maps.AppendAt
import Derived.Laws.AppendOwnNone
namespace Go.Proofs.YtbmcmilbmkdabaaDoor
open Go Go.RowKit Go.Wk
def sumI (zs : List Int) : Int := zs.foldl (· + ·) 0
theorem foldl_add (zs : List Int) : ∀ s : Int, zs.foldl (· + ·) s = s + sumI zs := by
  induction zs with
  | nil => intro s; simp [sumI]
  | cons x xs ih => intro s; unfold sumI; rw [List.foldl_cons, List.foldl_cons, ih, ih (0 + x)]; omega
theorem sumI_cons (x : Int) (xs : List Int) : sumI (x :: xs) = x + sumI xs := by unfold sumI; rw [List.foldl_cons, foldl_add]; unfold sumI; omega
theorem sumI_app (a b : List Int) : sumI (a ++ b) = sumI a + sumI b := by
  induction a with
  | nil => simp [sumI]
  | cons x xs ih => rw [List.cons_append, sumI_cons, sumI_cons, ih]; omega
theorem sumI_rev (a : List Int) : sumI a.reverse = sumI a := by
  induction a with
  | nil => rfl
  | cons x xs ih => rw [List.reverse_cons, sumI_app, sumI_cons, sumI_cons, ih]; simp [sumI]; omega
def small (zs : List Int) : Prop := ∀ x ∈ zs, -2147483648 ≤ x ∧ x ≤ 2147483647
theorem addF_small : ∀ (zs : List Int) (s : Int), small zs → -214748364799999 + 2147483648 * zs.length ≤ s → s ≤ 214748364799999 - 2147483648 * zs.length → addF s zs = (s + sumI zs, true) := by
  intro zs
  induction zs with
  | nil => intro s _ _ _; simp [addF, sumI]
  | cons x xs ih =>
    intro s h h1 h2
    have hx := h x (List.mem_cons_self ..)
    simp only [List.length_cons] at h1 h2
    have e : (isIn x && isIn (s + x)) = true := by simp [isIn]; omega
    rw [addF, if_pos e, ih (s + x) (fun y hy => h y (List.mem_cons_of_mem _ hy)) (by omega) (by omega), sumI_cons]
    congr 1; omega
theorem sumI_bound : ∀ (zs : List Int), small zs → -(2147483648 * (zs.length : Int)) ≤ sumI zs ∧ sumI zs ≤ 2147483648 * (zs.length : Int) := by
  intro zs
  induction zs with
  | nil => intro _; simp [sumI]
  | cons x xs ih =>
    intro h
    have hx := h x (List.mem_cons_self ..)
    have := ih fun y hy => h y (List.mem_cons_of_mem _ hy)
    rw [sumI_cons, List.length_cons]
    omega
theorem scaled_times (k n : Int) (hk : -2147483648 ≤ k ∧ k ≤ 2147483647) (hn : -32768 ≤ n ∧ n ≤ 32767) : scaledS k (n * 100000) 100000 = (k * n, true) := by
  have e1 : k.natAbs * (n * 100000).natAbs / (100000 : Int).natAbs = k.natAbs * n.natAbs := by
    rw [Int.natAbs_mul, ← Nat.mul_assoc]
    exact Nat.mul_div_cancel _ (by decide)
  have hb : k.natAbs * n.natAbs ≤ 2147483648 * 32768 := Nat.mul_le_mul (by omega) (by omega)
  have e2 : (isIn k && isIn (n * 100000) && !((100000 : Int) == 0) && decide (k.natAbs * n.natAbs ≤ 214748364799999)) = true := by
    have h1 : isIn k = true := by simp [isIn]; omega
    have h2 : isIn (n * 100000) = true := by simp [isIn]; omega
    rw [h1, h2]
    have h3 : k.natAbs * n.natAbs ≤ 214748364799999 := by omega
    simp [h3]
  unfold scaledS
  rw [e1, if_pos e2]
  congr 1
  have e3 : ((k.natAbs * n.natAbs : Nat) : Int) = (k.natAbs : Int) * (n.natAbs : Int) := Int.natCast_mul _ _
  rw [e3]
  have hs : neg3 k (n * 100000) 100000 = (decide (k < 0) != decide (n < 0)) := by
    have : decide (n * 100000 < 0) = decide (n < 0) := by rw [decide_eq_decide]; omega
    unfold neg3; rw [this]; simp
  rw [hs]
  by_cases h1 : k < 0 <;> by_cases h2 : n < 0
  · rw [show (k.natAbs : Int) = -k by omega, show (n.natAbs : Int) = -n by omega]; simp [h1, h2, Int.neg_mul, Int.mul_neg]
  · rw [show (k.natAbs : Int) = -k by omega, show (n.natAbs : Int) = n by omega]; simp [h1, h2, Int.neg_mul, Int.mul_neg]
  · rw [show (k.natAbs : Int) = k by omega, show (n.natAbs : Int) = -n by omega]; simp [h1, h2, Int.neg_mul, Int.mul_neg]
  · rw [show (k.natAbs : Int) = k by omega, show (n.natAbs : Int) = n by omega]; simp [h1, h2, Int.neg_mul, Int.mul_neg]
/-- numbers of 32 bits that lie at an address -/
def Nums32 (w : World) (A : Option Addr) (zs : List Int) : Prop :=
  zs.length ≤ maxLen ∧ (0 < zs.length → ∃ b o, A = some ⟨b, o, none⟩ ∧ ∀ i (h : i < zs.length), w.cell? ⟨b, o + i, none⟩ = some (.int .i32 zs[i])) ∧ small zs
theorem Nums32.below {w w' : World} {A : Option Addr} {zs : List Int} (h : Nums32 w A zs) (hb : Below w.heap.size w w') : Nums32 w' A zs := by
  refine ⟨h.1, fun h0 => ?_, h.2.2⟩
  obtain ⟨b, o, e, hc⟩ := h.2.1 h0
  refine ⟨b, o, e, fun i hi => ?_⟩
  rw [hb.cell (p := ⟨b, o + i, none⟩) (cell_lt (hc i hi))]
  exact hc i hi
def valsI (zs : List Int) : List Value := zs.map fun n => .int .i64 n
theorem long_info : ∃ i, Tryd.prog.info? 2 = some i ∧ i.zero = some (.int .i64 0) ∧ i.size = 1 ∧ i.bytes = 8 := ⟨Tryd.t2, by kernel_rfl, by kernel_rfl, by kernel_rfl, by kernel_rfl⟩
theorem app_long {w : World} {ops : Array Oper} {rest : List Oper} {o : Oper} {a : Act} {Q : Exit → Act → World → Prop} (hgd : o.guard = none) (s x : Operand)
    (ho : o.op = .call { callee := .builtin .append, args := #[s, x], argTypes := #[40, 40] })
    (base : Nat) (v : Value) (n : Nat) (xs : List Int) (hs : a.eval s = v) (hown : w.ownsRow base 2 1 v n (valsI xs))
    (ad : Addr) (m c : Nat) (news : List Int) (hx : a.eval x = .slice (some ad) m c) (hl : news.length = m) (hnews : ∀ j u, (valsI news)[j]? = some u → w.cell? (ad.add j) = some u)
    (h63 : n + m ≤ 100000) (hbase : base ≤ w.heap.size)
    (h : ∀ v' w', w'.ownsRow base 2 1 v' (n + m) (valsI (xs ++ news)) → w.grownBy w' v.ownBlock → (v'.ownBlock = v.ownBlock ∨ v'.ownBlock = some w.heap.size) → wpList Tryd.prog ops Q rest (a.put o.dst v') w') :
    wpList Tryd.prog ops Q (o :: rest) a w := by
  obtain ⟨i0, hi, hz0, hz1, hz2⟩ := long_info
  refine wpList_append_own_at w hgd s x 40 ho base 2 i0 (.int .i64 0) 1 8 Tryd.underlying40 hi hz0 hz1 hz2 rfl (by decide) v n (valsI xs) hs hown ad m c (valsI news) hx (by simp [valsI, hl]) hnews ?_ (by unfold maxLen; omega) (by omega) hbase ?_
  · intro u hu
    obtain ⟨z, _, rfl⟩ := List.mem_map.1 hu
    rfl
  · intro v' w' h1 h2 _ h3
    refine h v' w' ?_ h2 h3
    rw [show valsI (xs ++ news) = valsI xs ++ valsI news by simp [valsI]]
    exact h1
theorem app_none {w : World} {ops : Array Oper} {rest : List Oper} {o : Oper} {a : Act} {Q : Exit → Act → World → Prop} (hgd : o.guard = none) (s x : Operand)
    (ho : o.op = .call { callee := .builtin .append, args := #[s, x], argTypes := #[40, 40] })
    (base : Nat) (v : Value) (n : Nat) (xs : List Int) (hs : a.eval s = v) (hown : w.ownsRow base 2 1 v n (valsI xs)) (hx : a.eval x = .slice none 0 0)
    (h : wpList Tryd.prog ops Q rest (a.put o.dst v) w) : wpList Tryd.prog ops Q (o :: rest) a w := by
  obtain ⟨i0, hi, _, _, _⟩ := long_info
  exact wpList_append_own_none hgd s x 40 ho base 2 i0 1 Tryd.underlying40 hi v n (valsI xs) hs hown hx h
theorem new_cells (w : World) (x : Int) : ∀ j u, (valsI [x])[j]? = some u → (w.alloc (.cells #[.int .i64 x] 2)).cell? ((⟨w.heap.size, 0, none⟩ : Addr).add j) = some u := by
  intro j u hu
  match j, hu with
  | 0, hu =>
    simp [valsI] at hu; subst hu
    rw [add_none, alloc_cell]; rfl
  | j + 1, hu => simp [valsI] at hu
theorem new_row (w : World) (x : Int) (base : Nat) (h : base ≤ w.heap.size) : (w.alloc (.cells #[.int .i64 x] 2)).ownsRow base 2 1 (.slice (some ⟨w.heap.size, 0, none⟩) 1 1) 1 (valsI [x]) := by
  refine ⟨rfl, .inr ⟨w.heap.size, 1, #[.int .i64 x], rfl, h, ?_, by omega, by unfold maxLen; omega, rfl, rfl⟩⟩
  show (w.heap.push _)[w.heap.size]? = _
  simp
theorem size_alloc (w : World) (o : Obj) : (w.alloc o).heap.size = w.heap.size + 1 := by
  show (w.heap.push _).size = _
  simp
theorem own_ne {a b : Option Nat} (h : a = none ∨ a ≠ b) : b = none ∨ b ≠ a := by
  rcases h with rfl | h
  · cases b <;> simp
  · exact .inr (Ne.symm h)
theorem own_fresh {a : Option Nat} {n m : Nat} (h : ∀ k, a = some k → m ≤ k ∧ k < n) : a = none ∨ a ≠ some n := by
  cases a with
  | none => exact .inl rfl
  | some k => exact .inr fun e => by cases e; have := (h _ rfl).2; omega
theorem own_apart {a c : Option Nat} {n n2 m : Nat} (h : ∀ k, a = some k → m ≤ k ∧ k < n) (hc : c = some n ∨ c = some n2) (hn : n ≤ n2) : a = none ∨ a ≠ c := by
  cases a with
  | none => exact .inl rfl
  | some k =>
    have := (h _ rfl).2
    rcases hc with rfl | rfl
    · exact .inr fun e => by cases e; omega
    · exact .inr fun e => by cases e; omega
theorem own_step {a b c : Option Nat} {n m : Nat} (h : a = none ∨ a ≠ b) (hc : c = a ∨ c = some n) (hb : ∀ k, b = some k → m ≤ k ∧ k < n) : c = none ∨ c ≠ b := by
  rcases hc with rfl | rfl
  · exact h
  · refine .inr fun e => ?_
    have := (hb n e.symm).2
    omega
theorem own_nums {w : World} {base n : Nat} {v : Value} {xs : List Int} (h : w.ownsRow base 2 1 v n (valsI xs)) (hm : n ≤ maxLen) : ∃ A c, v = .slice A n c ∧ Nums w A xs := by
  have hl : xs.length = n := by have := h.1; simpa [valsI] using this
  rcases h.2 with ⟨rfl, h0⟩ | ⟨g, cap, cur, rfl, _, hh, hnc, hcm, hsz, htk⟩
  · exact ⟨none, 0, by rw [h0], by omega, fun h1 => by omega⟩
  · refine ⟨_, _, rfl, by omega, fun _ => ⟨g, 0, rfl, fun i hi => ?_⟩⟩
    have hv : (valsI xs)[i]? = some (.int .i64 xs[i]) := by simp [valsI, hi]
    rw [← htk, List.getElem?_take_of_lt (by omega), Array.getElem?_toList] at hv
    rw [Nat.zero_add]
    unfold World.cell?
    rw [hh]
    simpa using hv
set_option maxHeartbeats 1000000 in
theorem shares_law (A : Option Addr) (c : Nat) (zs : List Int) (n : Int) (hn : -32768 ≤ n ∧ n ≤ 32767) (w : World) (h : Nums32 w A zs)
    (haw : Calls Tryd.prog 11 #[] w fun e w' => e = .returned (.bool true) ∧ Below w.heap.size w w') :
    Calls Tryd.prog 8 #[.slice A zs.length c, .int .i16 n] w fun e w' => e = .returned (.bool true) ∧ Below w.heap.size w w' := by
  by_cases h60 : zs.length ≤ 60
  · go_enter Tryd.func8, Tryd.ntmps8
    go_wp2_with (go_at_call 11; refine haw.mono ?_; rintro e w1 ⟨rfl, hw1⟩)
    have hP := h.below hw1
    have hsz1 := hw1.size
    clear h haw
    go_loopw [5, 6, 7, 8] (fun uv dv s i wr => ∃ k : Nat, k ≤ zs.length ∧ i = .int .i64 k ∧ s = .int .i64 (sumI (zs.take k)) ∧ wr.ownsRow w1.heap.size 2 1 uv k (valsI (zs.take k)) ∧ wr.ownsRow w1.heap.size 2 1 dv k (valsI (zs.take k).reverse) ∧
      (uv.ownBlock = none ∨ uv.ownBlock ≠ dv.ownBlock) ∧ Below w1.heap.size w1 wr) (fun _ _ _ i _ => zs.length - (intOf i).toNat)
    case atStart => exact ⟨0, Nat.zero_le _, rfl, rfl, ⟨rfl, .inl ⟨rfl, rfl⟩⟩, ⟨rfl, .inl ⟨rfl, rfl⟩⟩, .inl rfl, Below.refl _ _⟩
    case round =>
      obtain ⟨k, hk, rfl, rfl, hu, hd, hne, hb⟩ := hrel
      have hP2 := hP.below hb
      have hsz2 := hb.size
      by_cases hlt : k < zs.length
      · obtain ⟨b, o, rfl, hc⟩ := hP2.2.1 (by omega)
        have hck := hc k hlt
        have hx32 := hP2.2.2 zs[k] (List.getElem_mem hlt)
        have HT := Lib.hid (show zs.take (k + 1) = zs.take k ++ [zs[k]] from List.take_succ_eq_append_getElem hlt)
        have hsb := sumI_bound (zs.take k) (fun y hy => hP2.2.2 y (List.mem_of_mem_take hy))
        rw [List.length_take_of_le (by omega)] at hsb
        have HC1 : Hid (w1.cell? ⟨b, o + k, none⟩ = some (.int .i32 zs[k])) := by
          obtain ⟨b', o', e, hc'⟩ := hP.2.1 (by omega)
          cases e
          exact Lib.hid (hc' k hlt)
        clear hc hP hP2
        generalize zs[k] = x at *
        rcases hd.2 with ⟨rfl, hk0⟩ | ⟨g, cap, cur, rfl, _⟩
        · replace hk0 := Lib.hid hk0
          go_wp2_with (first
            | (at_builtin; refine app_long rfl _ _ rfl w1.heap.size _ _ (zs.take k) rfl (hu.alloc _) ⟨wr.heap.size, 0, none⟩ 1 1 [x] rfl rfl (new_cells _ _) (by omega) (by rw [size_alloc]; omega) ?_; intro v2 w2 hu2 hg2 hat2; have hb2 := (hb.alloc (by omega) _).grown hg2 (by rw [size_alloc]; omega) (fun j hj => (hu.lt j hj).1); have hd2 := (hd.alloc _).kept hg2 (own_ne hne); have hne2 := own_step hne hat2 (fun j hj => ⟨(hd.lt j hj).1, by have := (hd.lt j hj).2; rw [size_alloc]; omega⟩); have hsz3 := hb2.size; have hdl2 := hd2.lt; have hul2 := hu2.lt; have hck2 := (hb2.cell (p := ⟨b, o + k, none⟩) (cell_lt HC1.out)).trans HC1.out; have hb3 := hb2.alloc hsz3 (.cells #[.int .i64 x] 2); have hck3 := (hb3.cell (p := ⟨b, o + k, none⟩) (cell_lt HC1.out)).trans HC1.out; have hu3 := hu2.alloc (.cells #[.int .i64 x] 2); have hd3 := new_row w2 x w1.heap.size (by omega); clear hg2 hat2 hu hd))
          have HS := Lib.hid (show sumI (zs.take (k + 1)) = sumI (zs.take k) + x by rw [HT.out, sumI_app]; simp [sumI])
          go_roundw
          case rel =>
            refine ⟨k + 1, by omega, by go_num, by rw [HS.out], by rw [HT.out]; exact hu3, ?_, ?_, hb3⟩
            · have h0 := hk0.out
              subst h0
              rw [HT.out]
              exact hd3
            · exact own_fresh hu2.lt
          case measure => simp [intOf]; omega
        · have hdl := hd.cells (g := g) rfl
          go_wp2_with (first
            | (at_builtin; refine app_long rfl _ _ rfl w1.heap.size _ _ (zs.take k) rfl (hu.alloc _) ⟨wr.heap.size, 0, none⟩ 1 1 [x] rfl rfl (new_cells _ _) (by omega) (by rw [size_alloc]; omega) ?_; intro v2 w2 hu2 hg2 hat2; have hb2 := (hb.alloc (by omega) _).grown hg2 (by rw [size_alloc]; omega) (fun j hj => (hu.lt j hj).1); have hd2 := (hd.alloc _).kept hg2 (own_ne hne); have hne2 := own_step hne hat2 (fun j hj => ⟨(hd.lt j hj).1, by have := (hd.lt j hj).2; rw [size_alloc]; omega⟩); have hsz3 := hb2.size; have hdl2 := hd2.lt; have hul2 := hu2.lt; have hck2 := (hb2.cell (p := ⟨b, o + k, none⟩) (cell_lt HC1.out)).trans HC1.out; have hb3 := hb2.alloc hsz3 (.cells #[.int .i64 x] 2); have hck3 := (hb3.cell (p := ⟨b, o + k, none⟩) (cell_lt HC1.out)).trans HC1.out; have hdn := (hd2.alloc (.cells #[.int .i64 x] 2)).cells (g := g) rfl; have hu3 := hu2.alloc (.cells #[.int .i64 x] 2); have hd3 := new_row w2 x w1.heap.size (by omega); clear hg2 hat2 hu hd)
            | (at_builtin; refine app_long rfl _ _ rfl w1.heap.size _ _ [x] rfl hd3 ⟨g, 0, none⟩ k cap (zs.take k).reverse rfl (by simp; omega) hdn (by omega) (by rw [size_alloc]; omega) ?_; intro v3 w3 hd4 hg3 hat3; have hu4 := hu3.kept hg3 (own_fresh hu2.lt); have hb4 := hb3.grown hg3 (by rw [size_alloc]; omega) (fun j hj => by cases hj; exact hsz3); have hne4 := own_apart hu2.lt hat3 (by rw [size_alloc]; omega); have hck4 := (hb4.cell (p := ⟨b, o + k, none⟩) (cell_lt HC1.out)).trans HC1.out; clear hg3 hat3))
          have HS := Lib.hid (show sumI (zs.take (k + 1)) = sumI (zs.take k) + x by rw [HT.out, sumI_app]; simp [sumI])
          go_roundw
          case rel =>
            refine ⟨k + 1, by omega, by go_num, by rw [HS.out], by rw [HT.out]; exact hu4, ?_, hne4, hb4⟩
            rw [HT.out, List.reverse_append, Nat.add_comm]
            exact hd4
          case measure => simp [intOf]; omega
      · have hk' : k = zs.length := by omega
        subst hk'
        rw [List.take_length] at hu hd ⊢
        obtain ⟨Au, cu, eu, hNu⟩ := own_nums hu (by unfold maxLen; omega)
        obtain ⟨Ad, cd, ed, hNd⟩ := own_nums (n := zs.length) (xs := zs.reverse) hd (by unfold maxLen; omega)
        subst eu ed
        have c1 := fixed_Add Au cu zs wr hNu
        have c2 := fixed_Add Ad cd zs.reverse wr hNd
        have hsm := hP2.2.2
        rw [addF_small zs 0 hsm (by omega) (by omega), Int.zero_add] at c1
        rw [addF_small zs.reverse 0 (fun y hy => hsm y (List.mem_reverse.1 hy)) (by rw [List.length_reverse]; omega) (by rw [List.length_reverse]; omega), Int.zero_add, sumI_rev, List.length_reverse] at c2
        generalize sumI zs = S at *
        by_cases h0 : zs.length = 0
        · have hz : ((zs.length : Int)) = 0 := by omega
          have c3 := fun w => fixed_Mul 0 (n * 100000) (by unfold i64; omega) (by unfold i64; omega) w
          rw [scaled_times 0 n (by omega) hn, Int.zero_mul] at c3
          clear hP hP2 hu hd hNu hNd hsm h0
          go_wp2_with (first
            | (go_at_call 20; (with_reducible refine c1.mono ?_); rintro e w4 ⟨rfl, rfl⟩)
            | (go_at_call 20; (with_reducible refine c2.mono ?_); rintro e w4 ⟨rfl, rfl⟩)
            | (go_at_call 18; (with_reducible refine (c3 _).mono ?_); rintro e w5 ⟨rfl, hw5⟩))
          go_ret
          exact ⟨rfl, bthen (bthen hw1 hb) hw5⟩
        · obtain ⟨b, o, rfl, hc⟩ := hP2.2.1 (by omega)
          have hck := hc 0 (by omega)
          rw [Nat.add_zero] at hck
          have hx32 := hsm zs[0] (List.getElem_mem _)
          clear hc hP hP2 hu hd hNu hNd hsm
          generalize zs[0] = x at *
          have c3 := fun w => fixed_Mul x (n * 100000) (by unfold i64; omega) (by unfold i64; omega) w
          rw [scaled_times x n hx32 hn] at c3
          have hxn : wrap64 (x * n) = x * n := by
            have h1 : (x * n).natAbs ≤ 2147483648 * 32768 := by rw [Int.natAbs_mul]; exact Nat.mul_le_mul (by omega) (by omega)
            generalize x * n = xn at *
            unfold wrap64
            omega
          go_wp2_with (first
            | (go_at_call 20; (with_reducible refine c1.mono ?_); rintro e w4 ⟨rfl, rfl⟩)
            | (go_at_call 20; (with_reducible refine c2.mono ?_); rintro e w4 ⟨rfl, rfl⟩)
            | (go_at_call 18; (with_reducible refine (c3 _).mono ?_); rintro e w5 ⟨rfl, hw5⟩))
          go_ret
          exact ⟨rfl, bthen (bthen hw1 hb) hw5⟩
  · have hm := h.1
    unfold maxLen at hm
    clear h
    go_enter Tryd.func8, Tryd.ntmps8
    go_wp2_with (go_at_call 11; (with_reducible refine haw.mono ?_); rintro e w1 ⟨rfl, hw1⟩)
    go_ret
    exact ⟨rfl, hw1⟩
open Go.ChangeShapes in
theorem open_nums32 {H : Type} {enc : TypeId × Value → H} {P : Program} {w : World} {base : Nat} {sp : Nat → Bool} {held : Bool} {t e fuel : Nat} {cs : List Value} {x : DataW H × List MemPlace} (ht : P.underlying t = some (.slice e)) (he : P.underlying e = some (.int .i32)) (hc : P.cellsOf e = 1) (h : DataW.trod enc P w base sp held fuel t cs = some x) :
    ∃ A c zs, cs = [.slice A (zs : List Int).length c] ∧ Nums32 w A zs := by
  rcases open_ints ht he hc h with ⟨rfl, _⟩ | ⟨a, len, cap, zs, rfl, _, hlc, hcm, hz, _, hcell, hwf⟩
  · exact ⟨none, 0, [], rfl, Nat.zero_le _, (fun h => by simp at h), fun y hy => by simp at hy⟩
  · have hlz : len ≤ zs.length := by rw [hz]; split <;> omega
    have hl : (zs.take len).length = len := by simp; omega
    refine ⟨some a, cap, zs.take len, by rw [hl], by rw [hl]; omega, fun h0 => ?_, fun y hy => ?_⟩
    · rw [hl] at h0
      obtain ⟨b, o, spot⟩ := a
      have h1 := hcell 0 (by omega)
      have hspot : spot = none := by simpa [Addr.add] using World.cell?_spot h1
      subst hspot
      refine ⟨b, o, rfl, fun i hi => ?_⟩
      have hil : i < len := by rw [hl] at hi; exact hi
      have := hcell i (by omega)
      rw [add_none] at this
      rw [this, List.getElem_take, List.getD_eq_getElem?_getD, List.getElem?_eq_getElem (by omega), Option.getD_some]
    · have := hwf y (List.mem_of_mem_take hy)
      simpa [Lit.wf, IntKind.min, IntKind.max, IntKind.signed, IntKind.bits] using this
end Go.Proofs.YtbmcmilbmkdabaaDoor

/- Walks and laws, joined: part H. No condition. -/
import Derived.Test.YthffpbkndnhlfaaGreatDoorTbJG
import Derived.Test.YthffpbkndnhlfaaGreatDoorTbJB
import Derived.Test.YthffpbkndnhlfaaGreatDoorTbJE
import Derived.Test.YthffpbkndnhlfaaGreatDoorTbJA
import Derived.Test.YthffpbkndnhlfaaGreatDoorTbJF
import Derived.Maps.OwnSet
set_option linter.unusedSimpArgs false
set_option linter.unusedVariables false
set_option maxRecDepth 100000
set_option maxHeartbeats 32000000
namespace Go.Proofs.YthffpbkndnhlfaaGreatDoor
open Go Go.RowKit Go.Wk
theorem own_base {B B' : Nat} {e : TypeId} {sz : Nat} {w : World} {v : Value} {n : Nat} {xs : List Value} (h : w.ownsRow B e sz v n xs) (hB : B' ≤ B) : w.ownsRow B' e sz v n xs := by
 refine ⟨h.1, ?_⟩
 rcases h.2 with h2 | ⟨g, cap, cur, e', hb, r⟩
 ·exact .inl h2
 ·exact .inr ⟨g, cap, cur, e', by omega, r⟩
theorem own_six {B : Nat} {w : World} {v : Value} {n : Nat} {vl : Nat → List Value} (h : w.ownsRow B 91 6 v n ((List.range n).map vl).flatten) (h5 : ∀ i, i < n → (vl i).length = 6) :
 ∃ A g c, v = .slice A n c ∧ (0 < n → A = some ⟨g, 0, none⟩) ∧ ∀ i, i < n → ∀ j, j < 6 → w.cell? ⟨g, 0 + (6 * i + j), none⟩ = (vl i)[j]? := by
 rcases h.2 with ⟨rfl, hn⟩ | ⟨g, cap, cur, rfl, hB, hh, hnc, hcm, hcs, htk⟩
 ·exact ⟨none, 0, 0, by rw [hn], by omega, fun i hi => by omega⟩
 ·refine ⟨_, g, cap, rfl, fun _ => rfl, fun i hi j hj => ?_⟩
  have e1 := flat_at (rss := (List.range n).map vl) (sz := 6) (fun k hk => by rw [List.length_map, List.length_range] at hk; rw [map_at hk]; exact h5 k hk) i j (by simpa using hi) hj
  rw [map_at hi] at e1
  rw [← e1, ← htk, List.getElem?_take, if_pos (by omega), Nat.zero_add]
  simp [World.cell?, hh]
theorem grown_refl (w : World) (r : Option Nat) : w.grownBy w r := ⟨rfl, rfl, rfl, Nat.le_refl _, fun _ _ _ => rfl⟩
theorem app_row {w : World} {ops : Array Oper} {rest : List Oper} {o : Oper} {a : Act} {Q : Exit → Act → World → Prop} (hgd : o.guard = none) (s x : Operand)
 (ho : o.op = .call { callee := .builtin .append, args := #[s, x], argTypes := #[30, 30] }) (B : Nat) (v : Value) (n : Nat) (xs : List Value) (hs : a.eval s = v) (hR : w.ownsRow B 91 6 v n xs)
 (B2 : Nat) (v2 : Value) (m : Nat) (news : List Value) (hx : a.eval x = v2) (hR2 : w.ownsRow B2 91 6 v2 m news) (h1 : ∀ u ∈ news, u.oneCell' = true) (hl : n + m ≤ 1000000000) (hB : B ≤ w.heap.size)
 (h : ∀ v' w', w'.ownsRow B 91 6 v' (n + m) (xs ++ news) → w.grownBy w' v.ownBlock → wpList Tryz.prog ops Q rest (a.put o.dst v') w') : wpList Tryz.prog ops Q (o :: rest) a w := by
 obtain ⟨i0, hi0, hz0, hz1, hz2⟩ := en_info
 rcases hR2.2 with ⟨rfl, hn⟩ | ⟨g, cap, cur, rfl, hB2, hh, hnc, hcm, hcs, htk⟩
 ·have hnil : news = [] := by
   have := hR2.1
   rw [hn] at this
   exact List.length_eq_zero_iff.1 (by omega)
  subst hnil
  subst hn
  refine wpList_append_own_none hgd s x 30 ho B 91 i0 6 Tryz.underlying30 hi0 v n xs hs hR hx ?_
  exact h v w (by simpa using hR) (grown_refl _ _)
 ·refine wpList_append_own_at w hgd s x 30 ho B 91 i0 _ 6 104 Tryz.underlying30 hi0 hz0 hz1 hz2 rfl (by decide) v n xs hs hR ⟨g, 0, none⟩ m cap news hx hR2.1 ?_ h1 (by unfold maxLen; omega) (by omega) hB ?_
  ·exact hR2.cells rfl
  ·intro v' w' h1 h2 _ h3
   exact h v' w' h1 h2
theorem one_row (w : World) (us : List Value) (h : us.length = 6) : (w.alloc (.cells us.toArray 91)).ownsRow w.heap.size 91 6 (.slice (some ⟨w.heap.size, 0, none⟩) 1 1) 1 us :=
 ⟨by rw [h], .inr ⟨w.heap.size, 1, us.toArray, rfl, Nat.le_refl _, heap_alloc_new w _, Nat.le_refl _, by decide, by simp [h], by rw [List.take_of_length_le (by simp [h])]⟩⟩
theorem srt_put (w : World) (AL : Option Addr) (g oL n cL : Nat) (vl : Nat → List Value) (key : Nat → ByteArray) (K : ByteArray) (X0 X1 X2 X3 X4 : Value) (k : Nat) (hk : k ≤ n) (hn : n ≤ 100000000) (hnc : n ≤ cL) (hA : 0 < n → AL = some ⟨g, oL, none⟩)
 (h5 : ∀ i, i < n → ∃ c1 c2 c3 c4 c5, vl i = [.string (key i), c1, c2, c3, c4, c5]) (hc : ∀ i, i < n → ∀ j, j < 6 → w.cell? ⟨g, oL + (6 * i + j), none⟩ = (vl i)[j]?) (h1 : ∀ i, i < n → ∀ u ∈ vl i, u.oneCell' = true)
 (hX : ∀ u ∈ [Value.string K, X0, X1, X2, X3, X4], u.oneCell' = true)
 (hlt : ∀ i, i < k → ltB (key i).data.toList K.data.toList = true) (hge : k < n → ltB (key k).data.toList K.data.toList = false) (hne : ∀ i, i < n → ((key i).data.toList == K.data.toList) = false) :
 Calls Tryz.prog 189 #[.slice AL n cL, .agg #[.string K, X0, X1, X2, X3, X4], .func (.func 191) #[] #[], .bool true] w fun e w' => ∃ v, e = .returned v ∧
  w'.ownsRow w.heap.size 91 6 v (n + 1) (((List.range k).map vl).flatten ++ [.string K, X0, X1, X2, X3, X4] ++ ((List.range (n - k)).map fun i => vl (k + i)).flatten) ∧ Below w.heap.size w w' := by
 obtain ⟨W1, hW1⟩ : ∃ W, W = w.alloc (.cells #[.string K, X0, X1, X2, X3, X4] 91) := ⟨_, rfl⟩
 obtain ⟨W2, hW2⟩ : ∃ W, W = W1.alloc (.cells #[.func (.func 191) #[] #[]] 225) := ⟨_, rfl⟩
 have z1 : W1.heap.size = w.heap.size + 1 := by rw [hW1, World.size_alloc]
 have z2 : W2.heap.size = w.heap.size + 2 := by rw [hW2, World.size_alloc, z1]
 have hb1 : Below w.heap.size w W1 := by rw [hW1]; exact (Below.refl _ _).alloc (Nat.le_refl _) _
 have hb12 : Below W1.heap.size W1 W2 := by rw [hW2]; exact (Below.refl _ _).alloc (Nat.le_refl _) _
 have hb2 : Below w.heap.size w W2 := bthen hb1 hb12
 have fX := six_kept (six_cells hW1) hb12
 have fC : W2.cell? ⟨w.heap.size + 1, 0, none⟩ = some (.func (.func 191) #[] #[]) := by rw [hW2, ← z1]; simp
 -- the closures
 have h6 : ∀ i, i < n → (vl i).length = 6 := fun i hi => by obtain ⟨c1, c2, c3, c4, c5, e⟩ := h5 i hi; rw [e]; rfl
 have cge : ∀ W, Below W2.heap.size W2 W → ∀ i W', i < n → Below W.heap.size W W' → Calls Tryz.prog 208 #[.agg (vl i).toArray, .pointer (some ⟨w.heap.size + 1, 0, none⟩), .pointer (some ⟨w.heap.size, 0, none⟩)] W' fun e w' => e = .returned (.bool (!ltB (key i).data.toList K.data.toList)) ∧ Below W'.heap.size W' w' := fun W hW i W' hi hB => by
  obtain ⟨c1, c2, c3, c4, c5, e⟩ := h5 i hi
  have hD := bthen hW hB
  rw [e, ← cmp_ge]
  exact clo_ge (key i) K c1 c2 c3 c4 c5 X0 X1 X2 X3 X4 W' _ _ ((hD.cell (cell_lt fC)).trans fC) (six_kept fX hD)
 have ceq : ∀ W, Below W2.heap.size W2 W → ∀ i W', i < n → Below W.heap.size W W' → Calls Tryz.prog 209 #[.agg (vl i).toArray, .pointer (some ⟨w.heap.size + 1, 0, none⟩), .pointer (some ⟨w.heap.size, 0, none⟩)] W' fun e w' => e = .returned (.bool ((key i).data.toList == K.data.toList)) ∧ Below W'.heap.size W' w' := fun W hW i W' hi hB => by
  obtain ⟨c1, c2, c3, c4, c5, e⟩ := h5 i hi
  have hD := bthen hW hB
  rw [e, ← cmp_eq0]
  exact clo_eq (key i) K c1 c2 c3 c4 c5 X0 X1 X2 X3 X4 W' _ _ ((hD.cell (cell_lt fC)).trans fC) (six_kept fX hD)
 have hcW : ∀ W, Below w.heap.size w W → ∀ i, i < n → ∀ j, j < 6 → W.cell? ⟨g, oL + (6 * i + j), none⟩ = (vl i)[j]? := fun W hW i hi j hj => by
  have h9 := hc i hi j hj
  obtain ⟨u, hu⟩ : ∃ u, (vl i)[j]? = some u := ⟨_, List.getElem?_eq_getElem (by rw [h6 i hi]; exact hj)⟩
  rw [hu] at h9 ⊢
  exact (hW.cell (cell_lt h9)).trans h9
 -- the calls
 have c104 := idx_105 W2 AL g oL n cL (w.heap.size + 1) w.heap.size (fun i => !ltB (key i).data.toList K.data.toList) vl (by omega) hA h6 (hcW W2 hb2) (fun i W hi hB => cge W2 (Below.refl _ _) i W hi hB)
 have cl1 : ∀ W, Below W2.heap.size W2 W → Calls Tryz.prog 211 #[.slice AL k cL] W fun e w' => ∃ v, e = .returned v ∧ w'.ownsRow W.heap.size 91 6 v k ((List.range k).map vl).flatten ∧ Below W.heap.size W w' := fun W hW =>
  sl_Clone W AL g oL k cL vl (by omega) (fun h => hA (by omega)) (fun i hi => h6 i (by omega)) (fun i hi => hcW W (bthen hb2 hW) i (by omega)) (fun i hi => h1 i (by omega))
 have cl2 : ∀ W AL2 c2, Below W2.heap.size W2 W → (0 < n - k → AL2 = some ⟨g, oL + 6 * k, none⟩) → Calls Tryz.prog 211 #[.slice AL2 (n - k) c2] W fun e w' => ∃ v, e = .returned v ∧ w'.ownsRow W.heap.size 91 6 v (n - k) ((List.range (n - k)).map fun i => vl (k + i)).flatten ∧ Below W.heap.size W w' := fun W AL2 c2 hW a1 => by
  refine sl_Clone W AL2 g (oL + 6 * k) (n - k) c2 (fun i => vl (k + i)) (by omega) a1 (fun i hi => h6 (k + i) (by omega)) (fun i hi j hj => ?_) (fun i hi => h1 (k + i) (by omega))
  rw [← hcW W (bthen hb2 hW) (k + i) (by omega) j hj]
  congr 2
  omega
 have cd1 : ∀ W v, Below W2.heap.size W2 W → W.ownsRow W2.heap.size 91 6 v k ((List.range k).map vl).flatten → Calls Tryz.prog 210 #[v, .func (.func 209) #[] #[.pointer (some ⟨w.heap.size + 1, 0, none⟩), .pointer (some ⟨w.heap.size, 0, none⟩)]] W fun e w' => e = .returned v ∧ Below W.heap.size W w' := fun W v hW hO => by
  obtain ⟨A, g', c, rfl, q1, q2⟩ := own_six hO (fun i hi => h6 i (by omega))
  exact del_none W A g' 0 k c _ _ (fun i => (key i).data.toList == K.data.toList) vl (by omega) q1 (fun i hi => h6 i (by omega)) q2 (fun i W' hi hB => ceq W hW i W' (by omega) hB) (fun i hi => hne i (by omega))
 have cd2 : ∀ W v, Below W2.heap.size W2 W → W.ownsRow W2.heap.size 91 6 v (n - k) ((List.range (n - k)).map fun i => vl (k + i)).flatten → Calls Tryz.prog 210 #[v, .func (.func 209) #[] #[.pointer (some ⟨w.heap.size + 1, 0, none⟩), .pointer (some ⟨w.heap.size, 0, none⟩)]] W fun e w' => e = .returned v ∧ Below W.heap.size W w' := fun W v hW hO => by
  obtain ⟨A, g', c, rfl, q1, q2⟩ := own_six hO (fun i hi => h6 (k + i) (by omega))
  exact del_none W A g' 0 (n - k) c _ _ (fun i => (key (k + i)).data.toList == K.data.toList) (fun i => vl (k + i)) (by omega) q1 (fun i hi => h6 (k + i) (by omega)) q2 (fun i W' hi hB => ceq W hW (k + i) W' (by omega) hB) (fun i hi => hne (k + i) (by omega))
 obtain ⟨m, hm⟩ : ∃ m, m = n - k := ⟨_, rfl⟩
 rw [← hm] at cl2 cd2 ⊢
 obtain ⟨F1, hF1⟩ : ∃ F, F = ((List.range k).map vl).flatten := ⟨_, rfl⟩
 obtain ⟨F2, hF2⟩ : ∃ F, F = ((List.range m).map fun i => vl (k + i)).flatten := ⟨_, rfl⟩
 have o2 : ∀ u ∈ F2, u.oneCell' = true := fun u hu => by
  rw [hF2] at hu
  obtain ⟨l, hl, hul⟩ := List.mem_flatten.1 hu
  obtain ⟨i, hi, rfl⟩ := List.mem_map.1 hl
  exact h1 (k + i) (by have := List.mem_range.1 hi; omega) u hul
 rw [← hF1] at cl1 cd1 ⊢
 rw [← hF2] at cl2 cd2 ⊢
 have hfi : firstI (fun i => !ltB (key i).data.toList K.data.toList) n = if k < n then (k : Int) else -1 := by
  by_cases h : k < n
  ·rw [if_pos h]; exact firstI_at h (fun i hi => by simp [hlt i hi]) (by simp [hge h])
  ·rw [if_neg h]; exact firstI_no fun i hi => by simp [hlt i (by omega)]
 rw [hfi] at c104
 clear cge ceq hcW hc h5 h1 hlt hge hne hfi h6
 obtain ⟨f0, f1, f2, f3, f4, f5⟩ := id fX
 refine h9_ hA fX fC hb2 hb1 hb12 cl1 cl2 cd1 ?_; clear hA fX fC hb2 hb1 hb12 cl1 cl2 cd1; intro hA fX fC hb2 hb1 hb12 cl1 cl2 cd1
 refine h5_ cd2 hF1 hF2 o2 hX ?_; clear cd2 hF1 hF2 o2 hX; intro cd2 hF1 hF2 o2 hX
 obtain ⟨i0, hi0, hz0, hz1, hz2⟩ := en_info
 refine h4_ hi0 hz0 hz1 hz2 ?_; clear hi0 hz0 hz1 hz2; intro hi0 hz0 hz1 hz2
 go_enter Tryz.func189, Tryz.ntmps189
 go_upto_region 1 with (fail)
 rw [← hW1, ← hW2]
 replace hW1 := hi_ hW1
 replace hW2 := hi_ hW2
 by_cases hkn : k < n
 ·rw [if_pos hkn] at c104
  subst hm
  go_wp2_with (first
   | (go_at_call 168; (with_reducible refine c104.mono ?_); rintro e w3 ⟨rfl, hB3⟩; have c108 := cl1.out w3 hB3; replace hB3 := hi_ hB3)
   | (go_at_call 211; (with_reducible refine c108.mono ?_); rintro e w4 ⟨v4, rfl, hO4, hB4⟩; replace hO4 := own_base hO4 hB3.out.size; have hD4 := bthen hB3.out hB4; have c107 := cd1.out w4 v4 hD4 hO4; replace hO4 := hi_ hO4; replace hD4 := hi_ hD4; clear hB4 c108)
   | (go_at_call 210; (with_reducible refine c107.mono ?_); rintro e w5 ⟨rfl, hB5⟩; have hD5 := bthen hD4.out hB5; have hO5 := own_far hO4.out (fun b _ hb => hB5.block b hb); obtain ⟨y0, y1, y2, y3, y4, y5⟩ := six_kept fX.out hD5; have hbA := (Below.refl w5.heap.size w5).alloc (Nat.le_refl _) (.cells #[.string K, X0, X1, X2, X3, X4] 91); have hzA : (w5.alloc (.cells #[.string K, X0, X1, X2, X3, X4] 91)).heap.size = w5.heap.size + 1 := (World.size_alloc _ _); have hOA := own_far hO5 (fun b _ hb => hbA.block b hb); have hOX := one_row w5 [.string K, X0, X1, X2, X3, X4] rfl; replace hD5 := hi_ hD5; replace hbA := hi_ hbA; replace hzA := hi_ hzA; replace hOA := hi_ hOA; replace hOX := hi_ hOX; clear hB5 c107 hO5)
   | (at_builtin; refine app_row rfl _ _ rfl W2.heap.size v4 k F1 rfl hOA.out w5.heap.size _ 1 [.string K, X0, X1, X2, X3, X4] rfl hOX.out hX.out (by omega) (by rw [hzA.out]; have := hD5.out.size; omega) ?_; intro v6 w6 hO6 hg6; have hD6 : Below W2.heap.size W2 w6 := (bthen hD5.out hbA.out).grown hg6 (by rw [hzA.out]; have := hD5.out.size; omega) (fun q hq => (World.ownsRow.lt hOA.out _ hq).1); have c108b := cl2.out w6 (Option.map (fun x => x.add (k * 6)) AL) (cL - k) hD6 (fun h => by rw [hA.out (by omega)]; simp [Addr.add, Nat.mul_comm]); replace hO6 := hi_ hO6; clear hg6 hOA; replace hD6 := hi_ hD6)
   | (go_at_call 211; (with_reducible refine c108b.mono ?_); rintro e w7 ⟨v7, rfl, hO7, hB7⟩; replace hO7 := own_base hO7 hD6.out.size; have hD7 := bthen hD6.out hB7; have c107b := cd2.out w7 v7 hD7 hO7; have hP7 := own_far hO6.out (fun b _ hb => hB7.block b hb); replace hO7 := hi_ hO7; replace hD7 := hi_ hD7; replace hP7 := hi_ hP7; clear hB7 c108b)
   | (go_at_call 210; (with_reducible refine c107b.mono ?_); rintro e w8 ⟨rfl, hB8⟩; have hD8 := bthen hD7.out hB8; have hO8 := own_far hO7.out (fun b _ hb => hB8.block b hb); have hP8 := own_far hP7.out (fun b _ hb => hB8.block b hb); replace hO8 := hi_ hO8; replace hP8 := hi_ hP8; replace hD8 := hi_ hD8; clear hB8 c107b)
   | (at_builtin; refine app_row rfl _ _ rfl W2.heap.size v6 (k + 1) (F1 ++ [.string K, X0, X1, X2, X3, X4]) rfl hP8.out W2.heap.size _ (n - k) F2 rfl hO8.out o2.out (by omega) hD8.out.size ?_; intro v9 w9 hO9 hg9; have hD9 : Below W2.heap.size W2 w9 := hD8.out.grown hg9 hD8.out.size (fun q hq => (World.ownsRow.lt hP8.out _ hq).1); replace hO9 := hi_ hO9; replace hD9 := hi_ hD9; clear hg9))
  go_ret
  exact ⟨v9, rfl, by have h9 := own_base hO9.out (B' := w.heap.size) (by omega); rw [show k + 1 + (n - k) = n + 1 by omega] at h9; exact h9, hb2.out.trans (hD9.out.mono (by omega))⟩
 ·obtain rfl : k = n := by omega
  rw [if_neg (by omega)] at c104
  obtain rfl : m = 0 := by omega
  clear hm
  by_cases hck : cL = k
  ·replace hck := hck.symm
   subst hck
   go_wp2_with (first
    | (go_at_call 168; (with_reducible refine c104.mono ?_); rintro e w3 ⟨rfl, hB3⟩; have c108 := cl1.out w3 hB3; replace hB3 := hi_ hB3)
    | (go_at_call 211; (with_reducible refine c108.mono ?_); rintro e w4 ⟨v4, rfl, hO4, hB4⟩; replace hO4 := own_base hO4 hB3.out.size; have hD4 := bthen hB3.out hB4; have c107 := cd1.out w4 v4 hD4 hO4; replace hO4 := hi_ hO4; replace hD4 := hi_ hD4; clear hB4 c108)
    | (go_at_call 210; (with_reducible refine c107.mono ?_); rintro e w5 ⟨rfl, hB5⟩; have hD5 := bthen hD4.out hB5; have hO5 := own_far hO4.out (fun b _ hb => hB5.block b hb); obtain ⟨y0, y1, y2, y3, y4, y5⟩ := six_kept fX.out hD5; have hbA := (Below.refl w5.heap.size w5).alloc (Nat.le_refl _) (.cells #[.string K, X0, X1, X2, X3, X4] 91); have hzA : (w5.alloc (.cells #[.string K, X0, X1, X2, X3, X4] 91)).heap.size = w5.heap.size + 1 := (World.size_alloc _ _); have hOA := own_far hO5 (fun b _ hb => hbA.block b hb); have hOX := one_row w5 [.string K, X0, X1, X2, X3, X4] rfl; replace hD5 := hi_ hD5; replace hbA := hi_ hbA; replace hzA := hi_ hzA; replace hOA := hi_ hOA; replace hOX := hi_ hOX; clear hB5 c107 hO5)
    | (at_builtin; refine app_row rfl _ _ rfl W2.heap.size v4 k F1 rfl hOA.out w5.heap.size _ 1 [.string K, X0, X1, X2, X3, X4] rfl hOX.out hX.out (by omega) (by rw [hzA.out]; have := hD5.out.size; omega) ?_; intro v6 w6 hO6 hg6; have hD6 : Below W2.heap.size W2 w6 := (bthen hD5.out hbA.out).grown hg6 (by rw [hzA.out]; have := hD5.out.size; omega) (fun q hq => (World.ownsRow.lt hOA.out _ hq).1); have c108b := cl2.out w6 AL 0 hD6 (fun h => by omega); replace hO6 := hi_ hO6; clear hg6 hOA; replace hD6 := hi_ hD6)
    | (go_at_call 211; (with_reducible refine c108b.mono ?_); rintro e w7 ⟨v7, rfl, hO7, hB7⟩; replace hO7 := own_base hO7 hD6.out.size; have hD7 := bthen hD6.out hB7; have c107b := cd2.out w7 v7 hD7 hO7; have hP7 := own_far hO6.out (fun b _ hb => hB7.block b hb); replace hO7 := hi_ hO7; replace hD7 := hi_ hD7; replace hP7 := hi_ hP7; clear hB7 c108b)
    | (go_at_call 210; (with_reducible refine c107b.mono ?_); rintro e w8 ⟨rfl, hB8⟩; have hD8 := bthen hD7.out hB8; have hO8 := own_far hO7.out (fun b _ hb => hB8.block b hb); have hP8 := own_far hP7.out (fun b _ hb => hB8.block b hb); replace hO8 := hi_ hO8; replace hP8 := hi_ hP8; replace hD8 := hi_ hD8; clear hB8 c107b)
    | (at_builtin; refine app_row rfl _ _ rfl W2.heap.size v6 (k + 1) (F1 ++ [.string K, X0, X1, X2, X3, X4]) rfl hP8.out W2.heap.size _ 0 F2 rfl hO8.out o2.out (by omega) hD8.out.size ?_; intro v9 w9 hO9 hg9; have hD9 : Below W2.heap.size W2 w9 := hD8.out.grown hg9 hD8.out.size (fun q hq => (World.ownsRow.lt hP8.out _ hq).1); replace hO9 := hi_ hO9; replace hD9 := hi_ hD9; clear hg9))
   go_ret
   exact ⟨v9, rfl, by have h9 := own_base hO9.out (B' := w.heap.size) (by omega); exact h9, hb2.out.trans (hD9.out.mono (by omega))⟩
  ·have hck2 : cL - k ≠ 0 := by omega
   go_wp2_with (first
    | (go_at_call 168; (with_reducible refine c104.mono ?_); rintro e w3 ⟨rfl, hB3⟩; have c108 := cl1.out w3 hB3; replace hB3 := hi_ hB3)
    | (go_at_call 211; (with_reducible refine c108.mono ?_); rintro e w4 ⟨v4, rfl, hO4, hB4⟩; replace hO4 := own_base hO4 hB3.out.size; have hD4 := bthen hB3.out hB4; have c107 := cd1.out w4 v4 hD4 hO4; replace hO4 := hi_ hO4; replace hD4 := hi_ hD4; clear hB4 c108)
    | (go_at_call 210; (with_reducible refine c107.mono ?_); rintro e w5 ⟨rfl, hB5⟩; have hD5 := bthen hD4.out hB5; have hO5 := own_far hO4.out (fun b _ hb => hB5.block b hb); obtain ⟨y0, y1, y2, y3, y4, y5⟩ := six_kept fX.out hD5; have hbA := (Below.refl w5.heap.size w5).alloc (Nat.le_refl _) (.cells #[.string K, X0, X1, X2, X3, X4] 91); have hzA : (w5.alloc (.cells #[.string K, X0, X1, X2, X3, X4] 91)).heap.size = w5.heap.size + 1 := (World.size_alloc _ _); have hOA := own_far hO5 (fun b _ hb => hbA.block b hb); have hOX := one_row w5 [.string K, X0, X1, X2, X3, X4] rfl; replace hD5 := hi_ hD5; replace hbA := hi_ hbA; replace hzA := hi_ hzA; replace hOA := hi_ hOA; replace hOX := hi_ hOX; clear hB5 c107 hO5)
    | (at_builtin; refine app_row rfl _ _ rfl W2.heap.size v4 k F1 rfl hOA.out w5.heap.size _ 1 [.string K, X0, X1, X2, X3, X4] rfl hOX.out hX.out (by omega) (by rw [hzA.out]; have := hD5.out.size; omega) ?_; intro v6 w6 hO6 hg6; have hD6 : Below W2.heap.size W2 w6 := (bthen hD5.out hbA.out).grown hg6 (by rw [hzA.out]; have := hD5.out.size; omega) (fun q hq => (World.ownsRow.lt hOA.out _ hq).1); have c108b := cl2.out w6 (Option.map (fun x => x.add (k * 6)) AL) (cL - k) hD6 (fun h => by omega); replace hO6 := hi_ hO6; clear hg6 hOA; replace hD6 := hi_ hD6)
    | (go_at_call 211; (with_reducible refine c108b.mono ?_); rintro e w7 ⟨v7, rfl, hO7, hB7⟩; replace hO7 := own_base hO7 hD6.out.size; have hD7 := bthen hD6.out hB7; have c107b := cd2.out w7 v7 hD7 hO7; have hP7 := own_far hO6.out (fun b _ hb => hB7.block b hb); replace hO7 := hi_ hO7; replace hD7 := hi_ hD7; replace hP7 := hi_ hP7; clear hB7 c108b)
    | (go_at_call 210; (with_reducible refine c107b.mono ?_); rintro e w8 ⟨rfl, hB8⟩; have hD8 := bthen hD7.out hB8; have hO8 := own_far hO7.out (fun b _ hb => hB8.block b hb); have hP8 := own_far hP7.out (fun b _ hb => hB8.block b hb); replace hO8 := hi_ hO8; replace hP8 := hi_ hP8; replace hD8 := hi_ hD8; clear hB8 c107b)
    | (at_builtin; refine app_row rfl _ _ rfl W2.heap.size v6 (k + 1) (F1 ++ [.string K, X0, X1, X2, X3, X4]) rfl hP8.out W2.heap.size _ 0 F2 rfl hO8.out o2.out (by omega) hD8.out.size ?_; intro v9 w9 hO9 hg9; have hD9 : Below W2.heap.size W2 w9 := hD8.out.grown hg9 hD8.out.size (fun q hq => (World.ownsRow.lt hP8.out _ hq).1); replace hO9 := hi_ hO9; replace hD9 := hi_ hD9; clear hg9))
   go_ret
   exact ⟨v9, rfl, by have h9 := own_base hO9.out (B' := w.heap.size) (by omega); exact h9, hb2.out.trans (hD9.out.mono (by omega))⟩
theorem put_six {w : World} {R lo hi : Nat} {o : Ob} {K : ByteArray} {z0 z1 z2 z3 z4 z5 u0 u1 u2 u3 u4 : Value} (hR : Blk w R 91 #[z0, z1, z2, z3, z4, z5]) (hI : ObI lo hi w o [u0, u1, u2, u3, u4]) (hlt : R < lo) {Wf : World}
 (hWf : Wf = (((((w.setCell ⟨R, 0, none⟩ (.string K)).setCell ⟨R, 1, none⟩ u0).setCell ⟨R, 2, none⟩ u1).setCell ⟨R, 3, none⟩ u2).setCell ⟨R, 4, none⟩ u3).setCell ⟨R, 5, none⟩ u4) :
 Blk Wf R 91 #[.string K, u0, u1, u2, u3, u4] ∧ ObI lo Wf.heap.size Wf o [u0, u1, u2, u3, u4] ∧ w.grownBy Wf (some R) ∧ Wf.heap.size = w.heap.size := by
 have hg : w.grownBy Wf (some R) := by
  rw [hWf]
  exact (((((set_grown _ _ _ _).trans (set_grown _ _ _ _)).trans (set_grown _ _ _ _)).trans (set_grown _ _ _ _)).trans (set_grown _ _ _ _)).trans (set_grown _ _ _ _)
 have hz : Wf.heap.size = w.heap.size := by rw [hWf]; simp [World.setCell]
 refine ⟨?_, ?_, hg, hz⟩
 ·rw [hWf]; exact (((((hR.set_ 0 (.string K)).set_ 1 u0).set_ 2 u1).set_ 3 u2).set_ 4 u3).set_ 5 u4
 ·have h2 := hI.keep (w' := Wf) (fun b h1 h2 => hg.block b (by have := hI.1; omega) (fun e => by injection e with e; omega)) (by have := hI.1; omega)
  exact ⟨Nat.le_refl _, fun w2 h3 h4 => h2.2 w2 (fun b h5 h6 => h3 b h5 (by have := h2.1; omega)) (by have := h2.1; omega)⟩
theorem cos_Pair (o : Ob) (vs : List Value) (w : World) (h : ObAt w o vs) (hbk : o.bulk ≤ 100000000) (K : ByteArray) : Calls Tryz.prog 190 #[.string K, .agg vs.toArray] w fun e w' => ∃ us, e = .returned (.agg (List.toArray (.string K :: us))) ∧ ObI w.heap.size w'.heap.size w' o us ∧ Below w.heap.size w w' := by
 obtain ⟨en, E1, E2, E3, en1, ec1, en2, ec2, en3, ec3, hys⟩ := ob_five2 h
 obtain ⟨kk, hkk⟩ : ∃ k, k = o.kind := ⟨_, rfl⟩
 rw [← hkk] at hys
 subst hys
 obtain ⟨W1, hW1⟩ : ∃ W, W = w.alloc (.cells #[.int .i64 kk, .int .i64 en, .slice E1 en1 ec1, .slice E2 en2 ec2, .slice E3 en3 ec3] 32) := ⟨_, rfl⟩
 obtain ⟨W2, hW2⟩ : ∃ W, W = W1.alloc (.cells #[.string ⟨#[]⟩, .int .i64 0, .int .i64 0, .slice none 0 0, .slice none 0 0, .slice none 0 0] 91) := ⟨_, rfl⟩
 have hb1 : Below w.heap.size w W1 := by rw [hW1]; exact (Below.refl _ _).alloc (Nat.le_refl _) _
 have z1 : W1.heap.size = w.heap.size + 1 := by rw [hW1, World.size_alloc]
 have hb12 : Below W1.heap.size W1 W2 := by rw [hW2]; exact (Below.refl _ _).alloc (Nat.le_refl _) _
 have hb2 : Below w.heap.size w W2 := bthen hb1 hb12
 have z2 : W2.heap.size = w.heap.size + 2 := by rw [hW2, World.size_alloc, z1]
 obtain ⟨f0, f1, f2, f3, f4⟩ := five_kept (five_cells hW1) hb12
 have hR2 : Blk W2 (w.heap.size + 1) 91 #[.string ⟨#[]⟩, .int .i64 0, .int .i64 0, .slice none 0 0, .slice none 0 0, .slice none 0 0] := by rw [hW2, ← z1]; exact Blk.new W1 91 _
 have cc := copy_all 100000000 (Nat.le_refl _) o _ W2 (h.kept hb2) hbk
 refine h5_ hkk hb2 hb1 hb12 hR2 ?_; clear hkk hb2 hb1 hb12 hR2; intro hkk hb2 hb1 hb12 hR2
 clear h hbk
 go_enter Tryz.func190, Tryz.ntmps190
 go_upto_region 1 with (fail)
 rw [← hW1, ← hW2]
 replace hW1 := hi_ hW1
 replace hW2 := hi_ hW2
 go_wp2_with (go_at_call 188; (with_reducible refine cc.mono ?_); rintro e' w6 ⟨us, rfl, hI, hB6⟩; obtain ⟨en', E1', E2', E3', en1', ec1', en2', ec2', en3', ec3', hys'⟩ := ob_five2 hI.ob; rw [← hkk.out] at hys'; subst hys'; have hRb := hR2.out.below hB6 (by omega); obtain ⟨r0, r1, r2, r3, r4, r5, v0, v1, v2, v3, v4, v5⟩ := hRb.b6; replace hRb := hi_ hRb; replace hB6 := hi_ hB6; replace hI := hi_ hI; clear cc)
 generalize hWf : World.setCell _ _ _ = Wf
 replace hWf := hWf.symm
 obtain ⟨hbf, hI2, hg, hz⟩ := put_six hRb.out hI.out (by omega) hWf
 have hBf : Below w.heap.size w Wf := (bthen hb2.out hB6.out).grown hg (by have := hB6.out.size; omega) (fun q hq => by injection hq with hq; omega)
 obtain ⟨u0, u1, u2, u3, u4, u5, -⟩ := hbf.b6
 replace hI2 := hi_ (hI2.wide (show w.heap.size ≤ W2.heap.size by omega))
 replace hBf := hi_ hBf
 clear hbf hg
 replace hWf := hi_ hWf
 exact bodyPost_ret (by simp [results, Tryz.results190, go_sem, u0, u1, u2, u3, u4, u5]; try rfl) rfl ⟨[.int .i64 kk, .int .i64 en', .slice E1' en1' ec1', .slice E2' en2' ec2', .slice E3' en3' ec3'], rfl, hI2.out, hBf.out⟩
def placeE (K : List UInt8) (d : List (List UInt8 × Ob)) : Nat := (d.takeWhile fun e => ltB e.1 K).length
def insE (K : List UInt8) (X : Ob) (d : List (List UInt8 × Ob)) : List (List UInt8 × Ob) := d.take (placeE K d) ++ [(K, X)] ++ d.drop (placeE K d)
theorem place_le (K : List UInt8) (d : List (List UInt8 × Ob)) : placeE K d ≤ d.length := by
 unfold placeE
 induction d with
 | nil => simp
 | cons e r ih => simp only [List.takeWhile_cons]; split <;> simp <;> omega
theorem place_lt (K : List UInt8) : ∀ (d : List (List UInt8 × Ob)) (i : Nat) (h : i < d.length), i < placeE K d → ltB d[i].1 K = true
 | [], i, h, _ => by simp at h
 | e :: r, i, h, hi => by
  unfold placeE at hi
  simp only [List.takeWhile_cons] at hi
  split at hi
  ·rename_i hb
   cases i with
   | zero => exact hb
   | succ i => exact place_lt K r i (by simpa using h) (by unfold placeE; simpa using hi)
  ·simp at hi
theorem place_ge (K : List UInt8) : ∀ (d : List (List UInt8 × Ob)) (h : placeE K d < d.length), ltB d[placeE K d].1 K = false
 | [], h => by simp at h
 | e :: r, h => by
  by_cases hb : ltB e.1 K = true
  ·have hp : placeE K (e :: r) = placeE K r + 1 := by unfold placeE; simp [List.takeWhile_cons, hb]
   have h2 : placeE K r < r.length := by rw [hp] at h; simpa using h
   have := place_ge K r h2
   simp only [hp, List.getElem_cons_succ]
   exact this
  ·have hp : placeE K (e :: r) = 0 := by unfold placeE; simp [List.takeWhile_cons, hb]
   simp only [hp, List.getElem_cons_zero]
   simpa using hb
theorem insE_len (K : List UInt8) (X : Ob) (d : List (List UInt8 × Ob)) : (insE K X d).length = d.length + 1 := by
 have := place_le K d
 unfold insE; simp; omega
theorem insE_at (K : List UInt8) (X : Ob) (d : List (List UInt8 × Ob)) (i : Nat) (hi : i < (insE K X d).length) :
 (∃ h : i < d.length, i < placeE K d ∧ (insE K X d)[i] = d[i]) ∨ (i = placeE K d ∧ (insE K X d)[i] = (K, X)) ∨ (∃ h : i - 1 < d.length, placeE K d < i ∧ (insE K X d)[i] = d[i - 1]) := by
 have hp := place_le K d
 have hl := insE_len K X d
 rcases Nat.lt_trichotomy i (placeE K d) with h | h | h
 ·refine .inl ⟨by omega, h, ?_⟩
  have : (insE K X d)[i]? = d[i]? := by
   unfold insE
   rw [List.append_assoc, List.getElem?_append_left (by simp; omega), List.getElem?_take, if_pos h]
  rw [List.getElem?_eq_getElem hi, List.getElem?_eq_getElem (by omega)] at this
  injection this
 ·refine .inr (.inl ⟨h, ?_⟩)
  have : (insE K X d)[i]? = some (K, X) := by
   unfold insE
   rw [List.append_assoc, List.getElem?_append_right (by simp; omega)]
   simp [h, Nat.min_eq_left hp]
  rw [List.getElem?_eq_getElem hi] at this
  injection this
 ·refine .inr (.inr ⟨by omega, h, ?_⟩)
  have : (insE K X d)[i]? = d[i - 1]? := by
   unfold insE
   rw [List.append_assoc, List.getElem?_append_right (by simp; omega)]
   simp only [List.length_take, Nat.min_eq_left hp]
   rw [List.getElem?_append_right (by simp; omega)]
   simp only [List.length_cons, List.length_nil, List.getElem?_drop]
   congr 1
   omega
  rw [List.getElem?_eq_getElem hi, List.getElem?_eq_getElem (by omega)] at this
  injection this
def vlE (p : Nat) (vl : Nat → List Value) (x : List Value) (i : Nat) : List Value := if i < p then vl i else if i = p then x else vl (i - 1)
theorem vlE_flat (p n : Nat) (hp : p ≤ n) (vl : Nat → List Value) (x : List Value) : ((List.range p).map vl).flatten ++ x ++ ((List.range (n - p)).map fun i => vl (p + i)).flatten = ((List.range (n + 1)).map (vlE p vl x)).flatten := by
 have e : n + 1 = p + (1 + (n - p)) := by omega
 rw [e, List.range_add, List.range_add, List.map_append, List.flatten_append, List.map_map, List.map_append, List.flatten_append, List.append_assoc]
 congr 1
 ·congr 1
  refine List.map_congr_left fun i hi => ?_
  unfold vlE
  rw [if_pos (List.mem_range.1 hi)]
 ·congr 1
  ·simp [vlE]
  ·rw [List.map_map]
   congr 1
   refine List.map_congr_left fun i hi => ?_
   simp only [Function.comp, vlE]
   rw [if_neg (by omega), if_neg (by omega)]
   congr 1
   omega
def keyAt (d : List (List UInt8 × Ob)) (i : Nat) : List UInt8 := match d[i]? with
 | some e => e.1
 | none => []
theorem keyAt_eq {d : List (List UInt8 × Ob)} {i : Nat} (h : i < d.length) : keyAt d i = d[i].1 := by unfold keyAt; rw [List.getElem?_eq_getElem h]
theorem ob_put {w : World} {k n : Int} {b : List UInt8} {l : List Ob} {d : List (List UInt8 × Ob)} {vB vL vD v : Value} {B : Nat} {K : List UInt8} {X : Ob} {xs : List Value} {vd : Nat → List Value} (h : ObAt w (.mk k n b l d) [.int .i64 k, .int .i64 n, vB, vL, vD])
 (hvd : ∀ i (hi : i < d.length), ObAt w d[i].2 (vd i)) (hkl : ∀ i (hi : i < d.length), d[i].1.length ≤ maxLen) (hKl : K.length ≤ maxLen) (hX : ObAt w X xs)
 (hv : w.ownsRow B 91 6 v (d.length + 1) (((List.range (placeE K d)).map fun i => strV (keyAt d i) :: vd i).flatten ++ (strV K :: xs) ++ ((List.range (d.length - placeE K d)).map fun i => strV (keyAt d (placeE K d + i)) :: vd (placeE K d + i)).flatten)) :
 ObAt w (.mk k n b l (insE K X d)) [.int .i64 k, .int .i64 n, vB, vL, v] := by
 have hp := place_le K d
 rw [vlE_flat _ _ hp (fun i => strV (keyAt d i) :: vd i)] at hv
 have h6 : ∀ i, i < d.length + 1 → (vlE (placeE K d) (fun i => strV (keyAt d i) :: vd i) (strV K :: xs) i).length = 6 := fun i hi => by
  unfold vlE
  split
  ·simp [(hvd i (by omega)).five]
  ·split
   ·simp [hX.five]
   ·simp [(hvd (i - 1) (by omega)).five]
 have hcap : ∀ A c, v = .slice A (d.length + 1) c → d.length + 1 ≤ c ∧ d.length + 1 ≤ maxLen := fun A c e => by
  rcases hv.2 with ⟨e2, hn⟩ | ⟨g, cap, cur, e2, hB, hh, hnc, hcm, _⟩
  ·omega
  ·rw [e] at e2; injection e2 with _ _ e3; subst e3; omega
 obtain ⟨A, g, c, rfl, q1, q2⟩ := own_six hv h6
 obtain ⟨hc1, hc2⟩ := hcap A c rfl
 have hen : ∀ i (hi : i < (insE K X d).length), ∃ us, vlE (placeE K d) (fun i => strV (keyAt d i) :: vd i) (strV K :: xs) i = strV (insE K X d)[i].1 :: us ∧ (insE K X d)[i].1.length ≤ maxLen ∧ ObAt w (insE K X d)[i].2 us := fun i hi => by
  rcases insE_at K X d i hi with ⟨h1, h2, h3⟩ | ⟨h1, h2⟩ | ⟨h1, h2, h3⟩
  ·rw [h3]
   refine ⟨vd i, ?_, hkl i h1, hvd i h1⟩
   unfold vlE
   rw [if_pos h2]
   show strV (keyAt d i) :: vd i = _
   rw [keyAt_eq h1]
  ·rw [h2]
   refine ⟨xs, ?_, hKl, hX⟩
   unfold vlE
   rw [if_neg (by omega), if_pos h1]
  ·rw [h3]
   refine ⟨vd (i - 1), ?_, hkl _ h1, hvd _ h1⟩
   unfold vlE
   rw [if_neg (by omega), if_neg (by omega)]
   show strV (keyAt d (i - 1)) :: vd (i - 1) = _
   rw [keyAt_eq h1]
 cases h with
 | mk _ _ _ _ _ A0 AL AD c0 cL cD gL oL gD oD vl vd0 h1 h2 h3 h4 h5 h6 h7 h8 h9 h10 h11 hAL hl hlv hAD hdo hdk hdv =>
 have hlen := insE_len K X d
 rw [← hlen] at q1 q2 hc1 hc2 ⊢
 refine ObAt.mk k n b l (insE K X d) A0 AL A c0 cL c gL oL g 0 vl (fun i => (vlE (placeE K d) (fun i => strV (keyAt d i) :: vd i) (strV K :: xs) i).drop 1) h1 h2 h3 h4 h5 h6 h7 h8 h9 hc1 hc2 hAL hl hlv q1 (fun i hi => ?_) (fun i hi => ?_) (fun i hi j hj => ?_)
 ·obtain ⟨us, e1, e2, e3⟩ := hen i hi
  show ObAt w _ ((vlE _ _ _ i).drop 1)
  rw [e1]; exact e3
 ·obtain ⟨us, e1, e2, e3⟩ := hen i hi
  have := q2 i hi 0 (by omega)
  rw [e1] at this
  exact ⟨e2, by simpa using this⟩
 ·have := q2 i hi (1 + j) (by omega)
  show _ = ((vlE _ _ _ i).drop 1)[j]?
  rw [List.getElem?_drop, ← this]
  congr 2
  omega
theorem ObI.ents {lo hi : Nat} {w : World} {k n : Int} {b : List UInt8} {l : List Ob} {d : List (List UInt8 × Ob)} {vs : List Value} (h : ObI lo hi w (.mk k n b l d) vs) : ∃ (A AL AD : Option Addr) (c cL cD gD oD : Nat) (vd : Nat → List Value),
 vs = [.int .i64 k, .int .i64 n, .slice A b.length c, .slice AL l.length cL, .slice AD d.length cD] ∧ d.length ≤ cD ∧ (0 < d.length → AD = some ⟨gD, oD, none⟩) ∧ (∀ i (h : i < d.length), ObI lo hi w d[i].2 (vd i)) ∧
 (∀ i, (h : i < d.length) → d[i].1.length ≤ maxLen ∧ w.cell? ⟨gD, oD + 6 * i, none⟩ = some (strV d[i].1)) ∧ (∀ i, i < d.length → ∀ j, j < 5 → w.cell? ⟨gD, oD + (6 * i + 1 + j), none⟩ = (vd i)[j]?) := by
 have h0 := h.ob
 have hs := h.1
 obtain ⟨vs', hvs⟩ : ∃ x, x = vs := ⟨_, rfl⟩
 rw [← hvs] at h0 ⊢
 cases h0 with
 | mk _ _ _ _ _ A AL AD c cL cD gL oL gD oD vl vd h1 h2 h3 h4 h5 h6 h7 h8 h9 h10 h11 hAL hl hlv hAD hdo hdk hdv =>
 refine ⟨A, AL, AD, c, cL, cD, gD, oD, vd, rfl, h10, hAD, fun i hi' => ⟨hs, fun w' hb hz => ?_⟩, hdk, hdv⟩
 have hA := hAD (by omega)
 -- the row lies in between
 have hin : lo ≤ gD ∧ gD < hi := by
  by_cases hq : lo ≤ gD ∧ gD < hi
  ·exact hq
  ·exfalso
   obtain ⟨w2, hw2⟩ : ∃ w2 : World, w2 = { w with heap := w.heap.setIfInBounds gD (.cells #[] 0) } := ⟨_, rfl⟩
   have hz2 : w2.heap.size = w.heap.size := by rw [hw2]; simp
   have h9 := h.2 w2 (fun b hb1 hb2 => by
    rw [hw2]
    show (w.heap.setIfInBounds gD _)[b]? = _
    rw [Array.getElem?_setIfInBounds_ne (by omega)]) (by omega)
   obtain ⟨vs2, hvs2⟩ : ∃ x, x = vs := ⟨_, rfl⟩
   rw [← hvs2] at h9
   rw [← hvs2] at hvs
   cases h9 with
   | mk _ _ _ _ _ A' AL' AD' c' cL' cD' gL' oL' gD' oD' vl' vd' j1 j2 j3 j4 j5 j6 j7 j8 j9 j10 j11 jAL jl jlv jAD jdo jdk jdv =>
   simp only [List.cons.injEq, Value.slice.injEq, and_true, true_and] at hvs
   have e := hvs.2.2.1
   rw [jAD (by omega), hA] at e
   injection e with e
   injection e with e1 e2
   have hk := (jdk 0 (by omega)).2
   have hlt : gD < w.heap.size := cell_lt (hdk 0 (by omega)).2
   have : w2.cell? ⟨gD', oD' + 6 * 0, none⟩ = none := by
    rw [← e1, hw2]
    simp [World.cell?, hlt]
   rw [this] at hk
   cases hk
 have h9 := h.2 w' hb hz
 obtain ⟨vs2, hvs2⟩ : ∃ x, x = vs := ⟨_, rfl⟩
 rw [← hvs2] at h9
 rw [← hvs2] at hvs
 cases h9 with
 | mk _ _ _ _ _ A' AL' AD' c' cL' cD' gL' oL' gD' oD' vl' vd' j1 j2 j3 j4 j5 j6 j7 j8 j9 j10 j11 jAL jl jlv jAD jdo jdk jdv =>
 simp only [List.cons.injEq, Value.slice.injEq, and_true, true_and] at hvs
 have e := hvs.2.2.1
 rw [jAD (by omega), hA] at e
 injection e with e
 injection e with e1 e2
 subst e1
 subst e2
 have hv : vd' i = vd i := by
  refine List.ext_getElem? fun j => ?_
  rcases Nat.lt_or_ge j 5 with hj | hj
  ·have a1 := jdv i hi' j hj
   have a2 := hdv i hi' j hj
   rw [← a1, ← a2]
   exact World.cell?_of_block (hb gD hin.1 hin.2)
  ·rw [List.getElem?_eq_none (by rw [(jdo i hi').five]; exact hj), List.getElem?_eq_none (by rw [(hdo i hi').five]; exact hj)]
 rw [← hv]
 exact jdo i hi'
theorem srt_en (w : World) (AD : Option Addr) (gD oD cD : Nat) (d : List (List UInt8 × Ob)) (vd : Nat → List Value) (KB : ByteArray) (X : Ob) (x0 x1 x2 x3 x4 : Value) (hn : d.length ≤ 100000000) (hc : d.length ≤ cD) (hAD : 0 < d.length → AD = some ⟨gD, oD, none⟩)
 (hdo : ∀ i (h : i < d.length), ObAt w d[i].2 (vd i)) (hdk : ∀ i, (h : i < d.length) → d[i].1.length ≤ maxLen ∧ w.cell? ⟨gD, oD + 6 * i, none⟩ = some (strV d[i].1)) (hdv : ∀ i, i < d.length → ∀ j, j < 5 → w.cell? ⟨gD, oD + (6 * i + 1 + j), none⟩ = (vd i)[j]?)
 (hX : ObAt w X [x0, x1, x2, x3, x4]) (hno : ∀ e ∈ d, (e.1 == KB.data.toList) = false) :
 Calls Tryz.prog 189 #[.slice AD d.length cD, .agg #[.string KB, x0, x1, x2, x3, x4], .func (.func 191) #[] #[], .bool true] w fun e w' => ∃ v, e = .returned v ∧
  w'.ownsRow w.heap.size 91 6 v (d.length + 1) (((List.range (placeE KB.data.toList d)).map fun i => strV (keyAt d i) :: vd i).flatten ++ [.string KB, x0, x1, x2, x3, x4] ++ ((List.range (d.length - placeE KB.data.toList d)).map fun i => strV (keyAt d (placeE KB.data.toList d + i)) :: vd (placeE KB.data.toList d + i)).flatten) ∧ Below w.heap.size w w' := by
 refine srt_put w AD gD oD d.length cD (fun i => strV (keyAt d i) :: vd i) (fun i => bytes (keyAt d i)) KB x0 x1 x2 x3 x4 (placeE KB.data.toList d) (place_le _ _) hn hc hAD (fun i hi => ?_) (fun i hi j hj => ?_) (fun i hi u hu => ?_) (fun u hu => ?_) (fun i hi => ?_) (fun hi => ?_) (fun i hi => ?_)
 ·have h5 := (hdo i hi).five
  match h : vd i, h5 with
  | [c1, c2, c3, c4, c5], _ => exact ⟨c1, c2, c3, c4, c5, rfl⟩
 ·show _ = (strV (keyAt d i) :: vd i)[j]?
  cases j with
  | zero => rw [keyAt_eq hi]; exact (hdk i hi).2
  | succ j =>
   rw [List.getElem?_cons_succ, ← hdv i hi j (by omega)]
   congr 2
   omega
 ·simp only [List.mem_cons] at hu
  rcases hu with rfl | hu
  ·rfl
  ·exact one_five (hdo i hi) u hu
 ·simp only [List.mem_cons] at hu
  rcases hu with rfl | hu
  ·rfl
  ·exact one_five hX u (by simpa using hu)
 ·have hp := place_le KB.data.toList d
  show ltB (keyAt d i) _ = true
  rw [keyAt_eq (by omega)]
  exact place_lt _ d i (by omega) hi
 ·show ltB (keyAt d _) _ = false
  rw [keyAt_eq hi]
  exact place_ge _ d hi
 ·show (keyAt d i == _) = false
  rw [keyAt_eq hi]
  exact hno _ (List.getElem_mem hi)
theorem srt_drop (w : World) (AL : Option Addr) (g oL n cL : Nat) (vl : Nat → List Value) (key : Nat → ByteArray) (K : ByteArray) (X0 X1 X2 X3 X4 : Value) (k : Nat) (hk : k ≤ n) (hn : n ≤ 100000000) (hnc : n ≤ cL) (hA : 0 < n → AL = some ⟨g, oL, none⟩)
 (h5 : ∀ i, i < n → ∃ c1 c2 c3 c4 c5, vl i = [.string (key i), c1, c2, c3, c4, c5]) (hc : ∀ i, i < n → ∀ j, j < 6 → w.cell? ⟨g, oL + (6 * i + j), none⟩ = (vl i)[j]?) (h1 : ∀ i, i < n → ∀ u ∈ vl i, u.oneCell' = true)
 (hX : ∀ u ∈ [Value.string K, X0, X1, X2, X3, X4], u.oneCell' = true)
 (hlt : ∀ i, i < k → ltB (key i).data.toList K.data.toList = true) (hge : k < n → ltB (key k).data.toList K.data.toList = false) (hne : ∀ i, i < n → ((key i).data.toList == K.data.toList) = false) :
 Calls Tryz.prog 189 #[.slice AL n cL, .agg #[.string K, X0, X1, X2, X3, X4], .func (.func 191) #[] #[], .bool false] w fun e w' => ∃ v, e = .returned v ∧
  w'.ownsRow w.heap.size 91 6 v n (((List.range k).map vl).flatten ++ ((List.range (n - k)).map fun i => vl (k + i)).flatten) ∧ Below w.heap.size w w' := by
 obtain ⟨W1, hW1⟩ : ∃ W, W = w.alloc (.cells #[.string K, X0, X1, X2, X3, X4] 91) := ⟨_, rfl⟩
 obtain ⟨W2, hW2⟩ : ∃ W, W = W1.alloc (.cells #[.func (.func 191) #[] #[]] 225) := ⟨_, rfl⟩
 have z1 : W1.heap.size = w.heap.size + 1 := by rw [hW1, World.size_alloc]
 have z2 : W2.heap.size = w.heap.size + 2 := by rw [hW2, World.size_alloc, z1]
 have hb1 : Below w.heap.size w W1 := by rw [hW1]; exact (Below.refl _ _).alloc (Nat.le_refl _) _
 have hb12 : Below W1.heap.size W1 W2 := by rw [hW2]; exact (Below.refl _ _).alloc (Nat.le_refl _) _
 have hb2 : Below w.heap.size w W2 := bthen hb1 hb12
 have fX := six_kept (six_cells hW1) hb12
 have fC : W2.cell? ⟨w.heap.size + 1, 0, none⟩ = some (.func (.func 191) #[] #[]) := by rw [hW2, ← z1]; simp
 -- the closures
 have h6 : ∀ i, i < n → (vl i).length = 6 := fun i hi => by obtain ⟨c1, c2, c3, c4, c5, e⟩ := h5 i hi; rw [e]; rfl
 have cge : ∀ W, Below W2.heap.size W2 W → ∀ i W', i < n → Below W.heap.size W W' → Calls Tryz.prog 208 #[.agg (vl i).toArray, .pointer (some ⟨w.heap.size + 1, 0, none⟩), .pointer (some ⟨w.heap.size, 0, none⟩)] W' fun e w' => e = .returned (.bool (!ltB (key i).data.toList K.data.toList)) ∧ Below W'.heap.size W' w' := fun W hW i W' hi hB => by
  obtain ⟨c1, c2, c3, c4, c5, e⟩ := h5 i hi
  have hD := bthen hW hB
  rw [e, ← cmp_ge]
  exact clo_ge (key i) K c1 c2 c3 c4 c5 X0 X1 X2 X3 X4 W' _ _ ((hD.cell (cell_lt fC)).trans fC) (six_kept fX hD)
 have ceq : ∀ W, Below W2.heap.size W2 W → ∀ i W', i < n → Below W.heap.size W W' → Calls Tryz.prog 209 #[.agg (vl i).toArray, .pointer (some ⟨w.heap.size + 1, 0, none⟩), .pointer (some ⟨w.heap.size, 0, none⟩)] W' fun e w' => e = .returned (.bool ((key i).data.toList == K.data.toList)) ∧ Below W'.heap.size W' w' := fun W hW i W' hi hB => by
  obtain ⟨c1, c2, c3, c4, c5, e⟩ := h5 i hi
  have hD := bthen hW hB
  rw [e, ← cmp_eq0]
  exact clo_eq (key i) K c1 c2 c3 c4 c5 X0 X1 X2 X3 X4 W' _ _ ((hD.cell (cell_lt fC)).trans fC) (six_kept fX hD)
 have hcW : ∀ W, Below w.heap.size w W → ∀ i, i < n → ∀ j, j < 6 → W.cell? ⟨g, oL + (6 * i + j), none⟩ = (vl i)[j]? := fun W hW i hi j hj => by
  have h9 := hc i hi j hj
  obtain ⟨u, hu⟩ : ∃ u, (vl i)[j]? = some u := ⟨_, List.getElem?_eq_getElem (by rw [h6 i hi]; exact hj)⟩
  rw [hu] at h9 ⊢
  exact (hW.cell (cell_lt h9)).trans h9
 -- the calls
 have c104 := idx_105 W2 AL g oL n cL (w.heap.size + 1) w.heap.size (fun i => !ltB (key i).data.toList K.data.toList) vl (by omega) hA h6 (hcW W2 hb2) (fun i W hi hB => cge W2 (Below.refl _ _) i W hi hB)
 have cl1 : ∀ W, Below W2.heap.size W2 W → Calls Tryz.prog 211 #[.slice AL k cL] W fun e w' => ∃ v, e = .returned v ∧ w'.ownsRow W.heap.size 91 6 v k ((List.range k).map vl).flatten ∧ Below W.heap.size W w' := fun W hW =>
  sl_Clone W AL g oL k cL vl (by omega) (fun h => hA (by omega)) (fun i hi => h6 i (by omega)) (fun i hi => hcW W (bthen hb2 hW) i (by omega)) (fun i hi => h1 i (by omega))
 have cl2 : ∀ W AL2 c2, Below W2.heap.size W2 W → (0 < n - k → AL2 = some ⟨g, oL + 6 * k, none⟩) → Calls Tryz.prog 211 #[.slice AL2 (n - k) c2] W fun e w' => ∃ v, e = .returned v ∧ w'.ownsRow W.heap.size 91 6 v (n - k) ((List.range (n - k)).map fun i => vl (k + i)).flatten ∧ Below W.heap.size W w' := fun W AL2 c2 hW a1 => by
  refine sl_Clone W AL2 g (oL + 6 * k) (n - k) c2 (fun i => vl (k + i)) (by omega) a1 (fun i hi => h6 (k + i) (by omega)) (fun i hi j hj => ?_) (fun i hi => h1 (k + i) (by omega))
  rw [← hcW W (bthen hb2 hW) (k + i) (by omega) j hj]
  congr 2
  omega
 have cd1 : ∀ W v, Below W2.heap.size W2 W → W.ownsRow W2.heap.size 91 6 v k ((List.range k).map vl).flatten → Calls Tryz.prog 210 #[v, .func (.func 209) #[] #[.pointer (some ⟨w.heap.size + 1, 0, none⟩), .pointer (some ⟨w.heap.size, 0, none⟩)]] W fun e w' => e = .returned v ∧ Below W.heap.size W w' := fun W v hW hO => by
  obtain ⟨A, g', c, rfl, q1, q2⟩ := own_six hO (fun i hi => h6 i (by omega))
  exact del_none W A g' 0 k c _ _ (fun i => (key i).data.toList == K.data.toList) vl (by omega) q1 (fun i hi => h6 i (by omega)) q2 (fun i W' hi hB => ceq W hW i W' (by omega) hB) (fun i hi => hne i (by omega))
 have cd2 : ∀ W v, Below W2.heap.size W2 W → W.ownsRow W2.heap.size 91 6 v (n - k) ((List.range (n - k)).map fun i => vl (k + i)).flatten → Calls Tryz.prog 210 #[v, .func (.func 209) #[] #[.pointer (some ⟨w.heap.size + 1, 0, none⟩), .pointer (some ⟨w.heap.size, 0, none⟩)]] W fun e w' => e = .returned v ∧ Below W.heap.size W w' := fun W v hW hO => by
  obtain ⟨A, g', c, rfl, q1, q2⟩ := own_six hO (fun i hi => h6 (k + i) (by omega))
  exact del_none W A g' 0 (n - k) c _ _ (fun i => (key (k + i)).data.toList == K.data.toList) (fun i => vl (k + i)) (by omega) q1 (fun i hi => h6 (k + i) (by omega)) q2 (fun i W' hi hB => ceq W hW (k + i) W' (by omega) hB) (fun i hi => hne (k + i) (by omega))
 obtain ⟨m, hm⟩ : ∃ m, m = n - k := ⟨_, rfl⟩
 rw [← hm] at cl2 cd2 ⊢
 obtain ⟨F1, hF1⟩ : ∃ F, F = ((List.range k).map vl).flatten := ⟨_, rfl⟩
 obtain ⟨F2, hF2⟩ : ∃ F, F = ((List.range m).map fun i => vl (k + i)).flatten := ⟨_, rfl⟩
 have o2 : ∀ u ∈ F2, u.oneCell' = true := fun u hu => by
  rw [hF2] at hu
  obtain ⟨l, hl, hul⟩ := List.mem_flatten.1 hu
  obtain ⟨i, hi, rfl⟩ := List.mem_map.1 hl
  exact h1 (k + i) (by have := List.mem_range.1 hi; omega) u hul
 rw [← hF1] at cl1 cd1 ⊢
 rw [← hF2] at cl2 cd2 ⊢
 have hfi : firstI (fun i => !ltB (key i).data.toList K.data.toList) n = if k < n then (k : Int) else -1 := by
  by_cases h : k < n
  ·rw [if_pos h]; exact firstI_at h (fun i hi => by simp [hlt i hi]) (by simp [hge h])
  ·rw [if_neg h]; exact firstI_no fun i hi => by simp [hlt i (by omega)]
 rw [hfi] at c104
 clear cge ceq hcW hc h5 h1 hlt hge hne hfi h6
 obtain ⟨f0, f1, f2, f3, f4, f5⟩ := id fX
 refine h9_ hA fX fC hb2 hb1 hb12 cl1 cl2 cd1 ?_; clear hA fX fC hb2 hb1 hb12 cl1 cl2 cd1; intro hA fX fC hb2 hb1 hb12 cl1 cl2 cd1
 refine h5_ cd2 hF1 hF2 o2 hX ?_; clear cd2 hF1 hF2 o2 hX; intro cd2 hF1 hF2 o2 hX
 obtain ⟨i0, hi0, hz0, hz1, hz2⟩ := en_info
 refine h4_ hi0 hz0 hz1 hz2 ?_; clear hi0 hz0 hz1 hz2; intro hi0 hz0 hz1 hz2
 go_enter Tryz.func189, Tryz.ntmps189
 go_upto_region 1 with (fail)
 rw [← hW1, ← hW2]
 replace hW1 := hi_ hW1
 replace hW2 := hi_ hW2
 by_cases hkn : k < n
 ·rw [if_pos hkn] at c104
  subst hm
  go_wp2_with (first
   | (go_at_call 168; (with_reducible refine c104.mono ?_); rintro e w3 ⟨rfl, hB3⟩; have c108 := cl1.out w3 hB3; replace hB3 := hi_ hB3)
   | (go_at_call 211; (with_reducible refine c108.mono ?_); rintro e w4 ⟨v4, rfl, hO4, hB4⟩; replace hO4 := own_base hO4 hB3.out.size; have hD4 := bthen hB3.out hB4; have c107 := cd1.out w4 v4 hD4 hO4; replace hO4 := hi_ hO4; replace hD4 := hi_ hD4; clear hB4 c108)
   | (go_at_call 210; (with_reducible refine c107.mono ?_); rintro e w5 ⟨rfl, hB5⟩; have hD5 := bthen hD4.out hB5; have hO5 := own_far hO4.out (fun b _ hb => hB5.block b hb); have c108b := cl2.out w5 (Option.map (fun x => x.add (k * 6)) AL) (cL - k) hD5 (fun h => by rw [hA.out (by omega)]; simp [Addr.add, Nat.mul_comm]); replace hD5 := hi_ hD5; replace hO5 := hi_ hO5; clear hB5 c107)
   | (go_at_call 211; (with_reducible refine c108b.mono ?_); rintro e w7 ⟨v7, rfl, hO7, hB7⟩; replace hO7 := own_base hO7 hD5.out.size; have hD7 := bthen hD5.out hB7; have c107b := cd2.out w7 v7 hD7 hO7; have hP7 := own_far hO5.out (fun b _ hb => hB7.block b hb); replace hO7 := hi_ hO7; replace hD7 := hi_ hD7; replace hP7 := hi_ hP7; clear hB7 c108b)
   | (go_at_call 210; (with_reducible refine c107b.mono ?_); rintro e w8 ⟨rfl, hB8⟩; have hD8 := bthen hD7.out hB8; have hO8 := own_far hO7.out (fun b _ hb => hB8.block b hb); have hP8 := own_far hP7.out (fun b _ hb => hB8.block b hb); replace hO8 := hi_ hO8; replace hP8 := hi_ hP8; replace hD8 := hi_ hD8; clear hB8 c107b)
   | (at_builtin; refine app_row rfl _ _ rfl W2.heap.size v4 k F1 rfl hP8.out W2.heap.size _ (n - k) F2 rfl hO8.out o2.out (by omega) hD8.out.size ?_; intro v9 w9 hO9 hg9; have hD9 : Below W2.heap.size W2 w9 := hD8.out.grown hg9 hD8.out.size (fun q hq => (World.ownsRow.lt hP8.out _ hq).1); replace hO9 := hi_ hO9; replace hD9 := hi_ hD9; clear hg9))
  go_ret
  exact ⟨v9, rfl, by have h9 := own_base hO9.out (B' := w.heap.size) (by omega); rw [show k + (n - k) = n by omega] at h9; exact h9, hb2.out.trans (hD9.out.mono (by omega))⟩
 ·obtain rfl : k = n := by omega
  rw [if_neg (by omega)] at c104
  obtain rfl : m = 0 := by omega
  clear hm
  by_cases hck : cL = k
  ·replace hck := hck.symm
   subst hck
   go_wp2_with (first
    | (go_at_call 168; (with_reducible refine c104.mono ?_); rintro e w3 ⟨rfl, hB3⟩; have c108 := cl1.out w3 hB3; replace hB3 := hi_ hB3)
    | (go_at_call 211; (with_reducible refine c108.mono ?_); rintro e w4 ⟨v4, rfl, hO4, hB4⟩; replace hO4 := own_base hO4 hB3.out.size; have hD4 := bthen hB3.out hB4; have c107 := cd1.out w4 v4 hD4 hO4; replace hO4 := hi_ hO4; replace hD4 := hi_ hD4; clear hB4 c108)
    | (go_at_call 210; (with_reducible refine c107.mono ?_); rintro e w5 ⟨rfl, hB5⟩; have hD5 := bthen hD4.out hB5; have hO5 := own_far hO4.out (fun b _ hb => hB5.block b hb); have c108b := cl2.out w5 AL 0 hD5 (fun h => by omega); replace hD5 := hi_ hD5; replace hO5 := hi_ hO5; clear hB5 c107)
    | (go_at_call 211; (with_reducible refine c108b.mono ?_); rintro e w7 ⟨v7, rfl, hO7, hB7⟩; replace hO7 := own_base hO7 hD5.out.size; have hD7 := bthen hD5.out hB7; have c107b := cd2.out w7 v7 hD7 hO7; have hP7 := own_far hO5.out (fun b _ hb => hB7.block b hb); replace hO7 := hi_ hO7; replace hD7 := hi_ hD7; replace hP7 := hi_ hP7; clear hB7 c108b)
    | (go_at_call 210; (with_reducible refine c107b.mono ?_); rintro e w8 ⟨rfl, hB8⟩; have hD8 := bthen hD7.out hB8; have hO8 := own_far hO7.out (fun b _ hb => hB8.block b hb); have hP8 := own_far hP7.out (fun b _ hb => hB8.block b hb); replace hO8 := hi_ hO8; replace hP8 := hi_ hP8; replace hD8 := hi_ hD8; clear hB8 c107b)
    | (at_builtin; refine app_row rfl _ _ rfl W2.heap.size v4 k F1 rfl hP8.out W2.heap.size _ 0 F2 rfl hO8.out o2.out (by omega) hD8.out.size ?_; intro v9 w9 hO9 hg9; have hD9 : Below W2.heap.size W2 w9 := hD8.out.grown hg9 hD8.out.size (fun q hq => (World.ownsRow.lt hP8.out _ hq).1); replace hO9 := hi_ hO9; replace hD9 := hi_ hD9; clear hg9))
   go_ret
   exact ⟨v9, rfl, by have h9 := own_base hO9.out (B' := w.heap.size) (by omega); exact h9, hb2.out.trans (hD9.out.mono (by omega))⟩
  ·have hck2 : cL - k ≠ 0 := by omega
   go_wp2_with (first
    | (go_at_call 168; (with_reducible refine c104.mono ?_); rintro e w3 ⟨rfl, hB3⟩; have c108 := cl1.out w3 hB3; replace hB3 := hi_ hB3)
    | (go_at_call 211; (with_reducible refine c108.mono ?_); rintro e w4 ⟨v4, rfl, hO4, hB4⟩; replace hO4 := own_base hO4 hB3.out.size; have hD4 := bthen hB3.out hB4; have c107 := cd1.out w4 v4 hD4 hO4; replace hO4 := hi_ hO4; replace hD4 := hi_ hD4; clear hB4 c108)
    | (go_at_call 210; (with_reducible refine c107.mono ?_); rintro e w5 ⟨rfl, hB5⟩; have hD5 := bthen hD4.out hB5; have hO5 := own_far hO4.out (fun b _ hb => hB5.block b hb); have c108b := cl2.out w5 (Option.map (fun x => x.add (k * 6)) AL) (cL - k) hD5 (fun h => by omega); replace hD5 := hi_ hD5; replace hO5 := hi_ hO5; clear hB5 c107)
    | (go_at_call 211; (with_reducible refine c108b.mono ?_); rintro e w7 ⟨v7, rfl, hO7, hB7⟩; replace hO7 := own_base hO7 hD5.out.size; have hD7 := bthen hD5.out hB7; have c107b := cd2.out w7 v7 hD7 hO7; have hP7 := own_far hO5.out (fun b _ hb => hB7.block b hb); replace hO7 := hi_ hO7; replace hD7 := hi_ hD7; replace hP7 := hi_ hP7; clear hB7 c108b)
    | (go_at_call 210; (with_reducible refine c107b.mono ?_); rintro e w8 ⟨rfl, hB8⟩; have hD8 := bthen hD7.out hB8; have hO8 := own_far hO7.out (fun b _ hb => hB8.block b hb); have hP8 := own_far hP7.out (fun b _ hb => hB8.block b hb); replace hO8 := hi_ hO8; replace hP8 := hi_ hP8; replace hD8 := hi_ hD8; clear hB8 c107b)
    | (at_builtin; refine app_row rfl _ _ rfl W2.heap.size v4 k F1 rfl hP8.out W2.heap.size _ 0 F2 rfl hO8.out o2.out (by omega) hD8.out.size ?_; intro v9 w9 hO9 hg9; have hD9 : Below W2.heap.size W2 w9 := hD8.out.grown hg9 hD8.out.size (fun q hq => (World.ownsRow.lt hP8.out _ hq).1); replace hO9 := hi_ hO9; replace hD9 := hi_ hD9; clear hg9))
   go_ret
   exact ⟨v9, rfl, by have h9 := own_base hO9.out (B' := w.heap.size) (by omega); exact h9, hb2.out.trans (hD9.out.mono (by omega))⟩
section
open Go Go.RowKit Go.Wk Go.Rd
theorem ins_cons (K : Bs) (X : Ob) (e : Bs × Ob) (r : List (Bs × Ob)) : insE K X (e :: r) = if ltB e.1 K = true then e :: insE K X r else (K, X) :: e :: r := by
 unfold insE placeE
 by_cases h : ltB e.1 K = true
 ·rw [if_pos h, List.takeWhile_cons, if_pos h]; simp
 ·rw [if_neg h, List.takeWhile_cons, if_neg h]; simp
theorem with_true {K : Bs} {X : Ob} : ∀ {d : List (Bs × Ob)}, (∀ e ∈ d, (e.1 == K) = false) → withL K X true d = d
 | [], _ => rfl
 | e :: r, h => by
  have he : e.1 ≠ K := fun e2 => by have := h e (by simp); rw [e2] at this; simp at this
  rw [withL, if_neg he, Bool.true_or, with_true fun x hx => h x (by simp [hx])]
  rfl
theorem with_false {K : Bs} {X : Ob} : ∀ {d : List (Bs × Ob)}, (∀ e ∈ d, (e.1 == K) = false) → withL K X false d = insE K X d
 | [], _ => rfl
 | e :: r, h => by
  have he : e.1 ≠ K := fun e2 => by have := h e (by simp); rw [e2] at this; simp at this
  have hr : ∀ x ∈ r, (x.1 == K) = false := fun x hx => h x (by simp [hx])
  rw [withL, if_neg he, ins_cons, Bool.false_or]
  cases hl : ltB e.1 K with
  | true => rw [Bool.not_true, with_false hr]; rfl
  | false => rw [Bool.not_false, with_true hr]; rfl
theorem putE_new {K : Bs} {X : Ob} {d : List (Bs × Ob)} (h : ∀ e ∈ d, (e.1 == K) = false) : putE K X d = if X.kind = 0 then d else insE K X d := by
 unfold putE
 by_cases hk : X.kind = 0
 ·rw [if_pos hk, hk]; exact with_true h
 ·rw [if_neg hk, show (X.kind == 0) = false from by simpa using hk]; exact with_false h
theorem flat_all (p n : Nat) (hp : p ≤ n) (vl : Nat → List Value) : ((List.range p).map vl).flatten ++ ((List.range (n - p)).map fun i => vl (p + i)).flatten = ((List.range n).map vl).flatten := by
 have e : n = p + (n - p) := by omega
 conv => rhs; rw [e, List.range_add, List.map_append, List.flatten_append, List.map_map]
 rfl
theorem ob_row {w : World} {k n : Int} {b : List UInt8} {l : List Ob} {d : List (List UInt8 × Ob)} {vB vL vD v : Value} {B : Nat} {vd : Nat → List Value} (h : ObAt w (.mk k n b l d) [.int .i64 k, .int .i64 n, vB, vL, vD])
 (hvd : ∀ i (hi : i < d.length), ObAt w d[i].2 (vd i)) (hkl : ∀ i (hi : i < d.length), d[i].1.length ≤ maxLen)
 (hv : w.ownsRow B 91 6 v d.length ((List.range d.length).map fun i => strV (keyAt d i) :: vd i).flatten) :
 ObAt w (.mk k n b l d) [.int .i64 k, .int .i64 n, vB, vL, v] := by
 have h6 : ∀ i, i < d.length → (strV (keyAt d i) :: vd i).length = 6 := fun i hi => by simp [(hvd i hi).five]
 obtain ⟨A, g, c, rfl, q1, q2⟩ := own_six hv h6
 obtain ⟨hc1, hc2⟩ : d.length ≤ c ∧ c ≤ maxLen := by
  rcases hv.2 with ⟨e, hn⟩ | ⟨g', cap, cur, e, h1, h2, h3, h4, h5⟩
  ·injection e with _ e1 e2; subst e2; exact ⟨by omega, by unfold maxLen; omega⟩
  ·injection e with _ e1 e2; subst e2; exact ⟨by omega, h4⟩
 cases h with
 | mk _ _ _ _ _ A0 AL AD c0 cL cD gL oL gD oD vl vd0 h1 h2 h3 h4 h5 h6 h7 h8 h9 h10 h11 hAL hl hlv hAD hdo hdk hdv =>
 refine ObAt.mk k n b l d A0 AL A c0 cL c gL oL g 0 vl vd h1 h2 h3 h4 h5 h6 h7 h8 h9 hc1 (Nat.le_trans hc1 hc2) hAL hl hlv q1 (fun i hi => hvd i hi) (fun i hi => ⟨hkl i hi, ?_⟩) (fun i hi j hj => ?_)
 ·have := q2 i hi 0 (by omega)
  rw [keyAt_eq hi] at this
  simpa using this
 ·have := q2 i hi (1 + j) (by omega)
  rw [← Nat.add_assoc] at this
  rw [Nat.add_assoc] at this
  rw [show 0 + (6 * i + (1 + j)) = 0 + (6 * i + 1 + j) by omega] at this
  rw [this, Nat.add_comm 1 j, List.getElem?_cons_succ]
theorem srt_no (w : World) (AD : Option Addr) (gD oD cD : Nat) (d : List (List UInt8 × Ob)) (vd : Nat → List Value) (KB : ByteArray) (X : Ob) (x0 x1 x2 x3 x4 : Value) (hn : d.length ≤ 100000000) (hc : d.length ≤ cD) (hAD : 0 < d.length → AD = some ⟨gD, oD, none⟩)
 (hdo : ∀ i (h : i < d.length), ObAt w d[i].2 (vd i)) (hdk : ∀ i, (h : i < d.length) → d[i].1.length ≤ maxLen ∧ w.cell? ⟨gD, oD + 6 * i, none⟩ = some (strV d[i].1)) (hdv : ∀ i, i < d.length → ∀ j, j < 5 → w.cell? ⟨gD, oD + (6 * i + 1 + j), none⟩ = (vd i)[j]?)
 (hX : ObAt w X [x0, x1, x2, x3, x4]) (hno : ∀ e ∈ d, (e.1 == KB.data.toList) = false) :
 Calls Tryz.prog 189 #[.slice AD d.length cD, .agg #[.string KB, x0, x1, x2, x3, x4], .func (.func 191) #[] #[], .bool false] w fun e w' => ∃ v, e = .returned v ∧
  w'.ownsRow w.heap.size 91 6 v d.length ((List.range d.length).map fun i => strV (keyAt d i) :: vd i).flatten ∧ Below w.heap.size w w' := by
 rw [← flat_all (placeE KB.data.toList d) d.length (place_le _ _)]
 refine srt_drop w AD gD oD d.length cD (fun i => strV (keyAt d i) :: vd i) (fun i => bytes (keyAt d i)) KB x0 x1 x2 x3 x4 (placeE KB.data.toList d) (place_le _ _) hn hc hAD (fun i hi => ?_) (fun i hi j hj => ?_) (fun i hi u hu => ?_) (fun u hu => ?_) (fun i hi => ?_) (fun hi => ?_) (fun i hi => ?_)
 ·have h5 := (hdo i hi).five
  match h : vd i, h5 with
  | [c1, c2, c3, c4, c5], _ => exact ⟨c1, c2, c3, c4, c5, rfl⟩
 ·show _ = (strV (keyAt d i) :: vd i)[j]?
  cases j with
  | zero => rw [keyAt_eq hi]; exact (hdk i hi).2
  | succ j =>
   rw [List.getElem?_cons_succ, ← hdv i hi j (by omega)]
   congr 2
   omega
 ·simp only [List.mem_cons] at hu
  rcases hu with rfl | hu
  ·rfl
  ·exact one_five (hdo i hi) u hu
 ·simp only [List.mem_cons] at hu
  rcases hu with rfl | hu
  ·rfl
  ·exact one_five hX u (by simpa using hu)
 ·have hp := place_le KB.data.toList d
  show ltB (keyAt d i) _ = true
  rw [keyAt_eq (by omega)]
  exact place_lt _ d i (by omega) hi
 ·show ltB (keyAt d _) _ = false
  rw [keyAt_eq hi]
  exact place_ge _ d hi
 ·show (keyAt d i == _) = false
  rw [keyAt_eq hi]
  exact hno _ (List.getElem_mem hi)
theorem own_slice {B : Nat} {e : TypeId} {sz : Nat} {w : World} {v : Value} {n : Nat} {xs : List Value} (h : w.ownsRow B e sz v n xs) : ∃ A c, v = .slice A n c := by
 rcases h.2 with ⟨rfl, hn⟩ | ⟨g, cap, cur, rfl, _⟩
 ·exact ⟨_, _, by rw [hn]⟩
 ·exact ⟨_, _, rfl⟩
theorem set_five {w : World} {R : Nat} {z0 z1 z2 z3 z4 u0 u1 u2 u3 u4 : Value} (hR : Blk w R 32 #[z0, z1, z2, z3, z4]) {Wf : World}
 (hWf : Wf = ((((w.setCell ⟨R, 0, none⟩ u0).setCell ⟨R, 1, none⟩ u1).setCell ⟨R, 2, none⟩ u2).setCell ⟨R, 3, none⟩ u3).setCell ⟨R, 4, none⟩ u4) :
 Blk Wf R 32 #[u0, u1, u2, u3, u4] ∧ w.grownBy Wf (some R) ∧ Wf.heap.size = w.heap.size := by
 have hg : w.grownBy Wf (some R) := by
  rw [hWf]
  exact ((((set_grown _ _ _ _).trans (set_grown _ _ _ _)).trans (set_grown _ _ _ _)).trans (set_grown _ _ _ _)).trans (set_grown _ _ _ _)
 refine ⟨?_, hg, by rw [hWf]; simp [World.setCell]⟩
 rw [hWf]; exact ((((hR.set_ 0 u0).set_ 1 u1).set_ 2 u2).set_ 3 u3).set_ 4 u4
theorem srt_ob {lo hi lo2 hi2 : Nat} {w : World} {k n : Int} {b : List UInt8} {l : List Ob} {d : List (List UInt8 × Ob)} {vB vL vD : Value} {X : Ob} {xs : List Value} (KB : ByteArray) (h : ObI lo hi w (.mk k n b l d) [.int .i64 k, .int .i64 n, vB, vL, vD]) (hX : ObI lo2 hi2 w X xs) (hlo : lo ≤ lo2) (hlw : lo ≤ w.heap.size)
 (hno : ∀ e ∈ d, (e.1 == KB.data.toList) = false) (hKl : KB.data.toList.length ≤ maxLen) (hn : d.length ≤ 100000000) (kp : Bool) (hkp : kp = (X.kind != 0)) :
 Calls Tryz.prog 189 #[vD, .agg (List.toArray (.string KB :: xs)), .func (.func 191) #[] #[], .bool kp] w fun e w' => ∃ A' c', e = .returned (.slice A' (putE KB.data.toList X d).length c') ∧
  ObI lo w'.heap.size w' (.mk k n b l (putE KB.data.toList X d)) [.int .i64 k, .int .i64 n, vB, vL, .slice A' (putE KB.data.toList X d).length c'] ∧ Below w.heap.size w w' := by
 obtain ⟨A, AL, AD, c, cL, cD, gD, oD, vd, hvs, q1, q2, q3, q4, q5⟩ := ObI.ents h
 obtain ⟨en, E1, E2, E3, en1, ec1, en2, ec2, en3, ec3, hys⟩ := ob_five2 hX.ob
 simp only [List.cons.injEq, and_true, true_and] at hvs
 obtain ⟨rfl, rfl, rfl⟩ := hvs
 subst hys
 rw [putE_new hno]
 have hh := h.1
 have hx1 := hX.1
 -- what stays as it lay
 have hk1 : ∀ (w' Wg : World), Below w.heap.size w w' → (∀ g, lo ≤ g → g < w'.heap.size → Wg.heap[g]? = w'.heap[g]?) → w'.heap.size ≤ Wg.heap.size →
  ObAt Wg (.mk k n b l d) [.int .i64 k, .int .i64 n, .slice A b.length c, .slice AL l.length cL, .slice AD d.length cD] ∧ (∀ i (hi : i < d.length), ObAt Wg d[i].2 (vd i)) ∧ ObAt Wg X [.int .i64 X.kind, .int .i64 en, .slice E1 en1 ec1, .slice E2 en2 ec2, .slice E3 en3 ec3] := fun w' Wg hB hk hs => by
  have hz := hB.size
  exact ⟨(h.keep (fun q h1 h2 => (hk q h1 (by omega)).trans (hB.block q (by omega))) (by omega)).ob, fun i hi' => ((q3 i hi').keep (fun q h1 h2 => (hk q h1 (by omega)).trans (hB.block q (by omega))) (by omega)).ob, (hX.keep (fun q h1 h2 => (hk q (by omega) (by omega)).trans (hB.block q (by omega))) (by omega)).ob⟩
 by_cases hk0 : X.kind = 0
 ·obtain rfl : kp = false := by rw [hkp, hk0]; rfl
  rw [if_pos hk0]
  refine (srt_no w AD gD oD cD d vd KB X _ _ _ _ _ hn q1 q2 (fun i hi => (q3 i hi).ob) q4 q5 hX.ob hno).mono ?_
  rintro e w' ⟨v, rfl, hO, hB⟩
  obtain ⟨A', c', rfl⟩ := own_slice hO
  refine ⟨A', c', rfl, ⟨Nat.le_refl _, fun Wg hk hs => ?_⟩, hB⟩
  obtain ⟨a1, a2, a3⟩ := hk1 w' Wg hB hk hs
  exact ob_row a1 a2 (fun i hi => (q4 i hi).1) (own_far hO (w' := Wg) fun q h1 h2 => hk q (by omega) h2)
 ·obtain rfl : kp = true := by rw [hkp]; simpa using hk0
  rw [if_neg hk0, insE_len]
  refine (srt_en w AD gD oD cD d vd KB X _ _ _ _ _ hn q1 q2 (fun i hi => (q3 i hi).ob) q4 q5 hX.ob hno).mono ?_
  rintro e w' ⟨v, rfl, hO, hB⟩
  obtain ⟨A', c', rfl⟩ := own_slice hO
  refine ⟨A', c', rfl, ⟨Nat.le_refl _, fun Wg hk hs => ?_⟩, hB⟩
  obtain ⟨a1, a2, a3⟩ := hk1 w' Wg hB hk hs
  exact ob_put a1 a2 (fun i hi => (q4 i hi).1) hKl a3 (own_far hO (w' := Wg) fun q h1 h2 => hk q (by omega) h2)
end
section
open Go Go.RowKit Go.Wk Go.Rd
def foldE (es : List (Bs × Ob)) : List (Bs × Ob) := es.foldl (fun d e => putE e.1 e.2 d) []
theorem foldE_snoc (l : List (Bs × Ob)) (e : Bs × Ob) : foldE (l ++ [e]) = putE e.1 e.2 (foldE l) := by simp [foldE]
theorem with_mem {K : Bs} {X : Ob} : ∀ {p : Bool} {d : List (Bs × Ob)} {x : Bs × Ob}, x ∈ withL K X p d → x = (K, X) ∨ x ∈ d
 | p, [], x, h => by
  rw [withL] at h
  split at h
  ·simp at h
  ·simp at h; exact .inl h
 | p, e :: r, x, h => by
  rw [withL] at h
  rcases List.mem_append.1 h with h | h
  ·split at h
   ·simp at h; exact .inl h
   ·simp at h
  ·rcases List.mem_append.1 h with h | h
   ·split at h
    ·simp at h
    ·simp at h; exact .inr (by simp [h])
   ·rcases with_mem h with h | h
    ·exact .inl h
    ·exact .inr (by simp [h])
theorem with_len' (K : Bs) (X : Ob) : ∀ (d : List (Bs × Ob)) (p : Bool), (withL K X p d).length ≤ d.length + (if p then 0 else 1)
 | [], p => by cases p <;> simp [withL]
 | e :: r, p => by
  have h1 := with_len' K X r true
  have h2 := with_len' K X r false
  rw [withL]
  cases p <;> cases ltB e.1 K <;> simp at h1 h2 ⊢ <;> split <;> simp <;> omega
theorem putE_len' (K : Bs) (X : Ob) (d : List (Bs × Ob)) : (putE K X d).length ≤ d.length + 1 := by
 have := with_len' K X d (X.kind == 0)
 unfold putE; split at this <;> omega
theorem fold_len : ∀ l : List (Bs × Ob), (foldE l.reverse).length ≤ l.length
 | [] => by simp [foldE]
 | e :: r => by
  have h1 := fold_len r
  have h2 := putE_len' e.1 e.2 (foldE r.reverse)
  rw [List.reverse_cons, foldE_snoc]
  simp only [List.length_cons]; omega
theorem foldE_len (l : List (Bs × Ob)) : (foldE l).length ≤ l.length := by
 have := fold_len l.reverse
 rwa [List.reverse_reverse, List.length_reverse] at this
theorem fold_key : ∀ (l : List (Bs × Ob)) (x : Bs × Ob), x ∈ foldE l.reverse → x.1 ∈ l.map (·.1)
 | [], x, h => by simp [foldE] at h
 | e :: r, x, h => by
  rw [List.reverse_cons, foldE_snoc] at h
  rcases with_mem h with rfl | h
  ·simp
  ·have := fold_key r x h
   simp only [List.map_cons, List.mem_cons]
   exact .inr this
theorem foldE_key (l : List (Bs × Ob)) (x : Bs × Ob) (h : x ∈ foldE l) : x.1 ∈ l.map (·.1) := by
 have := fold_key l.reverse x (by rwa [List.reverse_reverse])
 simpa using this
theorem fold_no {es : List (Bs × Ob)} {j : Nat} (hj : j < es.length) (hnd : (es.map (·.1)).Nodup) : ∀ x ∈ foldE (es.take j), (x.1 == es[j].1) = false := fun x hx => by
 have h1 := foldE_key _ _ hx
 rw [List.map_take] at h1
 obtain ⟨i, hi, he⟩ := List.getElem_of_mem h1
 rw [List.length_take, List.length_map] at hi
 rw [List.getElem_take] at he
 cases hc : (x.1 == es[j].1) with
 | false => rfl
 | true =>
  exfalso
  have hc2 : x.1 = es[j].1 := by simpa using hc
  have h2 := (List.pairwise_iff_getElem.1 hnd) i j (by rw [List.length_map]; omega) (by rw [List.length_map]; omega) (by omega)
  exact h2 (by rw [he, hc2, List.getElem_map])
theorem hollow {w : World} {k n : Int} {us : List Value} (h : ObAt w (.mk k n [] [] []) us) : (∃ A c AL cL AD cD, us = [.int .i64 k, .int .i64 n, .slice A 0 c, .slice AL 0 cL, .slice AD 0 cD]) ∧ ∀ (w' : World) lo hi, hi ≤ w'.heap.size → ObI lo hi w' (.mk k n [] [] []) us := by
 cases h with
 | mk _ _ _ _ _ A AL AD c cL cD gL oL gD oD vl vd h1 h2 h3 h4 h5 h6 h7 h8 h9 h10 h11 hAL hl hlv hAD hdo hdk hdv =>
 refine ⟨⟨A, c, AL, cL, AD, cD, rfl⟩, fun w' lo hi hh => ⟨hh, fun w2 _ _ => ?_⟩⟩
 exact .mk k n [] [] [] A AL AD c cL cD gL oL gD oD vl vd h1 h2 h3 h4 Byt.nil h6 h7 h8 h9 h10 h11 hAL (fun i hi => by simp at hi) (fun i hi => by simp at hi) hAD (fun i hi => by simp at hi) (fun i hi => by simp at hi) (fun i hi => by simp at hi)
theorem empty_at (w : World) : ObAt w (.mk 7 0 [] [] []) [.int .i64 7, .int .i64 0, .slice none 0 0, .slice none 0 0, .slice none 0 0] :=
 (ObAt.mk 7 0 [] [] [] none none none 0 0 0 0 0 0 0 (fun _ => []) (fun _ => []) (by omega) (by omega) (by omega) (by omega) Byt.nil (by simp) (fun _ => rfl) (by simp) (by simp) (by simp) (by simp) (fun h => by simp at h) (fun i hi => by simp at hi) (fun i hi => by simp at hi) (fun h => by simp at h) (fun i hi => by simp at hi) (fun i hi => by simp at hi) (fun i hi => by simp at hi))
def GSn (P Q : Nat) (vD : Value) (KB : ByteArray) (kx : Int) (ag : Array Value) (B : Nat) (X : Ob) : Nat → Value → World → Prop := fun j v w => match j with
 | 0 => v = .pointer (some ⟨P, 4, none⟩)
 | 1 => v = vD
 | 2 => v = .pointer (some ⟨Q, 0, none⟩)
 | 3 => v = .string KB
 | 4 | 7 | 8 => v = .pointer (some ⟨Q, 1, none⟩)
 | 5 => v = .agg ag
 | 6 => ∃ us lo hi, v = .agg (List.toArray (.string KB :: us)) ∧ B ≤ lo ∧ ObI lo hi w X us
 | 9 => v = .int .i64 kx
 | _ => v = .bool (kx != 0)
theorem GSn_mono {P Q : Nat} {vD : Value} {KB : ByteArray} {kx : Int} {ag : Array Value} {B : Nat} {X : Ob} (j : Nat) (v : Value) (w w' : World) (hG : GSn P Q vD KB kx ag B X j v w) (hk : Below w.heap.size w w') : GSn P Q vD KB kx ag B X j v w' := by
 unfold GSn at hG ⊢
 split at hG <;> first
  | exact hG
  | (obtain ⟨us, lo, hi, e, h1, h2⟩ := hG; exact ⟨us, lo, hi, e, h1, h2.keep (fun b _ hb => hk.block b (by have := h2.1; omega)) (by have := h2.1; have := hk.size; omega)⟩)
theorem cos_SetN (w : World) (es : List (Bs × Ob)) (A : Option Addr) (gE oE cE : Nat) (ve : Nat → List Value) (hA : 0 < es.length → A = some ⟨gE, oE, none⟩)
 (hob : ∀ i (h : i < es.length), ObAt w es[i].2 (ve i)) (hky : ∀ i (h : i < es.length), es[i].1.length ≤ maxLen ∧ w.cell? ⟨gE, oE + 6 * i, none⟩ = some (strV es[i].1))
 (hcv : ∀ i, i < es.length → ∀ j, j < 5 → w.cell? ⟨gE, oE + (6 * i + 1 + j), none⟩ = (ve i)[j]?) (hbk : ∀ e ∈ es, e.2.bulk ≤ 100000000) (hn : es.length ≤ 100000000) (hnd : (es.map (·.1)).Nodup) :
 Calls Tryz.prog 157 #[.agg #[.int .i64 7, .int .i64 0, .slice none 0 0, .slice none 0 0, .slice none 0 0], .slice A es.length cE] w fun e w' => ∃ us, e = .returned (.agg (List.toArray us)) ∧ ObI w.heap.size w'.heap.size w' (.mk 7 0 [] [] (foldE es)) us ∧ Below w.heap.size w w' := by
 obtain ⟨n, hnn⟩ : ∃ n, n = es.length := ⟨_, rfl⟩
 rw [← hnn] at hA hn ⊢
 obtain ⟨W1, hW1⟩ : ∃ W, W = w.alloc (.cells #[.int .i64 7, .int .i64 0, .slice none 0 0, .slice none 0 0, .slice none 0 0] 32) := ⟨_, rfl⟩
 obtain ⟨W2, hW2⟩ : ∃ W, W = W1.alloc (.cells #[.int .i64 0, .int .i64 0, .slice none 0 0, .slice none 0 0, .slice none 0 0] 32) := ⟨_, rfl⟩
 have hb1 : Below w.heap.size w W1 := by rw [hW1]; exact (Below.refl _ _).alloc (Nat.le_refl _) _
 have z1 : W1.heap.size = w.heap.size + 1 := by rw [hW1, World.size_alloc]
 have hb12 : Below W1.heap.size W1 W2 := by rw [hW2]; exact (Below.refl _ _).alloc (Nat.le_refl _) _
 have hb2 : Below w.heap.size w W2 := bthen hb1 hb12
 have z2 : W2.heap.size = w.heap.size + 2 := by rw [hW2, World.size_alloc, z1]
 have f := five_kept (five_cells hW1) hb12
 have hR2 : Blk W2 (w.heap.size + 1) 32 #[.int .i64 0, .int .i64 0, .slice none 0 0, .slice none 0 0, .slice none 0 0] := by rw [hW2, ← z1]; exact Blk.new W1 32 _
 have c66 := copy_all 100000000 (Nat.le_refl _) (Ob.mk 7 0 [] [] []) _ W2 (empty_at W2) (by simp [Ob.bulk, bulkL, bulkD])
 have c65 := fun W => cos_entries 7 (.int .i64 0) (.slice none 0 0) (.slice none 0 0) (.slice none 0 0) W
 rw [show hasI 7 = true from rfl] at c65
 obtain ⟨f0, f1, f2, f3, f4⟩ := id f
 refine h9_ f hb1 hb12 hb2 hR2 c65 hA hob hky ?_; clear f hb1 hb12 hb2 hR2 c65 hA hob hky; intro f hb1 hb12 hb2 hR2 c65 hA hob hky
 refine h4_ hcv hbk hnd hnn ?_; clear hcv hbk hnd hnn; intro hcv hbk hnd hnn
 go_enter Tryz.func157, Tryz.ntmps157
 go_upto_region 1 with (fail)
 rw [← hW1, ← hW2]
 replace hW1 := hi_ hW1
 replace hW2 := hi_ hW2
 go_upto_region 2 with (first
  | (go_at_call 188; (with_reducible refine c66.mono ?_); rintro e' w3 ⟨us, rfl, hI, hB3⟩; obtain ⟨⟨A', c', AL', cL', AD0, cD0, hus⟩, hI3⟩ := hollow hI.ob; subst hus; replace hB3 := hi_ hB3; replace hI3 := hi_ hI3; clear hI c66))
 obtain ⟨W4, hW4, hb4⟩ := newA w3 32 #[.int .i64 7, .int .i64 0, .slice A' 0 c', .slice AL' 0 cL', .slice AD0 0 cD0]
 rw [← hW4]
 have hD4 : Below W2.heap.size W2 W4 := bthen hB3.out hb4
 have hP4 : Blk W4 w3.heap.size 32 #[.int .i64 7, .int .i64 0, .slice A' 0 c', .slice AL' 0 cL', .slice AD0 0 cD0] := by rw [hW4]; exact Blk.new w3 32 _
 replace hP4 := hi_ hP4
 have z3 := hB3.out.size
 have z4 : W4.heap.size = w3.heap.size + 1 := by rw [hW4, World.size_alloc]
 obtain ⟨g0, g1, g2, g3, g4⟩ := five_kept f.out hD4
 have d65 := c65.out W4
 refine h3_ hb4 hD4 hW4 ?_; clear hb4 hD4 hW4; intro hb4 hD4 hW4
 clear f0 f1 f2 f3 f4
 obtain ⟨P, hP⟩ : ∃ p, p = w3.heap.size := ⟨_, rfl⟩
 rw [← hP] at hP4 z3 z4 ⊢
 replace hP := hi_ hP
 go_upto_region 4 with (first
  | (go_at_call 163; (with_reducible refine d65.mono ?_); rintro e' w5 ⟨rfl, hB5⟩; have hD5 := bthen hD4.out hB5; have hP5 := hP4.out.below hB5 (by omega); have z5 := hB5.size; replace hB5 := hi_ hB5; replace hD5 := hi_ hD5; replace hP5 := hi_ hP5; clear d65))
 clear g0 g1 g2 g3 g4
 go_wp2
 go_loopw [16] (fun s16 wr => ∃ (j : Nat) (vD : Value), j ≤ n ∧ s16 = .int .i64 j ∧ Blk wr P 32 #[.int .i64 7, .int .i64 0, .slice A' 0 c', .slice AL' 0 cL', vD] ∧ ObI (P + 1) wr.heap.size wr (.mk 7 0 [] [] (foldE (es.take j))) [.int .i64 7, .int .i64 0, .slice A' 0 c', .slice AL' 0 cL', vD] ∧ Below W2.heap.size W2 wr) (fun s16 _ => n - (RowKit.intOf s16).toNat)
 case atStart => exact ⟨0, _, by omega, rfl, hP5.out, hI3.out w5 _ _ (Nat.le_refl _), hD5.out⟩
 case round =>
  obtain ⟨j, vD, hj, rfl, hPb, hIb, hD⟩ := hrel
  clear hP5 hP4 hD5 hD4 hB5 hb4
  have hPl := hPb.lt
  by_cases hjm : j < n
  ·have hjl : j < es.length := by rw [← hnn.out]; exact hjm
   have hAe := hA.out (by omega)
   subst hAe
   have hbw : Below w.heap.size w wr := bthen hb2.out hD
   have hfn := fold_no hjl hnd.out
   have hfl := foldE_len (es.take j)
   rw [List.length_take] at hfl
   obtain ⟨e, he⟩ : ∃ e, e = es[j] := ⟨_, rfl⟩
   have hT : foldE (es.take (j + 1)) = putE e.1 e.2 (foldE (es.take j)) := by rw [List.take_succ_eq_append_getElem hjl, ← he, foldE_snoc]
   have hob1 := (hob.out j hjl).kept hbw
   have hky1 := hky.out j hjl
   have hcv1 := hcv.out j hjl
   have hzo := hbk.out es[j] (List.getElem_mem hjl)
   rw [← he] at hob1 hky1 hzo hfn
   obtain ⟨us0, hus0⟩ : ∃ us, us = ve j := ⟨_, rfl⟩
   rw [← hus0] at hob1 hcv1
   obtain ⟨en, E1, E2, E3, en1, ec1, en2, ec2, en3, ec3, hys⟩ := ob_five2 hob1
   obtain ⟨kk, hkk⟩ : ∃ k, k = e.2.kind := ⟨_, rfl⟩
   rw [← hkk] at hys
   subst hys
   obtain ⟨D, hDd⟩ : ∃ D, D = foldE (es.take j) := ⟨_, rfl⟩
   rw [← hDd] at hT hfn hfl hIb
   obtain ⟨K, hK⟩ : ∃ K, K = bytes e.1 := ⟨_, rfl⟩
   have hKd : K.data.toList = e.1 := by rw [hK]; rfl
   have x0 : wr.cell? ⟨gE, oE + j * 6, none⟩ = some (.string K) := by
    have h1 := (hbw.cell (cell_lt hky1.2)).trans hky1.2
    rw [Nat.mul_comm] at h1
    rw [h1, hK]; rfl
   have five : ∀ q u, [Value.int .i64 kk, .int .i64 en, .slice E1 en1 ec1, .slice E2 en2 ec2, .slice E3 en3 ec3][q]? = some u → wr.cell? ⟨gE, oE + j * 6 + 1 + q, none⟩ = some u := fun q u hq => by
    have h0 := hcv1 q (by have := (List.getElem?_eq_some_iff.1 hq).1; simpa using this)
    rw [hq] at h0
    have h1 := (hbw.cell (cell_lt h0)).trans h0
    rw [show oE + (6 * j + 1 + q) = oE + j * 6 + 1 + q by omega] at h1
    exact h1
   have x1 : wr.cell? ⟨gE, oE + j * 6 + 1, none⟩ = some (.int .i64 kk) := five 0 _ rfl
   have x2 : wr.cell? ⟨gE, oE + j * 6 + 2, none⟩ = some (.int .i64 en) := five 1 _ rfl
   have x3 : wr.cell? ⟨gE, oE + j * 6 + 3, none⟩ = some (.slice E1 en1 ec1) := five 2 _ rfl
   have x4 : wr.cell? ⟨gE, oE + j * 6 + 4, none⟩ = some (.slice E2 en2 ec2) := five 3 _ rfl
   have x5 : wr.cell? ⟨gE, oE + j * 6 + 5, none⟩ = some (.slice E3 en3 ec3) := five 4 _ rfl
   obtain ⟨W6, hW6, hb6⟩ := newA wr 91 #[.string K, .int .i64 kk, .int .i64 en, .slice E1 en1 ec1, .slice E2 en2 ec2, .slice E3 en3 ec3]
   have z6 : W6.heap.size = wr.heap.size + 1 := by rw [hW6, World.size_alloc]
   have hD6 : Below W2.heap.size W2 W6 := bthen hD hb6
   have hP6 := hPb.below hb6 hPl
   have p4 := hP6.cell 4
   obtain ⟨y0, y1, y2, y3, y4, y5⟩ := six_cells hW6
   have hob6 := hob1.kept hb6
   have ck := fun W (hW : Below W6.heap.size W6 W) => cos_Pair e.2 _ W (hob6.kept hW) hzo K
   have hws : ∃ AD m cD, vD = .slice AD m cD := by
    obtain ⟨_, _, AD, _, _, cD, _, _, _, hv, _⟩ := ObI.ents hIb
    simp only [List.cons.injEq, and_true, true_and] at hv
    exact ⟨AD, _, cD, hv.2.2⟩
   obtain ⟨AD, m, cD, hvD⟩ := hws
   subst hvD
   clear five hcv1 hob1 hob6
   refine h9_ hPb hIb hD he hT hfn hfl hky1 hus0 ?_; clear hPb hIb hD he hT hfn hfl hky1 hus0; intro hPb hIb hD he hT hfn hfl hky1 hus0
   refine h9_ hkk hDd hK hKd hbw hb6 hD6 hP6 ck ?_; clear hkk hDd hK hKd hbw hb6 hD6 hP6 ck; intro hkk hDd hK hKd hbw hb6 hD6 hP6 ck
   replace hzo := hi_ hzo
   go_upto_region 7 with (fail)
   rw [← hW6]
   replace hW6 := hi_ hW6
   clear x0 x1 x2 x3 x4 x5
   refine wp_lin_tail (by kernel_rfl) [none, none, none, none, none, none, none, none, none, none, none, none, none, none, none, none, none, none, none, none, some 0, some 1, some 2, some 3, some 4, some 5, some 6, some 7, some 8, some 9, some 10, none, none, none, none] (fun w' => Below W6.heap.size W6 w') (fun w' w'' => Below w'.heap.size w' w'') (GSn P wr.heap.size (.slice AD m cD) K kk #[.int .i64 kk, .int .i64 en, .slice E1 en1 ec1, .slice E2 en2 ec2, .slice E3 en3 ec3] W6.heap.size e.2) (by rfl) (by kernel_rfl) 11 _ rfl (by decide) (by kernel_rfl) [1, 11, 3, 6, 5, 6, 11, 8, 9, 10, 11, 0] (by kernel_rfl) ?hR ?mono (.cons 10 (step_of [9] rfl (by kernel_rfl) ?s10) (.cons 9 (step_of [8] rfl (by kernel_rfl) ?s9) (.cons 8 (step_of [7] rfl (by kernel_rfl) ?s8) (.cons 7 (step_of [] rfl (by kernel_rfl) ?s7) (.cons 6 (step_of [3, 5] rfl (by kernel_rfl) ?s6) (.cons 5 (step_of [4] rfl (by kernel_rfl) ?s5) (.cons 4 (step_of [] rfl (by kernel_rfl) ?s4) (.cons 3 (step_of [2] rfl (by kernel_rfl) ?s3) (.cons 2 (step_of [] rfl (by kernel_rfl) ?s2) (.cons 1 (step_of [0] rfl (by kernel_rfl) ?s1) (.cons 0 (step_of [] rfl (by kernel_rfl) ?s0) (.nil)))))))))))) ?done
   case hR => exact (Below.refl _ _).drew
   case mono => exact GSn_mono
   case s0 =>
    intro x w' hRw hd K' hK
    simp only [All, GSn] at hd
    simp +decide only [upd, GSn, fillL, if_true, if_false] at hK ⊢
    go_simp
    have hK2 := hK _ _ ⟨hRw, Below.refl _ _, rfl⟩
    exact hK2
   case s1 =>
    intro x w' hRw hd K' hK
    simp only [All, GSn] at hd
    have tp4 := (hRw.cell (cell_lt p4)).trans p4
    simp +decide only [upd, GSn, fillL, if_true, if_false] at hK ⊢
    try simp only [hd.1] at hK ⊢
    go_simp
    have hK2 := hK _ _ ⟨hRw, Below.refl _ _, rfl⟩
    exact hK2
   case s2 =>
    intro x w' hRw hd K' hK
    simp only [All, GSn] at hd
    simp +decide only [upd, GSn, fillL, if_true, if_false] at hK ⊢
    go_simp
    have hK2 := hK _ _ ⟨hRw, Below.refl _ _, rfl⟩
    exact hK2
   case s3 =>
    intro x w' hRw hd K' hK
    simp only [All, GSn] at hd
    have ty0 := (hRw.cell (cell_lt y0)).trans y0
    simp +decide only [upd, GSn, fillL, if_true, if_false] at hK ⊢
    try simp only [hd.1] at hK ⊢
    go_simp
    have hK2 := hK _ _ ⟨hRw, Below.refl _ _, rfl⟩
    exact hK2
   case s4 =>
    intro x w' hRw hd K' hK
    simp only [All, GSn] at hd
    simp +decide only [upd, GSn, fillL, if_true, if_false] at hK ⊢
    go_simp
    have hK2 := hK _ _ ⟨hRw, Below.refl _ _, rfl⟩
    exact hK2
   case s5 =>
    intro x w' hRw hd K' hK
    simp only [All, GSn] at hd
    have ty1 := (hRw.cell (cell_lt y1)).trans y1
    have ty2 := (hRw.cell (cell_lt y2)).trans y2
    have ty3 := (hRw.cell (cell_lt y3)).trans y3
    have ty4 := (hRw.cell (cell_lt y4)).trans y4
    have ty5 := (hRw.cell (cell_lt y5)).trans y5
    simp +decide only [upd, GSn, fillL, if_true, if_false] at hK ⊢
    try simp only [hd.1] at hK ⊢
    go_simp
    have hK2 := hK _ _ ⟨hRw, Below.refl _ _, rfl⟩
    exact hK2
   case s6 =>
    intro x w' hRw hd K' hK
    simp only [All, GSn] at hd
    simp +decide only [upd, GSn, fillL, if_true, if_false] at hK ⊢
    try simp only [hd.1, hd.2.1] at hK ⊢
    go_simp
    refine (ck.out w' hRw).mono ?_
    rintro e' w2 ⟨us, rfl, hI6, hB6⟩
    have hK2 := hK _ _ ⟨bthen hRw hB6, hB6, us, w'.heap.size, w2.heap.size, rfl, hRw.size, hI6⟩
    exact hK2
   case s7 =>
    intro x w' hRw hd K' hK
    simp only [All, GSn] at hd
    simp +decide only [upd, GSn, fillL, if_true, if_false] at hK ⊢
    go_simp
    have hK2 := hK _ _ ⟨hRw, Below.refl _ _, rfl⟩
    exact hK2
   case s8 =>
    intro x w' hRw hd K' hK
    simp only [All, GSn] at hd
    simp +decide only [upd, GSn, fillL, if_true, if_false] at hK ⊢
    try simp only [hd.1] at hK ⊢
    go_simp
    have hK2 := hK _ _ ⟨hRw, Below.refl _ _, rfl⟩
    exact hK2
   case s9 =>
    intro x w' hRw hd K' hK
    simp only [All, GSn] at hd
    have ty1 := (hRw.cell (cell_lt y1)).trans y1
    simp +decide only [upd, GSn, fillL, if_true, if_false] at hK ⊢
    try simp only [hd.1] at hK ⊢
    go_simp
    have hK2 := hK _ _ ⟨hRw, Below.refl _ _, rfl⟩
    exact hK2
   case s10 =>
    intro x w' hRw hd K' hK
    simp only [All, GSn] at hd
    simp +decide only [upd, GSn, fillL, if_true, if_false] at hK ⊢
    try simp only [hd.1] at hK ⊢
    go_simp
    have hK2 := hK _ _ ⟨hRw, Below.refl _ _, rfl⟩
    exact hK2
   case done =>
    intro x w7 hR2' hG fr hfr
    have a1 := hG 1 (by omega)
    have a6 := hG 6 (by omega)
    have a10 := hG 10 (by omega)
    simp only [GSn] at a1 a6 a10
    clear hG
    obtain ⟨us6, lo6, hi6, a6, hlo6, hI6⟩ := a6
    simp only [fillL] at hfr
    rw [a1, a6, a10] at hfr
    subst hfr
    clear a1 a6 a10
    have hD7 : Below W2.heap.size W2 w7 := bthen hD6.out hR2'
    have hr7 : Below wr.heap.size wr w7 := bthen hb6.out hR2'
    have z7 := hr7.size
    have z67 := hR2'.size
    have c72 := srt_ob (w := w7) (lo := P + 1) (hi := wr.heap.size) K (hIb.out.keep (fun q _ hq => hr7.block q hq) (by omega)) hI6 (by omega) (by omega) (by rw [hKd.out]; exact hfn.out) (by rw [hKd.out]; exact hky1.out.1) (by have := hfl.out; omega) (kk != 0) (by rw [hkk.out])
    rw [hKd.out] at c72
    have hPq : Blk w7 P 32 #[.int .i64 7, .int .i64 0, .slice A' 0 c', .slice AL' 0 cL', .slice AD m cD] := hP6.out.below hR2' (by omega)
    refine h3_ hPq hD7 hr7 ?_; clear hPq hD7 hr7; intro hPq hD7 hr7
    replace hR2' := hi_ hR2'
    clear p4 y0 y1 y2 y3 y4 y5 hI6
    obtain ⟨bk, hbk9⟩ : ∃ q, q = (kk != 0) := ⟨_, rfl⟩
    rw [← hbk9] at c72 ⊢
    replace hbk9 := hi_ hbk9
    go_wp2_with (first
     | (go_at_call 189; (with_reducible refine c72.mono ?_); rintro e' w8 ⟨A8, cc8, rfl, hI8, hB8⟩; have hPb8 := hPq.out.below hB8 (by omega); have p4 := hPb8.cell 4; have v4 := hPb8.frozen 4; have z8 := hB8.size; replace hPb8 := hi_ hPb8; replace hB8 := hi_ hB8; replace hI8 := hi_ hI8; clear c72))
    go_roundw
    case rel =>
     refine ⟨j + 1, _, by omega, by go_num, hPb8.out.set_ 4 _, ?_, ?_⟩
     ·rw [hT.out]
      have hg := set_grown w8 P 4 (.slice A8 (putE e.1 e.2 D).length cc8)
      exact (hI8.out.keep (fun q h1 h2 => hg.block q h2 (by intro e; injection e with e; omega)) hg.size) |> fun h => by
       have hz9 : (w8.setCell ⟨P, 4, none⟩ (.slice A8 (putE e.1 e.2 D).length cc8)).heap.size = w8.heap.size := by simp [World.setCell]
       rw [hz9]; exact h
     ·exact (bthen hD7.out hB8.out).grown (set_grown _ _ _ _) (by have := hD7.out.size; omega) (fun q hq => by injection hq with hq; omega)
    case measure => simp [RowKit.intOf]; omega
  ·obtain rfl : j = n := by omega
   have hT : es.take j = es := by rw [hnn.out, List.take_length]
   rw [hT] at hIb
   obtain ⟨p0, p1, p2, p3, p4, -⟩ := hPb.b5
   have hRb := hR2.out.below hD (by omega)
   obtain ⟨r0, r1, r2, r3, r4, v0, v1, v2, v3, v4⟩ := hRb.b5
   have hws : ∃ AD m cD, vD = .slice AD m cD := by
    obtain ⟨_, _, AD, _, _, cD, _, _, _, hv, _⟩ := ObI.ents hIb
    simp only [List.cons.injEq, and_true, true_and] at hv
    exact ⟨AD, _, cD, hv.2.2⟩
   obtain ⟨AD, m, cD, hvD⟩ := hws
   subst hvD
   refine h5_ hRb hPb hIb hD hT ?_; clear hRb hPb hIb hD hT; intro hRb hPb hIb hD hT
   go_wp2
   generalize hWf : World.setCell _ _ _ = Wf
   replace hWf := hWf.symm
   obtain ⟨hbf, hgf, hzf⟩ := set_five hRb.out hWf
   obtain ⟨u0, u1, u2, u3, u4, -⟩ := hbf.b5
   have hobf : ObI w.heap.size Wf.heap.size Wf (.mk 7 0 [] [] (foldE es)) [.int .i64 7, .int .i64 0, .slice A' 0 c', .slice AL' 0 cL', .slice AD m cD] := by
    rw [hzf]
    exact (hIb.out.keep (fun q h1 h2 => hgf.block q h2 (by intro e; injection e with e; omega)) (by omega)).wide (by omega)
   have hBf : Below w.heap.size w Wf := (bthen hb2.out hD.out).grown hgf (by have := (bthen hb2.out hD.out).size; omega) (fun q hq => by injection hq with hq; omega)
   replace hobf := hi_ hobf
   replace hBf := hi_ hBf
   clear hbf hgf p0 p1 p2 p3 p4 v0 v1 v2 v3 v4 r0 r1 r2 r3 r4
   replace hWf := hi_ hWf
   exact bodyPost_ret (by simp [results, Tryz.results157, go_sem, u0, u1, u2, u3, u4]; try rfl) rfl ⟨[.int .i64 7, .int .i64 0, .slice A' 0 c', .slice AL' 0 cL', .slice AD m cD], rfl, hobf.out, hBf.out⟩
end
section
open Go Go.RowKit Go.Wk Go.Rd Go.Fx Go.Maps
theorem cos_Dict (w : World) (es : List (Bs × Ob)) (A : Option Addr) (gE oE cE : Nat) (ve : Nat → List Value) (hA : 0 < es.length → A = some ⟨gE, oE, none⟩)
 (hob : ∀ i (h : i < es.length), ObAt w es[i].2 (ve i)) (hky : ∀ i (h : i < es.length), es[i].1.length ≤ maxLen ∧ w.cell? ⟨gE, oE + 6 * i, none⟩ = some (strV es[i].1))
 (hcv : ∀ i, i < es.length → ∀ j, j < 5 → w.cell? ⟨gE, oE + (6 * i + 1 + j), none⟩ = (ve i)[j]?) (hbk : ∀ e ∈ es, e.2.bulk ≤ 100000000) (hn : es.length ≤ 100000000) (hnd : (es.map (·.1)).Nodup) :
 Calls Tryz.prog 125 #[.slice A es.length cE] w fun e w' => ∃ us, e = .returned (.agg (List.toArray us)) ∧ ObI w.heap.size w'.heap.size w' (.mk 7 0 [] [] (foldE es)) us ∧ Below w.heap.size w w' := by
 obtain ⟨W1, hW1, b1⟩ := newA w 32 #[.int .i64 0, .int .i64 0, .slice none 0 0, .slice none 0 0, .slice none 0 0]
 have z1 : W1.heap.size = w.heap.size + 1 := by rw [hW1, World.size_alloc]
 have hT : Blk W1 w.heap.size 32 #[.int .i64 0, .int .i64 0, .slice none 0 0, .slice none 0 0, .slice none 0 0] := by rw [hW1]; exact Blk.new w 32 _
 have cS := cos_SetN W1 es A gE oE cE ve hA (fun i h => (hob i h).kept b1) (fun i h => ⟨(hky i h).1, (b1.cell (cell_lt (hky i h).2)).trans (hky i h).2⟩)
  (fun i hi j hj => by
   have h9 := hcv i hi j hj
   obtain ⟨u, hu⟩ : ∃ u, (ve i)[j]? = some u := ⟨_, List.getElem?_eq_getElem (by rw [(hob i hi).five]; exact hj)⟩
   rw [hu] at h9 ⊢
   exact (b1.cell (cell_lt h9)).trans h9) hbk hn hnd
 obtain ⟨n, hnn⟩ : ∃ n, n = es.length := ⟨_, rfl⟩
 rw [← hnn] at cS ⊢
 refine h3_ hnn hT b1 ?_; clear hnn hT b1; intro hnn hT b1
 clear hA hob hky hcv hbk hn hnd
 go_enter Tryz.func125, Tryz.ntmps125
 go_upto_region 1 with (fail)
 rw [← hW1]
 replace hW1 := hi_ hW1
 go_wp2_with (go_at_call 157; (with_reducible refine cS.mono ?_); rintro e w2 ⟨us, rfl, hI, hB⟩; obtain ⟨xk, xn, F1, F2, F3, fn1, fc1, fn2, fc2, fn3, fc3, rfl⟩ := five_exL hI.ob; have hT2 := hT.out.below hB (by omega); obtain ⟨z0, z11, z2, z3, z4, v0, v1, v2, v3, v4⟩ := hT2.b5; replace hT2 := hi_ hT2; replace hI := hi_ hI; replace hB := hi_ hB; clear cS)
 generalize hWf : World.setCell _ _ _ = Wf
 replace hWf := hWf.symm
 obtain ⟨hb, hg, hz⟩ := set_five hT2.out hWf
 obtain ⟨u0, u1, u2, u3, u4, -⟩ := hb.b5
 have hIf := hi_ (show ObI w.heap.size Wf.heap.size Wf (.mk 7 0 [] [] (foldE es)) [.int .i64 xk, .int .i64 xn, .slice F1 fn1 fc1, .slice F2 fn2 fc2, .slice F3 fn3 fc3] from by
  rw [hz]
  exact (hI.out.keep (fun q h1 h2 => hg.block q h2 (by intro e; injection e with e; omega)) (by omega)).wide (by omega))
 have hBf := hi_ ((bthen b1.out hB.out).grown hg (by have := hB.out.size; omega) (fun q hq => by injection hq with hq; omega))
 replace hg := hi_ hg
 replace hWf := hi_ hWf
 clear hb z0 z11 z2 z3 z4 v0 v1 v2 v3 v4
 exact bodyPost_ret (by simp [results, Tryz.results125, go_sem, u0, u1, u2, u3, u4]; try rfl) rfl ⟨_, rfl, hIf.out, hBf.out⟩
theorem lawS : Keyed Tryz.prog 9 := string_keyed Tryz.underlying9
theorem zeroU (w : World) : (zeroValue 168).run Tryz.prog w = .ok (.agg #[]) w := by kernel_rfl
theorem om_keep {w w' : World} {P : Program} {k : TypeId} {R : Value → Option (DataW Unit × List MemPlace)} {b n : Nat} {D : DataW Unit} (h : w.ownsMap P k R b n D) (hb : w'.heap[b]? = w.heap[b]?) : w'.ownsMap P k R b n D := by
 obtain ⟨es, clock, h1, h2⟩ := h
 exact ⟨es, clock, hb.trans h1, h2⟩
def keysD (ks : List Bs) : DataW Unit := setOf (.agg []) (ks.map Lit.string)
theorem any_str (x : Bs) : ∀ l : List Bs, l.any ((fun y : Lit => y.sameKey (.string x)) ∘ Lit.string) = l.contains x
 | [] => rfl
 | a :: r => by
  rw [List.any_cons, List.contains_cons, any_str x r]
  congr 1
  show (a == x) = (x == a)
  exact BEq.comm
theorem has_keys (ks : List Bs) (x : Bs) : Maps.has (keysD ks) (.string x) = ks.contains x := by
 unfold keysD
 rw [has_setOf _ _ _ (fun y hy => by obtain ⟨_, _, rfl⟩ := List.mem_map.1 hy; trivial), List.any_map]
 exact any_str x _
theorem keys_snoc (ks : List Bs) (x : Bs) : keysD (ks ++ [x]) = (keysD ks).put (.string x) (.agg []) := by
 unfold keysD
 rw [List.map_append, List.map_singleton, setOf_snoc]
theorem keys_nil : keysD [] = .map [] := rfl
structure DS (W : World) (P L R : Nat) (A : Option Addr) (c : Nat) (bs : Bs) (d : Nat) (pl : Bool) (ks : List Bs) (es : List (Bs × Ob)) (vL : Value) (rl : List (List Value)) (X : World) (r : Bs) : Prop where
 ps : PS P L R A c bs d pl X r
 fr : Fr L R W X
 bT : Blk X W.heap.size 32 #[.int .i64 0, .int .i64 0, .slice none 0 0, .slice none 0 0, .slice none 0 0]
 mp : X.ownsMap Tryz.prog 9 unitElem (W.heap.size + 1) ks.length (keysD ks)
 rows : RowG EnI 91 6 (W.heap.size + 2) X vL es rl
 lL : L < W.heap.size
 lR : R < W.heap.size
 lP : P < W.heap.size
 off : 0 < bs.length → ∀ x, A = some x → x.block < W.heap.size
 sz : W.heap.size + 2 ≤ X.heap.size
section
variable {P L R : Nat} {A : Option Addr} {c : Nat} {bs : Bs} {d dd : Nat} {pl : Bool} {W X X' w w' : World} {r r' u v : Bs} {k s : Tok} {ks : List Bs} {es : List (Bs × Ob)} {vL : Value} {rl : List (List Value)}
theorem DS.to (h : DS W P L R A c bs d pl ks es vL rl X r) (hP : PS P L R A c bs d pl X' r') (hF : Fr L R X X') : DS W P L R A c bs d pl ks es vL rl X' r' :=
 ⟨hP, h.fr.trans hF, hF.blk (by have := h.lL; omega) (by have := h.lR; omega) h.bT, om_keep h.mp (hF.block _ (by have := h.sz; omega) (by have := h.lL; omega) (by have := h.lR; omega)),
  h.rows.far en_law (fun k h1 h2 => hF.block k h2 (by have := h.lL; omega) (by have := h.lR; omega)) hF.size, h.lL, h.lR, h.lP, h.off, Nat.le_trans h.sz hF.size⟩
theorem DS.belowW (h : DS W P L R A c bs d pl ks es vL rl X r) (hb : Below X.heap.size X X') : DS W P L R A c bs d pl ks es vL rl X' r := h.to (h.ps.belowW hb) (Fr.of_below hb)
theorem DS.key (h : DS W P L R A c bs d pl ks es vL rl X r) {K : Bs} (hm : X'.ownsMap Tryz.prog 9 unitElem (W.heap.size + 1) (ks.length + 1) ((keysD ks).put (.string K) (.agg []))) (hg : X.grownBy X' (some (W.heap.size + 1))) : DS W P L R A c bs d pl (ks ++ [K]) es vL rl X' r :=
 ⟨h.ps.grownL hg (by have := h.lL; omega) (by have := h.lR; omega) (by have := h.lP; omega) (fun h0 x hx => by have := h.off h0 x hx; omega), h.fr.grownL hg (by omega),
  (hg.block _ (by have := h.sz; omega) (by intro e; injection e with e; omega)).trans h.bT, by rw [keys_snoc, List.length_append]; exact hm,
  h.rows.far en_law (fun k h1 h2 => hg.block k h2 (by intro e; injection e with e; omega)) hg.size, h.lL, h.lR, h.lP, h.off, Nat.le_trans h.sz hg.size⟩
theorem DS.row (h : DS W P L R A c bs d pl ks es vL rl X r) {es' : List (Bs × Ob)} {v' : Value} {rl' : List (List Value)} (hR : RowG EnI 91 6 (W.heap.size + 2) X' v' es' rl') (hg : X.grownBy X' vL.ownBlock) : DS W P L R A c bs d pl ks es' v' rl' X' r := by
 have hB : Below (W.heap.size + 2) X X' := (Below.refl _ _ |>.mono h.sz).grown hg h.sz (fun k hk => (h.rows.row.lt k hk).1)
 exact ⟨h.ps.below hB (by have := h.lL; omega) (by have := h.lR; omega) (by have := h.lP; omega) (fun h0 x hx => by have := h.off h0 x hx; omega), h.fr.thenB (hB.mono (by omega)), h.bT.below hB (by omega), om_keep h.mp (hB.block _ (by omega)), hR, h.lL, h.lR, h.lP, h.off, Nat.le_trans h.sz hB.size⟩
theorem DS.shape (h : DS W P L R A c bs d pl ks es vL rl X r) : ∃ A c, vL = .slice A es.length c := by
 obtain ⟨A, c, g, rfl, _⟩ := h.rows.out en_law (by omega)
 exact ⟨A, c, rfl⟩
theorem bulkD_mem {d : List (Bs × Ob)} {e : Bs × Ob} (h : e ∈ d) : e.1.length + e.2.bulk + 1 ≤ bulkD d := by
 obtain ⟨i, hi, rfl⟩ := List.getElem_of_mem h
 exact bulkD_at d i hi
theorem DS.ents {A2 : Option Addr} {n c2 : Nat} (h : DS W P L R A c bs d pl ks es (.slice A2 n c2) rl X r) (hbk : ∀ e ∈ es, e.2.bulk ≤ 100000000) (hn : es.length ≤ 100000000) (hnd : (es.map (·.1)).Nodup) :
 Calls Tryz.prog 125 #[.slice A2 n c2] X fun e w' => ∃ us, e = .returned (.agg (List.toArray us)) ∧ ObI X.heap.size w'.heap.size w' (.mk 7 0 [] [] (foldE es)) us ∧ Below X.heap.size X w' := by
 obtain ⟨A', c', g', e', i1, i2, i3, i4, i5⟩ := h.rows.out en_law (by omega)
 injection e' with e1 e2 e3
 subst e1 e2 e3
 have hen : ∀ i (hi : i < es.length), ∃ us, rl.getD i [] = strV es[i].1 :: us ∧ es[i].1.length ≤ maxLen ∧ ObAt X es[i].2 us := fun i hi => by
  obtain ⟨⟨lo, hi', us, e1, e2, e3⟩, _⟩ := i5 i hi
  exact ⟨us, e1, e2, e3.ob⟩
 refine cos_Dict X es _ g' 0 _ (fun i => (rl.getD i []).drop 1) i3 (fun i hi => ?_) (fun i hi => ?_) (fun i hi j hj => ?_) hbk hn hnd
 ·obtain ⟨us, e1, e2, e3⟩ := hen i hi
  show ObAt X es[i].2 ((rl.getD i []).drop 1)
  rw [e1]; exact e3
 ·obtain ⟨us, e1, e2, e3⟩ := hen i hi
  have := (i5 i hi).2 0 (by omega)
  rw [e1] at this
  exact ⟨e2, this⟩
 ·have := (i5 i hi).2 (1 + j) (by omega)
  show _ = ((rl.getD i []).drop 1)[j]?
  rw [List.getElem?_drop, ← this]
  congr 2
  omega
theorem px_dict (hv : ValCP pl dd) (hsm6 : bs.length ≤ 100000000) (W : World) (h : PS P L R A c bs d pl W r) : Calls Tryz.prog 95 #[.pointer (some ⟨P, 0, none⟩), .int .i64 (dd : Nat)] W (ValP P L R A c bs d pl W (match dictS (valS pl dd) (r.length + 1) [] [] r with | .ok l v => .ok (.mk 7 0 [] [] l) v | .err e v => .err e v)) := by
 obtain ⟨W1, hW1⟩ : ∃ W1, W1 = W.alloc (.cells #[.int .i64 0, .int .i64 0, .slice none 0 0, .slice none 0 0, .slice none 0 0] 32) := ⟨_, rfl⟩
 obtain ⟨W2, hW2⟩ : ∃ W2, W2 = W1.alloc (.map #[] 0) := ⟨_, rfl⟩
 have hb1 : Below W.heap.size W W1 := by rw [hW1]; exact (Below.refl _ _).alloc (Nat.le_refl _) _
 have z1 : W1.heap.size = W.heap.size + 1 := by rw [hW1, World.size_alloc]
 have hb12 : Below W1.heap.size W1 W2 := by rw [hW2]; exact (Below.refl _ _).alloc (Nat.le_refl _) _
 have hb2 : Below W.heap.size W W2 := bthen hb1 hb12
 have z2 : W2.heap.size = W.heap.size + 2 := by rw [hW2, World.size_alloc, z1]
 have hR1 : Blk W2 W.heap.size 32 #[.int .i64 0, .int .i64 0, .slice none 0 0, .slice none 0 0, .slice none 0 0] := (by rw [hW1]; exact Blk.new W _ _ : Blk W1 W.heap.size 32 #[.int .i64 0, .int .i64 0, .slice none 0 0, .slice none 0 0, .slice none 0 0]).below hb12 (by omega)
 have hM1 : W2.ownsMap (H := Unit) Tryz.prog 9 unitElem (W.heap.size + 1) 0 (keysD []) := by rw [hW2, ← z1, keys_nil]; exact World.ownsMap_made _ _ _ _
 have hA : DS W P L R A c bs d pl [] [] (.slice none 0 0) [] W2 r := ⟨h.belowW hb2, Fr.of_below hb2, hR1, hM1, RowG.nil _ _ _ _ _, h.L_lt, h.R_lt, h.P_lt, h.a_lt, by omega⟩
 obtain ⟨K, hK⟩ : ∃ K, K = dictS (valS pl dd) (r.length + 1) [] [] r := ⟨_, rfl⟩
 rw [← hK]
 have hsm := h.small
 have hrb := suf_len h.suf
 have hmm := @run_makeMap Tryz.prog
 refine h6_ hK hA hv hsm hrb hsm6 ?_; clear hK hA hv hsm hrb hsm6; intro hK hA hv hsm hrb hsm6
 clear h hb1 z1 hb12 hb2 z2 hR1 hM1
 go_enter Tryz.func95, Tryz.ntmps95
 go_upto_region 3 with fail
 rw [← hW1, ← hW2]
 replace hW1 := hi_ hW1
 replace hW2 := hi_ hW2
 go_wp2
 go_loopw [7] (fun s7 wr => ∃ (f : Nat) (es : List (Bs × Ob)) (rl : List (List Value)) (r1 : Bs), DS W P L R A c bs d pl (es.map (·.1)) es s7 rl wr r1 ∧ dictS (valS pl dd) f (es.map (·.1)) (foldE es) r1 = K ∧ r1.length < f ∧ bulkD es + r1.length ≤ r.length ∧ (es.map (·.1)).Nodup) (fun _ wr => bs.length + 1 - posOf L wr)
 case atStart => exact ⟨_, [], _, r, hA.out, hK.out.symm, Nat.lt_succ_self _, by simp [bulkD], by simp⟩
 case round =>
  clear hA hK
  obtain ⟨f, es, rl, r1, hA, hE, hf, hacc, hnd⟩ := hrel
  obtain ⟨f, rfl⟩ : ∃ g, f = g + 1 := ⟨f - 1, by omega⟩
  have hbw : bs.length + 1 - posOf L wr = r1.length + 1 := by rw [hA.ps.posOf]; have := pos_len hA.ps.suf; have := pos_le bs r1; omega
  have hel := bulkD_len es
  have hes : es.length ≤ 100000000 := by have := hsm6.out; have := hrb.out; omega
  have heb : ∀ e ∈ es, e.2.bulk ≤ 100000000 := fun e he => by have h1 := bulkD_mem he; have := hsm6.out; have := hrb.out; omega
  have hu7 := hA.shape
  obtain ⟨AL, cL, hu7⟩ := hu7
  subst hu7
  have cD := fun X r2 (hX : DS W P L R A c bs d pl (es.map (·.1)) es (.slice AL es.length cL) rl X r2) => hX.ents heb hes hnd
  have hltG : ∀ g, (Value.slice AL es.length cL).ownBlock = some g → W.heap.size + 2 ≤ g ∧ g < wr.heap.size := fun g hg => ⟨(hA.rows.row.lt g hg).1, (hA.rows.row.lt g hg).2⟩
  have p0 := hA.ps.p0
  have q0 := hA.ps.q0
  obtain ⟨t0, t1, t2, t3, t4, f0, f1, f2, f3, f4⟩ := hA.bT.b5
  have hsuf := hA.ps.suf
  have hsufb := (blank_sufL false r1).trans hsuf
  obtain ⟨at1, ha1⟩ : ∃ a : Int, a = (pos bs (blankM false r1) : Nat) := ⟨_, rfl⟩
  have cst := fun (n : Int) => Lib.hid fun (r2 : Bs) W h => px_stop (P := P) (L := L) (R := R) (A := A) (c := c) (bs := bs) (d := d) (pl := pl) (r := r2) hsufb ha1 n W h
  obtain ⟨ks, hks⟩ : ∃ ks, ks = es.map (·.1) := ⟨_, rfl⟩
  rw [← hks] at hA hE hnd cD
  obtain ⟨m, hm⟩ : ∃ m, m = es.length := ⟨_, rfl⟩
  rw [← hm] at hltG cD hA ⊢
  have hmk : ks.length = m := by rw [hks, List.length_map, hm]
  refine h9_ hks hm hmk hsuf hsufb hel hes heb hA ?_; clear hks hm hmk hsuf hsufb hel hes heb hA; intro hks hm hmk hsuf hsufb hel hes heb hA
  refine h8_ hf hacc hbw hltG hE hnd cD cst ?_; clear hf hacc hbw hltG hE hnd cD cst; intro hf hacc hbw hltG hE hnd cD cst
  cases ht : tokS r1 with
  | err n u =>
   have ct := hi_ fun W h => px_err (P := P) (L := L) (R := R) (A := A) (c := c) (bs := bs) (d := d) (pl := pl) ht ha1 W h
   obtain rfl : K = .err n u := by rw [← hE.out, dictS, ht]
   clear hE ht cst
   replace ha1 := hi_ ha1
   go_upto_region 4 with (first | (go_at_call 82; (with_reducible refine (ct.out _ hA.out.ps).mono ?_); rintro e w4 ⟨hn0, rfl, hP2, hF2⟩; replace hA := hi_ (hA.out.to hP2 hF2); replace p0 := hA.out.ps.p0; replace q0 := hA.out.ps.q0; obtain ⟨t0, t1, t2, t3, t4, f0, f1, f2, f3, f4⟩ := hA.out.bT.b5; have hnb := bne_iff_ne.2 hn0; replace hn0 := hi_ hn0; clear hP2 hF2))
   obtain ⟨W5, hW5, b5, hU5⟩ := newB w4 108 #[.int .i64 0, .int .i64 at1, .int .i64 0, .slice none 0 0]
   rw [← hW5]
   have k50 := hU5.cell 0
   have k51 := hU5.cell 1
   have k53 := hU5.cell 3
   replace hA := hi_ (hA.out.belowW b5)
   replace p0 := hA.out.ps.p0; replace q0 := hA.out.ps.q0; obtain ⟨t0, t1, t2, t3, t4, f0, f1, f2, f3, f4⟩ := hA.out.bT.b5
   refine h3_ hU5 b5 hW5 ?_; clear hU5 b5 hW5; intro hU5 b5 hW5
   go_wp2
   generalize hWf : World.setCell _ _ _ = Wf
   replace hWf := hWf.symm
   obtain ⟨hb, hg⟩ := set5L hA.out.bT hWf
   obtain ⟨u0, u1, u2, u3, u4, -⟩ := hb.b5
   have hPf := hi_ (hA.out.ps.grownL hg (by have := hA.out.lL; omega) (by have := hA.out.lR; omega) (by have := hA.out.lP; omega) (fun h0 x hx => by have := hA.out.off h0 x hx; omega))
   have hFf := hi_ (hA.out.fr.grownL hg (Nat.le_refl _))
   replace hg := hi_ hg
   replace hWf := hi_ hWf
   clear hb t0 t1 t2 t3 t4 f0 f1 f2 f3 f4
   refine bodyPost_ret (by simp [results, Tryz.results95, go_sem, u0, u1, u2, u3, u4]; try rfl) rfl ?_
   exact ⟨hn0.out, rfl, hPf.out, hFf.out⟩
  | ok k u =>
   have ct := hi_ fun W h => px_ok (P := P) (L := L) (R := R) (A := A) (c := c) (bs := bs) (d := d) (pl := pl) ht ha1 W h
   replace ha1 := hi_ ha1
   obtain ⟨kk, hkk⟩ : ∃ x, x = k.k := ⟨_, rfl⟩
   rw [← hkk] at ct
   have htl := tok_len ht
   have hE2 := hE.out
   rw [dictS, ht] at hE2
   simp only [] at hE2
   rw [← hkk] at hE2
   clear hE ht
   replace hkk := hi_ hkk
   replace htl := hi_ htl
   by_cases hk8 : kk = 8
   ·obtain rfl : K = .ok (foldE es) u := by rw [← hE2, if_pos hk8]
    subst hk8
    clear hE2 cst
    go_upto_region 4 with (first | (go_at_call 82; (with_reducible refine (ct.out _ hA.out.ps).mono ?_); rintro e w4 ⟨a2, c2, rfl, hO, hP2, hF2⟩; replace hA := hi_ (hA.out.to hP2 hF2); replace p0 := hA.out.ps.p0; replace q0 := hA.out.ps.q0; obtain ⟨t0, t1, t2, t3, t4, f0, f1, f2, f3, f4⟩ := hA.out.bT.b5; replace hO := hi_ hO; clear hP2 hF2))
    obtain ⟨W5, hW5, b5, hU5⟩ := newB w4 108 #[.int .i64 8, .int .i64 at1, .int .i64 k.n, .slice a2 k.b.length c2]
    rw [← hW5]
    have k50 := hU5.cell 0
    have k51 := hU5.cell 1
    have k53 := hU5.cell 3
    replace hA := hi_ (hA.out.belowW b5)
    replace p0 := hA.out.ps.p0; replace q0 := hA.out.ps.q0; obtain ⟨t0, t1, t2, t3, t4, f0, f1, f2, f3, f4⟩ := hA.out.bT.b5
    refine h3_ hU5 b5 hW5 ?_; clear hU5 b5 hW5; intro hU5 b5 hW5
    have cd := cD.out W5 _ hA.out
    have hW5s := hA.out.sz
    go_wp2_with (go_at_call 125; (with_reducible refine cd.mono ?_); rintro e w7 ⟨us, rfl, hI, hB7⟩; obtain ⟨xk, xn, F1, F2, F3, fn1, fc1, fn2, fc2, fn3, fc3, rfl⟩ := five_exL hI.ob; replace hA := hi_ (hA.out.belowW hB7); replace p0 := hA.out.ps.p0; replace q0 := hA.out.ps.q0; obtain ⟨t0, t1, t2, t3, t4, f0, f1, f2, f3, f4⟩ := hA.out.bT.b5; replace hI := hi_ hI; replace hB7 := hi_ hB7; clear cd)
    generalize hWf : World.setCell _ _ _ = Wf
    replace hWf := hWf.symm
    obtain ⟨hb, hg⟩ := set5L hA.out.bT hWf
    obtain ⟨u0, u1, u2, u3, u4, -⟩ := hb.b5
    have hPf := hi_ (hA.out.ps.grownL hg (by have := hA.out.lL; omega) (by have := hA.out.lR; omega) (by have := hA.out.lP; omega) (fun h0 x hx => by have := hA.out.off h0 x hx; omega))
    have hFf := hi_ (hA.out.fr.grownL hg (Nat.le_refl _))
    replace hg := hi_ hg
    replace hWf := hi_ hWf
    clear hb t0 t1 t2 t3 t4 f0 f1 f2 f3 f4
    refine bodyPost_ret (by simp [results, Tryz.results95, go_sem, u0, u1, u2, u3, u4]; try rfl) rfl ?_
    have hz7 := hB7.out.size
    have hIf := (hI.out.keep (fun b hb1 hb2 => hg.out.block b hb2 (by intro e; injection e with e; omega)) hg.out.size).wide (lo' := W.heap.size) (by omega)
    have hIg : ObI W.heap.size Wf.heap.size Wf (.mk 7 0 [] [] (foldE es)) _ := ⟨Nat.le_refl _, fun w' h hz => hIf.2 w' (fun b h1 h2 => h b h1 (Nat.lt_of_lt_of_le h2 hIf.1)) (Nat.le_trans hIf.1 hz)⟩
    exact ⟨_, rfl, hIg, hPf.out, hFf.out⟩
   ·rw [if_neg hk8] at hE2
    by_cases hk0 : kk = 0
    ·obtain rfl : K = .err 2 (blankM false r1) := by rw [← hE2, if_pos hk0]
     have cs := cst.out 2
     subst hk0
     clear hE2 cst
     go_upto_region 4 with (first | (go_at_call 82; (with_reducible refine (ct.out _ hA.out.ps).mono ?_); rintro e w4 ⟨a2, c2, rfl, hO, hP2, hF2⟩; replace hA := hi_ (hA.out.to hP2 hF2); replace p0 := hA.out.ps.p0; replace q0 := hA.out.ps.q0; obtain ⟨t0, t1, t2, t3, t4, f0, f1, f2, f3, f4⟩ := hA.out.bT.b5; replace hO := hi_ hO; clear hP2 hF2))
     obtain ⟨W5, hW5, b5, hU5⟩ := newB w4 108 #[.int .i64 0, .int .i64 at1, .int .i64 k.n, .slice a2 k.b.length c2]
     rw [← hW5]
     have k50 := hU5.cell 0
     have k51 := hU5.cell 1
     have k53 := hU5.cell 3
     replace hA := hi_ (hA.out.belowW b5)
     replace p0 := hA.out.ps.p0; replace q0 := hA.out.ps.q0; obtain ⟨t0, t1, t2, t3, t4, f0, f1, f2, f3, f4⟩ := hA.out.bT.b5
     refine h3_ hU5 b5 hW5 ?_; clear hU5 b5 hW5; intro hU5 b5 hW5
     go_wp2_with (go_at_call 83; (with_reducible refine (cs.out _ _ hA.out.ps).mono ?_); rintro e w6 ⟨rfl, hP2, hF2⟩; replace hA := hi_ (hA.out.to hP2 hF2); replace p0 := hA.out.ps.p0; replace q0 := hA.out.ps.q0; obtain ⟨t0, t1, t2, t3, t4, f0, f1, f2, f3, f4⟩ := hA.out.bT.b5; clear hP2 hF2)
     generalize hWf : World.setCell _ _ _ = Wf
     replace hWf := hWf.symm
     obtain ⟨hb, hg⟩ := set5L hA.out.bT hWf
     obtain ⟨u0, u1, u2, u3, u4, -⟩ := hb.b5
     have hPf := hi_ (hA.out.ps.grownL hg (by have := hA.out.lL; omega) (by have := hA.out.lR; omega) (by have := hA.out.lP; omega) (fun h0 x hx => by have := hA.out.off h0 x hx; omega))
     have hFf := hi_ (hA.out.fr.grownL hg (Nat.le_refl _))
     replace hg := hi_ hg
     replace hWf := hi_ hWf
     clear hb t0 t1 t2 t3 t4 f0 f1 f2 f3 f4
     refine bodyPost_ret (by simp [results, Tryz.results95, go_sem, u0, u1, u2, u3, u4]; try rfl) rfl ?_
     exact ⟨by decide, rfl, hPf.out, hFf.out⟩
    ·rw [if_neg hk0] at hE2
     by_cases hk4 : kk = 4
     ·rw [if_neg (by simpa using hk4)] at hE2
      subst hk4
      have hbl : k.b.length ≤ 100000000 := by
       have h1 := htl.out
       have h2 := hkk.out
       have h3 := hacc.out
       have h4 := hrb.out
       have h5 := hsm6.out
       unfold tokW at h1
       rw [← h2] at h1
       simp at h1
       omega
      have hml : k.b.length ≤ maxLen := by unfold maxLen; omega
      have hlk : u.length + k.b.length + 1 ≤ r1.length := by
       have h1 := htl.out
       have h2 := hkk.out
       unfold tokW at h1
       rw [← h2] at h1
       simp at h1
       omega
      obtain ⟨S, hS⟩ : ∃ S, S = bytes k.b := ⟨_, rfl⟩
      have hSd : S.data.toList = k.b := by rw [hS]; rfl
      have hkey : keyOf Tryz.prog 9 (.string S) = some (.string k.b) := by
       rw [← hSd]
       exact Go.WideMaps.keyOf_string_mk Tryz.underlying9 (by show S.data.size ≤ _; rw [← Array.length_toList, hSd]; exact hml)
      have hkl : ks.length < maxLen := by rw [hmk.out, hm.out]; have := hes.out; unfold maxLen; omega
      have hhas := has_keys ks k.b
      obtain ⟨tw, htw⟩ : ∃ t, t = ks.contains k.b := ⟨_, rfl⟩
      rw [← htw] at hhas hE2
      refine h9_ hbl hml hlk hS hSd htw hhas hE2 hkl ?_; clear hbl hml hlk hS hSd htw hhas hE2 hkl; intro hbl hml hlk hS hSd htw hhas hE2 hkl
      refine h3_ hkey hk8 hk0 ?_; clear hkey hk8 hk0; intro hkey hk8 hk0
      go_upto_region 4 with (first | (go_at_call 82; (with_reducible refine (ct.out _ hA.out.ps).mono ?_); rintro e w4 ⟨a2, c2, rfl, hO, hP2, hF2⟩; replace hA := hi_ (hA.out.to hP2 hF2); replace p0 := hA.out.ps.p0; replace q0 := hA.out.ps.q0; obtain ⟨t0, t1, t2, t3, t4, f0, f1, f2, f3, f4⟩ := hA.out.bT.b5; replace hO := hi_ hO; clear hP2 hF2))
      obtain ⟨W5, hW5, b5, hU5⟩ := newB w4 108 #[.int .i64 4, .int .i64 at1, .int .i64 k.n, .slice a2 k.b.length c2]
      rw [← hW5]
      have k50 := hU5.cell 0
      have k51 := hU5.cell 1
      have k53 := hU5.cell 3
      replace hA := hi_ (hA.out.belowW b5)
      replace p0 := hA.out.ps.p0; replace q0 := hA.out.ps.q0; obtain ⟨t0, t1, t2, t3, t4, f0, f1, f2, f3, f4⟩ := hA.out.bT.b5
      refine h3_ hU5 b5 hW5 ?_; clear hU5 b5 hW5; intro hU5 b5 hW5
      replace hO := hi_ (hO.out.below b5.out)
      have hcv := conv_ownL hO.out
      rw [show (⟨k.b.toArray⟩ : ByteArray) = bytes k.b from rfl, ← hS.out] at hcv
      obtain ⟨kl, hkl2⟩ : ∃ n, n = k.b.length := ⟨_, rfl⟩
      rw [← hkl2] at hcv hU5 k53 ⊢
      replace hkl2 := hi_ hkl2
      go_upto_region 13 with fail
      have hhs := hhas.out
      go_upto_region 14 with (at_lookup; refine wpList_lookup_own_unit _ rfl _ _ 167 rfl 9 168 lawS Tryz.underlying167 (zeroU _) (W.heap.size + 1) ks.length (keysD ks) rfl hA.out.mp _ _ rfl hkey.out ?_; rw [hhs])
      obtain ⟨W6, hW6, b6⟩ := newA W5 168 #[]
      rw [← hW6]
      replace hA := hi_ (hA.out.belowW b6)
      replace p0 := hA.out.ps.p0; replace q0 := hA.out.ps.q0; obtain ⟨t0, t1, t2, t3, t4, f0, f1, f2, f3, -⟩ := hA.out.bT.b5; replace f4 := hA.out.bT.frozen 4;
      have hU6 := hU5.out.below b6 hU5.out.lt
      replace k51 := hU6.cell 1
      clear k50 k53 hU6
      replace hW6 := hi_ hW6
      replace b6 := hi_ b6
      cases tw with
      | true =>
       have hE3 := hE2.out
       rw [if_pos rfl] at hE3
       obtain rfl : K = .err 4 (blankM false r1) := hE3.symm
       have cs := cst.out 4
       clear hE3 hE2 cst
       go_wp2_with (go_at_call 83; (with_reducible refine (cs.out _ _ hA.out.ps).mono ?_); rintro e w6 ⟨rfl, hP2, hF2⟩; replace hA := hi_ (hA.out.to hP2 hF2); replace p0 := hA.out.ps.p0; replace q0 := hA.out.ps.q0; obtain ⟨t0, t1, t2, t3, t4, f0, f1, f2, f3, f4⟩ := hA.out.bT.b5; clear hP2 hF2)
       generalize hWf : World.setCell _ _ _ = Wf
       replace hWf := hWf.symm
       obtain ⟨hb, hg⟩ := set5L hA.out.bT hWf
       obtain ⟨u0, u1, u2, u3, u4, -⟩ := hb.b5
       have hPf := hi_ (hA.out.ps.grownL hg (by have := hA.out.lL; omega) (by have := hA.out.lR; omega) (by have := hA.out.lP; omega) (fun h0 x hx => by have := hA.out.off h0 x hx; omega))
       have hFf := hi_ (hA.out.fr.grownL hg (Nat.le_refl _))
       replace hg := hi_ hg
       replace hWf := hi_ hWf
       clear hb t0 t1 t2 t3 t4 f0 f1 f2 f3 f4
       refine bodyPost_ret (by simp [results, Tryz.results95, go_sem, u0, u1, u2, u3, u4]; try rfl) rfl ?_
       exact ⟨by decide, rfl, hPf.out, hFf.out⟩
      | false =>
       have hE3 := hE2.out
       rw [if_neg (by decide)] at hE3
       clear hE2 cst
       have cv := hi_ fun W h => hv.out P L R A c bs d W u hsm6.out h
       have hcut := val_cut pl dd
       obtain ⟨V, hV⟩ : ∃ V, V = valS pl dd u := ⟨_, rfl⟩
       rw [← hV] at cv hE3
       refine h3_ hV hE3 hcut ?_; clear hV hE3 hcut; intro hV hE3 hcut
       go_upto_region 17 with (at_mapUpdate; refine wpList_mapUpdate_own _ rfl _ _ _ 167 rfl 9 168 lawS Tryz.underlying167 unitElem (W.heap.size + 1) ks.length (keysD ks) rfl hA.out.mp hkl.out _ _ _ rfl rfl hkey.out _ [] unitElem_mk ?_; intro w8 hown8 hgrow8; replace hA := hi_ (hA.out.key hown8 hgrow8); replace p0 := hA.out.ps.p0; replace q0 := hA.out.ps.q0; obtain ⟨t0, t1, t2, t3, t4, f0, f1, f2, f3, f4⟩ := hA.out.bT.b5; clear hown8 hgrow8)
       cases V with
       | err n v =>
        have hE4 := hE3.out
        obtain rfl : K = .err n v := hE4.symm
        clear hE3 hE4
        go_upto_region 18 with (first | (go_at_call 64; (with_reducible refine (cv.out _ hA.out.ps).mono ?_); rintro e w9 ⟨hn0, rfl, hP2, hF2⟩; replace hA := hi_ (hA.out.to hP2 hF2); replace p0 := hA.out.ps.p0; replace q0 := hA.out.ps.q0; obtain ⟨t0, t1, t2, t3, t4, f0, f1, f2, f3, f4⟩ := hA.out.bT.b5; have hnb := bne_iff_ne.2 hn0; replace hn0 := hi_ hn0; clear hP2 hF2))
        obtain ⟨WA, hWA, bA⟩ := newA w9 32 #[.int .i64 0, .int .i64 0, .slice none 0 0, .slice none 0 0, .slice none 0 0]
        rw [← hWA]
        replace hA := hi_ (hA.out.belowW bA)
        replace p0 := hA.out.ps.p0; replace q0 := hA.out.ps.q0; obtain ⟨t0, t1, t2, t3, t4, f0, f1, f2, f3, -⟩ := hA.out.bT.b5; replace f4 := hA.out.bT.frozen 4;
        replace hWA := hi_ hWA
        replace bA := hi_ bA
        go_wp2
        generalize hWf : World.setCell _ _ _ = Wf
        replace hWf := hWf.symm
        obtain ⟨hb, hg⟩ := set5L hA.out.bT hWf
        obtain ⟨u0, u1, u2, u3, u4, -⟩ := hb.b5
        have hPf := hi_ (hA.out.ps.grownL hg (by have := hA.out.lL; omega) (by have := hA.out.lR; omega) (by have := hA.out.lP; omega) (fun h0 x hx => by have := hA.out.off h0 x hx; omega))
        have hFf := hi_ (hA.out.fr.grownL hg (Nat.le_refl _))
        replace hg := hi_ hg
        replace hWf := hi_ hWf
        clear hb t0 t1 t2 t3 t4 f0 f1 f2 f3 f4
        refine bodyPost_ret (by simp [results, Tryz.results95, go_sem, u0, u1, u2, u3, u4]; try rfl) rfl ?_
        exact ⟨hn0.out, rfl, hPf.out, hFf.out⟩
       | ok o v =>
        go_upto_region 18 with (first | (go_at_call 64; (with_reducible refine (cv.out _ hA.out.ps).mono ?_); rintro e w9 ⟨us, rfl, hI, hP2, hF2⟩; obtain ⟨xk, xn, F1, F2, F3, fn1, fc1, fn2, fc2, fn3, fc3, rfl⟩ := five_exL hI.ob; have hszV := hi_ hA.out.sz; have hltV := hi_ (fun g hg => (hA.out.rows.row.lt g hg).2); replace hI := hi_ hI; replace hA := hi_ (hA.out.to hP2 hF2); replace p0 := hA.out.ps.p0; replace q0 := hA.out.ps.q0; obtain ⟨t0, t1, t2, t3, t4, f0, f1, f2, f3, f4⟩ := hA.out.bT.b5; clear hP2 hF2))
        obtain ⟨WA, hWA, bA, hXA⟩ := newB w9 32 #[.int .i64 xk, .int .i64 xn, .slice F1 fn1 fc1, .slice F2 fn2 fc2, .slice F3 fn3 fc3]
        rw [← hWA]
        obtain ⟨x0, x1, x2, x3, x4, -⟩ := hXA.b5
        replace hA := hi_ (hA.out.belowW bA)
        have hIA := hI.out.keep (fun b _ hb => bA.block b (by have := hI.out.1; omega)) (Nat.le_trans hI.out.1 bA.size)
        replace p0 := hA.out.ps.p0; replace q0 := hA.out.ps.q0; obtain ⟨t0, t1, t2, t3, t4, f0, f1, f2, f3, -⟩ := hA.out.bT.b5; replace f4 := hA.out.bT.frozen 4;
        refine h4_ hWA bA hXA hIA ?_; clear hWA bA hXA hIA; intro hWA bA hXA hIA
        go_upto_region 20 with fail
        obtain ⟨WB, hWB, bB⟩ := newA WA 91 #[.string S, .int .i64 xk, .int .i64 xn, .slice F1 fn1 fc1, .slice F2 fn2 fc2, .slice F3 fn3 fc3]
        have hIB := hIA.out.keep (fun b _ hb => bB.block b (by have := hIA.out.1; omega)) (Nat.le_trans hIA.out.1 bB.size)
        have hEB : EnI w8.heap.size w9.heap.size WB (k.b, o) [.string S, .int .i64 xk, .int .i64 xn, .slice F1 fn1 fc1, .slice F2 fn2 fc2, .slice F3 fn3 fc3] := ⟨_, by rw [hS.out]; rfl, hml.out, hIB⟩
        have hAB := hA.out.belowW bB
        have hcB : ∀ j u, ([.string S, .int .i64 xk, .int .i64 xn, .slice F1 fn1 fc1, .slice F2 fn2 fc2, .slice F3 fn3 fc3] : List Value)[j]? = some u → WB.cell? ⟨WA.heap.size, j, none⟩ = some u := fun j u hu => by rw [hWB]; exact new_cellsL WA _ _ j u hu
        have hapB : ∀ g, (Value.slice AL m cL).ownBlock = some g → g < w8.heap.size ∨ w9.heap.size ≤ g := fun g hg => .inl (hltV.out g hg)
        have hAL : es.length ≤ 1000000000 := by have := hes.out; omega
        refine h7_ hWB bB hEB hAB hcB hapB hAL ?_; clear hWB bB hEB hAB hcB hapB hAL; intro hWB bB hEB hAB hcB hapB hAL
        clear hIB
        go_wp2_with (at_builtin; rw [← hWB.out]; refine app_en rfl _ _ rfl (W.heap.size + 2) _ es rl rfl hAB.out.rows WA.heap.size w8.heap.size w9.heap.size (k.b, o) _ rfl hEB.out hszV.out hapB.out hcB.out hAL.out hAB.out.sz ?_; intro vE wE hGE hgE hatE; obtain ⟨AE, cE, rfl⟩ : ∃ A c, vE = .slice A (es ++ [(k.b, o)]).length c := (by obtain ⟨A, c, g, e, _⟩ := hGE.out en_law (by omega); exact ⟨A, c, e⟩); obtain ⟨nE, hnE⟩ : ∃ n, n = (es ++ [(k.b, o)]).length := ⟨_, rfl⟩; rw [← hnE] at hGE ⊢; replace hAB := hi_ (hAB.out.row hGE hgE); replace hnE := hi_ hnE; clear hGE hgE hatE)
        have hE4 : dictS (valS pl dd) f (ks ++ [k.b]) (putE k.b o (foldE es)) v = K := hE3.out
        have hN := hAB.out
        have e1 := hN.ps.posOf
        have e2 := hbw.out
        have e3 := pos_len hN.ps.suf
        have e5 := hcut.out u o v hV.out.symm
        have e6 := hf.out
        have e7 := hacc.out
        have e8 := pos_le bs v
        have e9 := hlk.out
        have e10 := bulk_pos o
        have hks2 : (es ++ [(k.b, o)]).map (·.1) = ks ++ [k.b] := by rw [hks.out]; simp
        rw [← hks2] at hN hE4
        go_roundw
        case rel =>
         refine ⟨f, es ++ [(k.b, o)], _, v, hN, by rw [foldE_snoc]; exact hE4, by omega, ?_, ?_⟩
         ·rw [bulkD_app2]
          simp only [bulkD]
          omega
         ·rw [hks2, List.nodup_append]
          refine ⟨hnd.out, by simp, fun a ha b hb => ?_⟩
          simp only [List.mem_singleton] at hb
          subst hb
          intro e
          subst e
          have h1 := htw.out
          rw [List.contains_iff_mem.2 ha] at h1
          cases h1
        case measure => rw [e1]; omega
     ·obtain rfl : K = .err 4 (blankM false r1) := by rw [← hE2, if_pos hk4]
      have cs := cst.out 4
      have hb8 : (kk == 8) = false := beq_eq_false_iff_ne.2 hk8
      have hb0 : (kk == 0) = false := beq_eq_false_iff_ne.2 hk0
      have hb4 : (kk != 4) = true := bne_iff_ne.2 hk4
      refine h3_ hk8 hk0 hk4 ?_; clear hk8 hk0 hk4; intro hk8 hk0 hk4
      clear hE2 cst
      go_upto_region 4 with (first | (go_at_call 82; (with_reducible refine (ct.out _ hA.out.ps).mono ?_); rintro e w4 ⟨a2, c2, rfl, hO, hP2, hF2⟩; replace hA := hi_ (hA.out.to hP2 hF2); replace p0 := hA.out.ps.p0; replace q0 := hA.out.ps.q0; obtain ⟨t0, t1, t2, t3, t4, f0, f1, f2, f3, f4⟩ := hA.out.bT.b5; replace hO := hi_ hO; clear hP2 hF2))
      obtain ⟨W5, hW5, b5, hU5⟩ := newB w4 108 #[.int .i64 kk, .int .i64 at1, .int .i64 k.n, .slice a2 k.b.length c2]
      rw [← hW5]
      have k50 := hU5.cell 0
      have k51 := hU5.cell 1
      have k53 := hU5.cell 3
      replace hA := hi_ (hA.out.belowW b5)
      replace p0 := hA.out.ps.p0; replace q0 := hA.out.ps.q0; obtain ⟨t0, t1, t2, t3, t4, f0, f1, f2, f3, f4⟩ := hA.out.bT.b5
      refine h3_ hU5 b5 hW5 ?_; clear hU5 b5 hW5; intro hU5 b5 hW5
      go_wp2_with (go_at_call 83; (with_reducible refine (cs.out _ _ hA.out.ps).mono ?_); rintro e w6 ⟨rfl, hP2, hF2⟩; replace hA := hi_ (hA.out.to hP2 hF2); replace p0 := hA.out.ps.p0; replace q0 := hA.out.ps.q0; obtain ⟨t0, t1, t2, t3, t4, f0, f1, f2, f3, f4⟩ := hA.out.bT.b5; clear hP2 hF2)
      generalize hWf : World.setCell _ _ _ = Wf
      replace hWf := hWf.symm
      obtain ⟨hb, hg⟩ := set5L hA.out.bT hWf
      obtain ⟨u0, u1, u2, u3, u4, -⟩ := hb.b5
      have hPf := hi_ (hA.out.ps.grownL hg (by have := hA.out.lL; omega) (by have := hA.out.lR; omega) (by have := hA.out.lP; omega) (fun h0 x hx => by have := hA.out.off h0 x hx; omega))
      have hFf := hi_ (hA.out.fr.grownL hg (Nat.le_refl _))
      replace hg := hi_ hg
      replace hWf := hi_ hWf
      clear hb t0 t1 t2 t3 t4 f0 f1 f2 f3 f4
      refine bodyPost_ret (by simp [results, Tryz.results95, go_sem, u0, u1, u2, u3, u4]; try rfl) rfl ?_
      exact ⟨by decide, rfl, hPf.out, hFf.out⟩
end
end
section
open Go Go.RowKit Go.Wk Go.Rd Go.Fx
section
variable {P L R : Nat} {A : Option Addr} {c : Nat} {bs : Bs} {d dd : Nat} {pl : Bool} {W X X' w w' : World} {r r' u v : Bs} {k s : Tok}
theorem tok_kindL (h : tokS r = .ok k u) : k.k = 0 ∨ k.k = 1 ∨ k.k = 2 ∨ k.k = 3 ∨ k.k = 4 ∨ k.k = 5 ∨ k.k = 6 ∨ k.k = 7 ∨ k.k = 8 ∨ k.k = 9 := by
 unfold tokS at h
 have key : ∀ B : Bs, tokA B = .ok k u → k.k = 0 ∨ k.k = 1 ∨ k.k = 2 ∨ k.k = 3 ∨ k.k = 4 ∨ k.k = 5 ∨ k.k = 6 ∨ k.k = 7 ∨ k.k = 8 ∨ k.k = 9 := fun B h => by
  cases B with
  | nil => rw [tokA] at h; cases h; simp
  | cons x t =>
   rw [tokA] at h
   have ht : ∀ kk R, tokOf kk (x :: t) R = .ok k u → k.k = kk := fun kk R h => by
    cases R with
    | ok b v => cases h; simp
    | err e v => cases h
   unfold numS at h
   repeat' split at h
   all_goals first
    | (cases h; done)
    | (have := ht _ _ h; simp [this]; done)
    | (cases h; simp; done)
 exact key _ h
theorem px_value : ∀ (dd : Nat), dd ≤ 1001 → ∀ {pl : Bool}, ValCP pl dd
 | dd, hdd, pl => fun P L R A c bs d W r hsm6 h => by
  cases ht : tokS r with
  | err n u => exact vl_err ht W h
  | ok k u =>
   rcases tok_kindL ht with hk | hk | hk | hk | hk | hk | hk | hk | hk | hk
   ·exact vl_end ht hk W h
   ·exact vl_whole ht hk W h
   ·exact vl_real ht hk W h
   ·exact vl_str ht hk W h
   ·exact vl_name ht hk W h
   ·cases dd with
    | zero => exact vl_deep5 rfl ht hk W h
    | succ d' => exact vl_arr (by omega) (fun W hP => by
     have := px_array (px_value d' (by omega)) hsm6 W hP
     cases hA : arrS (valS pl d') (u.length + 1) [] u with
     | ok l v => rw [hA] at this; exact this
     | err e v => rw [hA] at this; exact this) ht hk W h
   ·exact vl_close ht hk W h
   ·cases dd with
    | zero => exact vl_deep7 rfl ht hk W h
    | succ d' => exact vl_dic (by omega) (fun W hP => by
     have := px_dict (px_value d' (by omega)) hsm6 W hP
     cases hA : dictS (valS pl d') (u.length + 1) [] [] u with
     | ok l v => rw [hA] at this; exact this
     | err e v => rw [hA] at this; exact this) ht hk W h
   ·exact vl_right ht hk W h
   ·cases hw : (wordK k.b).2.2 with
    | true => exact vl_word ht hk hw W h
    | false => exact vl_noword ht hk hw W h
end
end
end Go.Proofs.YthffpbkndnhlfaaGreatDoor
namespace Go.Rd
open Go Go.Wk Go.Fx
def wantW (s : Bs) (r : Bs) : Res Tok := match tokS r with
 | .err e u => .err e u
 | .ok t u => if t.k = 0 then .err 2 (blankM false r) else if t.k = 9 ∧ t.b = s then .ok t u else .err 4 (blankM false r)
def wantN (lo hi : Int) (r : Bs) : Res Tok := match tokS r with
 | .err e u => .err e u
 | .ok t u => if t.k = 0 then .err 2 (blankM false r) else if t.k = 1 ∧ lo ≤ t.n ∧ t.n ≤ hi then .ok t u else .err 4 (blankM false r)
section
variable {r u : Bs} {k : Tok}
theorem w_err {s : Bs} {n : Int} (h : tokS r = .err n u) : wantW s r = .err n u := by unfold wantW; rw [h]
theorem w_end {s : Bs} (h : tokS r = .ok k u) (hk : k.k = 0) : wantW s r = .err 2 (blankM false r) := by unfold wantW; rw [h]; simp only [if_pos hk]
theorem w_no {s : Bs} (h : tokS r = .ok k u) (hk : ¬ k.k = 0) (h2 : ¬ (k.k = 9 ∧ k.b = s)) : wantW s r = .err 4 (blankM false r) := by unfold wantW; rw [h]; simp only [if_neg hk, if_neg h2]
theorem w_yes {s : Bs} (h : tokS r = .ok k u) (h2 : k.k = 9 ∧ k.b = s) : wantW s r = .ok k u := by unfold wantW; rw [h]; simp only [if_pos h2]; rw [if_neg (by rw [h2.1]; decide)]
theorem n_err {lo hi n : Int} (h : tokS r = .err n u) : wantN lo hi r = .err n u := by unfold wantN; rw [h]
theorem n_end {lo hi : Int} (h : tokS r = .ok k u) (hk : k.k = 0) : wantN lo hi r = .err 2 (blankM false r) := by unfold wantN; rw [h]; simp only [if_pos hk]
theorem n_no {lo hi : Int} (h : tokS r = .ok k u) (hk : ¬ k.k = 0) (h2 : ¬ (k.k = 1 ∧ lo ≤ k.n ∧ k.n ≤ hi)) : wantN lo hi r = .err 4 (blankM false r) := by unfold wantN; rw [h]; simp only [if_neg hk, if_neg h2]
theorem n_yes {lo hi : Int} (h : tokS r = .ok k u) (h2 : k.k = 1 ∧ lo ≤ k.n ∧ k.n ≤ hi) : wantN lo hi r = .ok k u := by unfold wantN; rw [h]; simp only [if_pos h2]; rw [if_neg (by rw [h2.1]; decide)]
end
end Go.Rd

/- Sums: the law of one byte, walked. No condition. -/
import Derived.Test.YtdeomolfbfplpaaSumsO1
import Derived.Test.YtdeomolfbfplpaaLinF
import Derived.WalkKit
import Derived.RegionTactic
namespace Go.Proofs.Ytdeomolfbfplpaa.sumsOne
open Go Go.Wk Go.RowKit Go.Proofs.Ytdeomolfbfplpaa
/-- an own row that holds something: its block -/
theorem own_block {w : World} {B e n : Nat} {v : Value} {xs : List Value} (h : w.ownsRow B e 1 v n xs) (h0 : 0 < n) : ∃ g cap cur, v = .slice (some ⟨g, 0, none⟩) n cap ∧ B ≤ g ∧ w.heap[g]? = some (.cells cur e) ∧ n ≤ cap ∧ cap = cur.size ∧ cur.toList.take n = xs := by
  rcases h.2 with ⟨rfl, h1⟩ | ⟨g, cap, cur, rfl, hB, hh, hnc, hcm, hsz, htk⟩
  · have := h.1; simp at this; omega
  · exact ⟨g, cap, cur, rfl, hB, hh, hnc, by omega, by simpa using htk⟩
def PS (ps : List Part) (v : Value) (w : World) : Prop := ∃ a, v = .slice (some a) ps.length ps.length ∧ Parts w (some a) ps
def G8 (b o len c g cap k m md mt : Nat) (u y : Nat) (bs ds t d : List UInt8) : Nat → Value → World → Prop := fun i v w => match i with
  | 0 | 7 | 15 | 18 | 23 | 29 | 34 | 38 => v = .slice (some ⟨b, o, none⟩) len c
  | 1 | 24 | 39 => PS [(some ⟨b, o, none⟩, c, bs)] v w
  | 2 | 22 | 25 | 37 | 40 => v = .int .u32 m
  | 3 => v = .slice (some ⟨g, 0, none⟩) len cap
  | 4 => PS [(some ⟨g, 0, none⟩, cap, ds)] v w
  | 5 => v = .int .u32 md
  | 6 => v = .bool ((m : Int) == (md : Int))
  | 8 | 16 | 19 | 30 | 35 => v = .int .i64 k
  | 9 => v = .pointer (some ⟨b, o + k, none⟩)
  | 10 => v = .int .u8 u
  | 11 => v = .int .u8 y
  | 12 => v = .bool ((u : Int) == (y : Int))
  | 13 | 14 | 26 | 27 | 28 | 41 | 42 | 43 => v = .bool true
  | 17 | 31 => v = .slice (some ⟨b, o, none⟩) k c
  | 20 | 36 => v = .slice (some ⟨b, o + k, none⟩) (len - k) (c - k)
  | 21 => PS [(some ⟨b, o, none⟩, c, t), (some ⟨b, o + k, none⟩, c - k, d)] v w
  | 32 => PS [(some ⟨b, o, none⟩, c, t)] v w
  | 33 => v = .int .u32 mt
  | _ => True
theorem PS.below {ps : List Part} {v : Value} {w w' : World} (h : PS ps v w) (hb : Below w.heap.size w w') : PS ps v w' := by
  obtain ⟨a, e, hP⟩ := h
  exact ⟨a, e, hP.below hb⟩
theorem G8_mono {b o len c g cap k m md mt u y : Nat} {bs ds t d : List UInt8} (i : Nat) (v : Value) (w w' : World) (h : G8 b o len c g cap k m md mt u y bs ds t d i v w) (hk : Below w.heap.size w w') : G8 b o len c g cap k m md mt u y bs ds t d i v w' := by
  unfold G8 at h ⊢
  split at h <;> first | exact h | exact PS.below h hk
theorem alloc_cell {w : World} {vs : Array Value} {e i : Nat} : (w.alloc (.cells vs e)).cell? ⟨w.heap.size, 0 + i, none⟩ = vs[i]? := by
  have h : (w.alloc (.cells vs e)).heap[w.heap.size]? = some (.cells vs e) := by
    show (w.heap.push _)[w.heap.size]? = _
    simp
  unfold World.cell?
  rw [h, Nat.zero_add]
  rfl
theorem ps_one {w : World} {A : Addr} {c : Nat} {bs : List UInt8} (h : Byt w (some A) bs) : PS [(some A, c, bs)] (.slice (some ⟨w.heap.size, 0, none⟩) 1 1) (w.alloc (.cells #[.slice (some A) bs.length c] 25)) := by
  refine ⟨_, rfl, by simp [maxLen], fun _ => ⟨_, _, rfl, fun i hi => ?_⟩, fun p hp => ?_⟩
  · have : i = 0 := by simp at hi; exact hi
    subst this
    rw [alloc_cell]; rfl
  · simp at hp; subst hp
    exact ⟨h.below ((Below.refl _ _).alloc (Nat.le_refl _) _), fun h => by cases h⟩
theorem ps_two {w : World} {A A' : Addr} {c c' : Nat} {bs bs' : List UInt8} (h : Byt w (some A) bs) (h' : Byt w (some A') bs') : PS [(some A, c, bs), (some A', c', bs')] (.slice (some ⟨w.heap.size, 0, none⟩) 2 2) (w.alloc (.cells #[.slice (some A) bs.length c, .slice (some A') bs'.length c'] 25)) := by
  refine ⟨_, rfl, by simp [maxLen], fun _ => ⟨_, _, rfl, fun i hi => ?_⟩, fun p hp => ?_⟩
  · match i, hi with
    | 0, _ => rw [alloc_cell]; rfl
    | 1, _ => rw [alloc_cell]; rfl
    | i + 2, hi => simp at hi; omega
  · simp at hp
    rcases hp with rfl | rfl
    · exact ⟨h.below ((Below.refl _ _).alloc (Nat.le_refl _) _), fun h => by cases h⟩
    · exact ⟨h'.below ((Below.refl _ _).alloc (Nat.le_refl _) _), fun h => by cases h⟩
theorem call7 {ps : List Part} {v : Value} {w : World} (h : PS ps v w) : Calls Try.prog 7 #[v] w fun e w' => e = .returned (.int .u32 (moreA 1 (flatA ps) : Nat)) ∧ w = w' := by
  obtain ⟨a, rfl, hP⟩ := h
  rw [← adlerA_one]
  exact sums_adler _ _ ps w hP
theorem flat_one (A : Option Addr) (c : Nat) (bs : List UInt8) : flatA [(A, c, bs)] = bs := by simp [flatA]
theorem flat_two (A A' : Option Addr) (c c' : Nat) (bs : List UInt8) (k : Nat) : flatA [(A, c, bs.take k), (A', c', bs.drop k)] = bs := by simp [flatA]
theorem byt_take {w : World} {A : Option Addr} {bs : List UInt8} (h : Byt w A bs) (k : Nat) : Byt w A (bs.take k) := by
  refine ⟨by have := h.1; simp; omega, fun h0 => ?_⟩
  have hl : 0 < bs.length := by simp at h0; omega
  obtain ⟨b, o, e, hc⟩ := h.2 hl
  refine ⟨b, o, e, fun i hi => ?_⟩
  rw [List.getElem_take]
  exact hc i (by simp at hi; omega)
theorem byt_drop {w : World} {b o : Nat} {bs : List UInt8} (h : Byt w (some ⟨b, o, none⟩) bs) (k : Nat) : Byt w (some ⟨b, o + k, none⟩) (bs.drop k) := by
  refine ⟨by have := h.1; simp; omega, fun h0 => ?_⟩
  have hl : 0 < bs.length := by simp at h0; omega
  obtain ⟨b', o', e, hc⟩ := h.2 hl
  cases e
  refine ⟨b, o + k, rfl, fun i hi => ?_⟩
  rw [List.getElem_drop, Nat.add_assoc]
  exact hc (k + i) (by simp at hi; omega)
theorem own_cell {w : World} {g e k : Nat} {cur : Array Value} {bs : List UInt8} (hgh : w.heap[g]? = some (.cells cur e)) (htk : cur.toList.take bs.length = valsB bs) (hk : k < bs.length) : w.cell? ⟨g, k, none⟩ = some (.int .u8 (bs[k].toNat : Int)) := by
  have hv : (valsB bs)[k]? = some (.int .u8 (bs[k].toNat : Int)) := by simp [valsB, hk]
  rw [← htk, List.getElem?_take_of_lt hk, Array.getElem?_toList] at hv
  unfold World.cell?
  rw [hgh]
  simpa using hv
theorem cells_frozen {w : World} {g e : Nat} {cur : Array Value} (hgh : w.heap[g]? = some (.cells cur e)) (k : Nat) : w.frozen? ⟨g, k, none⟩ = false := by
  simp [World.frozen?, hgh]
theorem byt_cell {w : World} {b o : Nat} {bs : List UInt8} (h : Byt w (some ⟨b, o, none⟩) bs) (k : Nat) (hk : k < bs.length) : w.cell? ⟨b, o + k, none⟩ = some (.int .u8 (bs[k].toNat : Int)) := by
  obtain ⟨b', o', e, hc⟩ := h.2 (by omega)
  cases e
  exact hc k hk
theorem set_other {w : World} {b o g k : Nat} {bs : List UInt8} (h : Byt w (some ⟨b, o, none⟩) bs) (hb : b ≠ g) (y : UInt8) : Byt (w.setCell ⟨g, k, none⟩ (.int .u8 y.toNat)) (some ⟨b, o, none⟩) bs := by
  refine ⟨h.1, fun h0 => ⟨b, o, rfl, fun i hi => ?_⟩⟩
  rw [World.cell?_setCell_other _ _ _ _ (by intro e; cases e; exact hb rfl)]
  exact byt_cell h i hi
theorem set_own {w : World} {g e k : Nat} {cur : Array Value} {bs : List UInt8} (hgh : w.heap[g]? = some (.cells cur e)) (htk : cur.toList.take bs.length = valsB bs) (hk : k < bs.length) (y : UInt8) (hm : bs.length ≤ 2000 := by omega) : Byt (w.setCell ⟨g, k, none⟩ (.int .u8 y.toNat)) (some ⟨g, 0, none⟩) (bs.set k y) := by
  refine ⟨by simp [maxLen]; omega, fun h0 => ⟨g, 0, rfl, fun i hi => ?_⟩⟩
  have hi' : i < bs.length := by simpa using hi
  rw [Nat.zero_add]
  by_cases hik : i = k
  · subst hik
    rw [World.cell?_setCell_same _ _ _ (own_cell hgh htk hi')]
    simp
  · rw [World.cell?_setCell_other _ _ _ _ (by intro e; cases e; exact hik rfl), own_cell hgh htk hi']
    rw [List.getElem_set_ne (by omega)]
def sumB (bs : List UInt8) : Nat := (bs.map UInt8.toNat).sum
theorem fold_fst : ∀ (bs : List UInt8) (p : Nat × Nat), p.1 < 65521 → (bs.foldl stepA p).1 = (p.1 + sumB bs) % 65521 := by
  intro bs
  induction bs with
  | nil => intro p h; simp [sumB]; omega
  | cons b bs ih =>
    intro p h
    rw [List.foldl_cons, ih _ (stepA_lt p b).1]
    simp [stepA, sumB]
    omega
theorem sumB_set (bs : List UInt8) (k : Nat) (hk : k < bs.length) (y : UInt8) : sumB (bs.set k y) + bs[k].toNat = sumB bs + y.toNat := by
  induction bs generalizing k with
  | nil => simp at hk
  | cons b bs ih =>
    cases k with
    | zero => simp [sumB]; omega
    | succ k =>
      have := ih k (by simpa using hk)
      simp [sumB] at this ⊢
      omega
theorem moreA_fst (bs : List UInt8) : moreA 1 bs % 65536 = (1 + sumB bs) % 65521 := by
  have h := pairA_lt 1 bs
  have h2 : (pairA 1 bs).1 = (1 + sumB bs) % 65521 := fold_fst bs _ (by omega)
  unfold moreA
  rw [← h2]; omega
theorem sums_unlike (bs : List UInt8) (k : Nat) (hk : k < bs.length) (y : UInt8) : (((moreA 1 bs : Nat) : Int) == ((moreA 1 (bs.set k y) : Nat) : Int)) = (((bs[k].toNat : Nat) : Int) == ((y.toNat : Nat) : Int)) := by
  have e1 := moreA_fst bs
  have e2 := moreA_fst (bs.set k y)
  have e3 := sumB_set bs k hk y
  have h1 := bs[k].toNat_lt
  have h2 := y.toNat_lt
  by_cases h : bs[k] = y
  · have : bs.set k y = bs := by rw [← h]; simp
    rw [this, h]; simp
  · have hn : bs[k].toNat ≠ y.toNat := fun e => h (UInt8.toNat_inj.1 e)
    have : moreA 1 bs ≠ moreA 1 (bs.set k y) := by
      intro e
      rw [e, e2] at e1
      omega
    rw [beq_eq_false_iff_ne.2 (by omega), beq_eq_false_iff_ne.2 (by omega)]
set_option maxHeartbeats 1000000 in
theorem one_law (A : Option Addr) (c : Nat) (bs : List UInt8) (n : Nat) (hn : n < 65536) (y : UInt8) (w : World) (h : Byt w A bs) (hcl : bs.length ≤ c)
    (haw : Calls Try.prog 6 #[] w fun e w' => e = .returned (.bool true) ∧ Below w.heap.size w w') :
    Calls Try.prog 5 #[.slice A bs.length c, .int .u16 n, .int .u8 y.toNat] w fun e w' => e = .returned (.bool true) ∧ Below w.heap.size w w' := by
  by_cases h0 : bs.length = 0
  · have e1 : ((bs.length : Int) == 0) = true := by simp [h0]
    clear h0
    go_enter Try.func5, Try.ntmps5
    go_wp2_with (go_at_call 6; (with_reducible refine haw.mono ?_); rintro e w1 ⟨rfl, hw1⟩)
    go_ret
    exact ⟨rfl, hw1⟩
  by_cases h2 : bs.length ≤ 2000
  · obtain ⟨b, o, rfl, hc⟩ := h.2 (by omega)
    have hk : n % bs.length < bs.length := Nat.mod_lt _ (by omega)
    have e1 : ((bs.length : Int) == 0) = false := by simp; intro h; simp [h] at h0
    have e2 : decide ((2000 : Int) < (bs.length : Int)) = false := by simp; omega
    clear hc
    go_enter Try.func5, Try.ntmps5
    go_wp2_with (first
      | (go_at_call 6; (with_reducible refine haw.mono ?_); rintro e w1 ⟨rfl, hw1⟩; have hcopy := ref_copy _ c bs w1 h2 (h.below hw1); have hsz1 := hw1.size)
      | (go_at_call 11; (with_reducible refine hcopy.mono ?_); rintro e w2 ⟨v, rfl, hown, hw2⟩; obtain ⟨g, cap, cur, rfl, hBg, hgh, hncap, hcs, htk⟩ := own_block hown (by omega)
         have hcell := own_cell hgh htk hk
         have hfr := cells_frozen hgh (n % bs.length)
         rw [← Int.natCast_emod]; generalize n % bs.length = k at *))
    rename_i K0 hK0
    have hB2 : Byt w2 (some ⟨b, o, none⟩) bs := (h.below hw1).below hw2
    have hbg : b ≠ g := by
      obtain ⟨b', o', e, hc⟩ := (h.below hw1).2 (by omega)
      cases e
      have := cell_lt (hc 0 (by omega))
      simp at this; omega
    have hB := set_other hB2 (k := k) hbg y
    have hD := set_own hgh htk hk y
    have hw3 : Below w.heap.size w (w2.setCell ⟨g, k, none⟩ (.int .u8 y.toNat)) := (hw1.trans (hw2.mono hsz1)).setCell (by simp; omega) _
    have hq := sums_unlike bs k hk y
    generalize hW : w2.setCell ⟨g, k, none⟩ (.int .u8 y.toNat) = W at *
    have hT := byt_take hB k
    have hE := byt_drop hB k
    clear hcopy hW hown hw2 hgh htk hcell hfr hB2 haw hw1 h
    refine wp_lin (by kernel_rfl) [none, none, none, none, none, none, some 43, none, none, none, none, none, none, none, none, none, none, none, none, none, none, none, none, none, none, none, none, none, none, none, some 0, some 1, some 2, some 3, some 4, some 5, some 6, some 7, some 8, some 9, some 10, some 11, some 12, some 13, some 14, some 15, some 16, some 17, some 18, some 19, some 20, some 21, some 22, some 23, some 24, some 25, some 26, some 27, some 28, some 29, some 30, some 31, some 32, some 33, some 34, some 35, some 36, some 37, some 38, some 39, some 40, some 41, some 42] (fun w' => Below W.heap.size W w') (fun w' w'' => Below w'.heap.size w' w'') (G8 b o bs.length c g cur.size k (moreA 1 bs) (moreA 1 (bs.set k y)) (moreA 1 (bs.take k)) bs[k].toNat y.toNat bs (bs.set k y) (bs.take k) (bs.drop k)) (by rfl) (by kernel_rfl) 44 (by rfl) ?hR ?mono (.cons 43 (step_of [42, 28] rfl (by kernel_rfl) ?s43) (.cons 42 (step_of [28, 41] rfl (by kernel_rfl) ?s42) (.cons 41 (step_of [37, 40, 28] rfl (by kernel_rfl) ?s41) (.cons 40 (step_of [39, 37, 28] rfl (by kernel_rfl) ?s40) (.cons 39 (step_of [38, 28] rfl (by kernel_rfl) ?s39) (.cons 38 (step_of [28] rfl (by kernel_rfl) ?s38) (.cons 37 (step_of [33, 36, 28] rfl (by kernel_rfl) ?s37) (.cons 36 (step_of [34, 35, 28] rfl (by kernel_rfl) ?s36) (.cons 35 (step_of [28] rfl (by kernel_rfl) ?s35) (.cons 34 (step_of [28] rfl (by kernel_rfl) ?s34) (.cons 33 (step_of [32, 28] rfl (by kernel_rfl) ?s33) (.cons 32 (step_of [31, 28] rfl (by kernel_rfl) ?s32) (.cons 31 (step_of [29, 30, 28] rfl (by kernel_rfl) ?s31) (.cons 30 (step_of [28] rfl (by kernel_rfl) ?s30) (.cons 29 (step_of [28] rfl (by kernel_rfl) ?s29) (.cons 28 (step_of [27, 25] rfl (by kernel_rfl) ?s28) (.cons 27 (step_of [14, 26] rfl (by kernel_rfl) ?s27) (.cons 26 (step_of [22, 25, 14] rfl (by kernel_rfl) ?s26) (.cons 25 (step_of [24, 22, 14] rfl (by kernel_rfl) ?s25) (.cons 24 (step_of [23, 14] rfl (by kernel_rfl) ?s24) (.cons 23 (step_of [14] rfl (by kernel_rfl) ?s23) (.cons 22 (step_of [21, 14] rfl (by kernel_rfl) ?s22) (.cons 21 (step_of [17, 20, 14] rfl (by kernel_rfl) ?s21) (.cons 20 (step_of [18, 19, 14] rfl (by kernel_rfl) ?s20) (.cons 19 (step_of [14] rfl (by kernel_rfl) ?s19) (.cons 18 (step_of [14] rfl (by kernel_rfl) ?s18) (.cons 17 (step_of [15, 16, 14] rfl (by kernel_rfl) ?s17) (.cons 16 (step_of [14] rfl (by kernel_rfl) ?s16) (.cons 15 (step_of [14] rfl (by kernel_rfl) ?s15) (.cons 14 (step_of [13, 5] rfl (by kernel_rfl) ?s14) (.cons 13 (step_of [6, 12] rfl (by kernel_rfl) ?s13) (.cons 12 (step_of [10, 11] rfl (by kernel_rfl) ?s12) (.cons 11 (step_of [] rfl (by kernel_rfl) ?s11) (.cons 10 (step_of [9] rfl (by kernel_rfl) ?s10) (.cons 9 (step_of [7, 8] rfl (by kernel_rfl) ?s9) (.cons 8 (step_of [] rfl (by kernel_rfl) ?s8) (.cons 7 (step_of [] rfl (by kernel_rfl) ?s7) (.cons 6 (step_of [2, 5] rfl (by kernel_rfl) ?s6) (.cons 5 (step_of [4, 2] rfl (by kernel_rfl) ?s5) (.cons 4 (step_of [3] rfl (by kernel_rfl) ?s4) (.cons 3 (step_of [] rfl (by kernel_rfl) ?s3) (.cons 2 (step_of [1] rfl (by kernel_rfl) ?s2) (.cons 1 (step_of [0] rfl (by kernel_rfl) ?s1) (.cons 0 (step_of [] rfl (by kernel_rfl) ?s0) (.nil))))))))))))))))))))))))))))))))))))))))))))) ?done
    case hR => exact (Below.refl _ _).drew
    case mono => exact G8_mono
    case done =>
      intro x w' hR hG
      have h43 := hG 43 (by omega)
      simp only [G8] at h43
      simp only [fillL]
      clear hG
      rw [h43]
      refine hK0 _ _ ?_
      go_wp2
      go_ret
      exact ⟨rfl, hw3.trans (hR.mono hw3.size)⟩
    all_goals
      intro x w' hR hd K hK
      simp only [All, G8] at hd
      have hBw := hB.below hR
      have hDw := hD.below hR
      have hTw := hT.below hR
      have hEw := hE.below hR
      have hcu := byt_cell hBw k hk
      have hkc : k ≤ c := by omega
      have hkl : k ≤ bs.length := by omega
      have htl : (bs.take k).length = k := by simp; omega
      clear hB hD hT hE
      simp (config := {decide := true}) only [upd, G8, fillL, if_true, if_false] at hK ⊢
      repeat (obtain ⟨_, hd⟩ := hd)
      (try simp only [*] at hK ⊢)
      go_simp
      first
        | (have hK2 := hK _ _ ⟨hR, Below.refl _ _, rfl⟩; exact hK2)
        | skip
    case s40 =>
      refine (call7 (by first | assumption)).mono ?_
      rintro e w3 ⟨rfl, rfl⟩
      rw [flat_one]
      have hK2 := hK _ _ ⟨hR, Below.refl _ _, rfl⟩
      exact hK2
    case s33 =>
      refine (call7 (by first | assumption)).mono ?_
      rintro e w3 ⟨rfl, rfl⟩
      rw [flat_one]
      have hK2 := hK _ _ ⟨hR, Below.refl _ _, rfl⟩
      exact hK2
    case s25 =>
      refine (call7 (by first | assumption)).mono ?_
      rintro e w3 ⟨rfl, rfl⟩
      rw [flat_one]
      have hK2 := hK _ _ ⟨hR, Below.refl _ _, rfl⟩
      exact hK2
    case s5 =>
      refine (call7 (by first | assumption)).mono ?_
      rintro e w3 ⟨rfl, rfl⟩
      rw [flat_one]
      have hK2 := hK _ _ ⟨hR, Below.refl _ _, rfl⟩
      exact hK2
    case s2 =>
      refine (call7 (by first | assumption)).mono ?_
      rintro e w3 ⟨rfl, rfl⟩
      rw [flat_one]
      have hK2 := hK _ _ ⟨hR, Below.refl _ _, rfl⟩
      exact hK2
    case s22 =>
      refine (call7 (by first | assumption)).mono ?_
      rintro e w3 ⟨rfl, rfl⟩
      rw [flat_two]
      have hK2 := hK _ _ ⟨hR, Below.refl _ _, rfl⟩
      exact hK2
    case s37 =>
      have hcall := sums_more _ (moreA_lt 1 (bs.take k)) _ (c - k) _ _ hEw
      rw [List.length_drop] at hcall
      refine hcall.mono ?_
      rintro e w3 ⟨rfl, rfl⟩
      rw [moreA_more, List.take_append_drop]
      have hK2 := hK _ _ ⟨hR, Below.refl _ _, rfl⟩
      exact hK2
    case s39 =>
      have hK2 := hK _ _ ⟨hR.alloc hR.size _, (Below.refl _ _).alloc (Nat.le_refl _) _, ps_one (c := c) hBw⟩
      exact hK2
    case s24 =>
      have hK2 := hK _ _ ⟨hR.alloc hR.size _, (Below.refl _ _).alloc (Nat.le_refl _) _, ps_one (c := c) hBw⟩
      exact hK2
    case s1 =>
      have hK2 := hK _ _ ⟨hR.alloc hR.size _, (Below.refl _ _).alloc (Nat.le_refl _) _, ps_one (c := c) hBw⟩
      exact hK2
    case s4 =>
      have hps := ps_one (c := cur.size) hDw
      simp only [List.length_set] at hps
      have hK2 := hK _ _ ⟨hR.alloc hR.size _, (Below.refl _ _).alloc (Nat.le_refl _) _, hps⟩
      exact hK2
    case s32 =>
      have hps := ps_one (c := c) hTw
      simp only [htl] at hps
      have hK2 := hK _ _ ⟨hR.alloc hR.size _, (Below.refl _ _).alloc (Nat.le_refl _) _, hps⟩
      exact hK2
    case s21 =>
      have hps := ps_two (c := c) (c' := c - k) hTw hEw
      simp only [htl, List.length_drop] at hps
      have hK2 := hK _ _ ⟨hR.alloc hR.size _, (Below.refl _ _).alloc (Nat.le_refl _) _, hps⟩
      exact hK2
    all_goals
      have hcke : ¬ c = k := by omega
      simp only [hcke, if_false]
      have hK2 := hK _ _ ⟨hR, Below.refl _ _, rfl⟩
      exact hK2
  · have e1 : ((bs.length : Int) == 0) = false := by simp; intro h; simp [h] at h0
    have e2 : decide ((2000 : Int) < (bs.length : Int)) = true := by simp; omega
    have hm := h.1
    unfold maxLen at hm
    go_enter Try.func5, Try.ntmps5
    go_wp2_with (go_at_call 6; (with_reducible refine haw.mono ?_); rintro e w1 ⟨rfl, hw1⟩)
    go_ret
    exact ⟨rfl, hw1⟩
end Go.Proofs.Ytdeomolfbfplpaa.sumsOne

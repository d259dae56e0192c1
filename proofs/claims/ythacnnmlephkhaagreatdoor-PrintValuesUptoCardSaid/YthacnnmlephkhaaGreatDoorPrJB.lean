/- Walks and laws, joined: part B. No condition. -/
import Derived.Test.YthacnnmlephkhaaGreatDoorPrJA
import Derived.BigRegion
import Derived.RegionTactic
import Derived.Deep.DeepCutAuto
import Derived.Lib.ConvBytes
import Derived.Lib.ReflectliteSlice
set_option linter.unusedSimpArgs false
set_option linter.unusedVariables false
/- A drawn region: operations in whatever order, each looked at once, and a tail that is forced. No condition. -/
namespace Go.Wk
open Go
section
variable {P : Program} {ops : Array Oper} {Q : Exit → Act → World → Prop}
theorem afters_lt {n : Nat} (back : ((List.range ops.size).all fun i => (afters ops i).all fun j => decide (j < i)) = true) (i j : Nat) (hi : i < ops.size) (hj : j ∈ afters ops i) : j < i :=
  of_decide_eq_true (List.all_eq_true.1 (List.all_eq_true.1 back i (List.mem_range.2 hi)) _ hj)
theorem count_up {listed : Array Bool} {i fuel : Nat} (hil : i < listed.size) (h1 : listed.getD i true = false) (hc : listed.toList.count false ≤ fuel + 1) : (listed.setIfInBounds i true).toList.count false ≤ fuel := by
  have hf : listed.toList[i]'(by simpa using hil) = false := by
    simp only [Array.getD_eq_getD_getElem?, Array.getElem?_eq_getElem hil, Option.getD_some] at h1
    simpa using h1
  rw [Array.toList_setIfInBounds, List.count_set (by simpa using hil)]
  have : 0 < listed.toList.count false := List.count_pos_iff.2 (by rw [← hf]; exact List.getElem_mem _)
  simp only [hf, beq_self_eq_true, if_true, Bool.true_beq, Bool.false_eq_true, if_false]
  omega
theorem count_none {listed : Array Bool} {i : Nat} (hil : i < listed.size) (hl : listed.getD i false = false) (hc : listed.toList.count false ≤ 0) : False := by
  have : false ∈ listed.toList := by
    simp only [Array.getD_eq_getD_getElem?, Array.getElem?_eq_getElem hil, Option.getD_some] at hl
    rw [← hl]; simp
  have := List.count_pos_iff.2 this
  omega
theorem ready_after {listed : Array Bool} {i : Nat} (hi : i ∈ Region.ready .any ops listed) : i < ops.size ∧ listed.getD i true = false ∧ ∀ j ∈ afters ops i, listed.getD j false = true := by
  obtain ⟨h1, o, ho, hall⟩ := mem_ready.1 hi
  refine ⟨(Array.getElem?_eq_some_iff.1 ho).1, h1, fun j hj => ?_⟩
  unfold afters at hj; rw [ho] at hj
  obtain ⟨e, he, rfl⟩ := List.mem_map.1 hj
  obtain ⟨he, hb⟩ := List.mem_filter.1 he
  exact hall e (by simpa using he) hb
theorem wpAny_tail (n : Nat) (back : ((List.range ops.size).all fun i => (afters ops i).all fun j => decide (j < i)) = true)
    (chain : ((List.range ops.size).all fun j => Nat.ble j n || (afters ops j).contains (j - 1)) = true) :
    ∀ (l : List Oper) (k fuel : Nat) (listed : Array Bool) (a : Act) (w : World), n ≤ k → k + l.length = ops.size → (∀ j, l[j]? = ops[k + j]?) → listed.size = ops.size → listed.toList.count false ≤ fuel →
      (∀ i, i < ops.size → (listed.getD i false = true ↔ i < k)) → wpList P ops Q l a w → wpAny P .any ops Q fuel listed a w := by
  intro l
  induction l with
  | nil =>
    intro k fuel listed a w hn hk hl hs hc hL hw
    exact wpAny_all listed a w (fun i hi => (hL i hi).2 (by simp at hk; omega)) hs hw fuel
  | cons o l ih =>
    intro k fuel listed a w hn hk hl hs hc hL hw
    simp only [List.length_cons] at hk
    have hkn : k < ops.size := by omega
    have hkf : listed.getD k false = false := by
      cases h : listed.getD k false with
      | false => rfl
      | true => have := (hL k hkn).1 h; omega
    have ho : ops[k]? = some o := by have := hl 0; simpa using this.symm
    cases fuel with
    | zero => exact (count_none (by omega) hkf hc).elim
    | succ fuel =>
      refine ⟨fun hr => absurd (all_listed back hs hr k hkn) (by rw [hkf]; simp), fun i hi => ?_⟩
      obtain ⟨hi', h1, haft⟩ := ready_after hi
      have hif : listed.getD i false = false := by
        have hil : i < listed.size := by omega
        simp only [Array.getD_eq_getD_getElem?, Array.getElem?_eq_getElem hil, Option.getD_some] at h1 ⊢
        exact h1
      have hik : i = k := by
        have h2 : ¬ i < k := fun h => by rw [(hL i hi').2 h] at hif; cases hif
        rcases Nat.lt_or_ge k i with h3 | h3
        · exfalso
          have hch := List.all_eq_true.1 chain i (List.mem_range.2 hi')
          rw [Bool.or_eq_true] at hch
          rcases hch with hch | hch
          · have := Nat.le_of_ble_eq_true hch; omega
          · have := haft _ (List.contains_iff_mem.1 hch)
            have := (hL (i - 1) (by omega)).1 this
            omega
        · omega
      subst hik
      have hnext : ∀ a' w', wpList P ops Q l a' w' → wpAny P .any ops Q fuel (listed.setIfInBounds i true) a' w' := fun a' w' h =>
        ih (i + 1) fuel _ a' w' (by omega) (by omega) (fun j => by have := hl (j + 1); rw [List.getElem?_cons_succ] at this; rw [this]; congr 1; omega) (by simpa using hs) (count_up (by omega) h1 hc)
          (fun q hq => by
            rw [getD_set _ _ _ _ (by omega)]
            by_cases hqi : q = i
            · subst hqi; simp
            · rw [if_neg hqi, hL q hq]; omega) h
      unfold wpOp
      simp only [ho]
      unfold wpList at hw
      split
      · rename_i hwt
        rw [if_pos hwt] at hw
        rcases hw with hw | hw
        · exact .inl (Oper.wp_mono hnext hw)
        · exact .inr hw
      · rename_i hwt
        rw [if_neg hwt] at hw
        exact hnext _ _ hw
theorem wpAny_free (mk : (Nat → Value) → Act) {R : World → Prop} {Keeps : World → World → Prop} {Good : Nat → Value → World → Prop} (n : Nat) (hn : n < ops.size) (l : List Oper) (hln : n + l.length = ops.size) (hl : ∀ j, l[j]? = ops[n + j]?)
    (back : ((List.range ops.size).all fun i => (afters ops i).all fun j => decide (j < i)) = true)
    (chain : ((List.range ops.size).all fun j => Nat.ble j n || (afters ops j).contains (j - 1)) = true)
    (wit : List Nat) (cover : ((List.range n).all fun i => (afters ops (wit.getD i 0)).contains i && Nat.ble (wit.getD i 0) n) = true)
    (mono : ∀ i v w w', Good i v w → Keeps w w' → Good i v w')
    (step : ∀ i, i < n → ∀ x w, R w → (∀ j ∈ afters ops i, Good j (x j) w) → wpOp P ops Q i (fun a' w' => ∃ v, a' = mk (upd x i v) ∧ R w' ∧ Keeps w w' ∧ Good i v w') (mk x) w)
    (fin : ∀ x w, R w → (∀ i, i < n → Good i (x i) w) → wpList P ops Q l (mk x) w) :
    ∀ (fuel : Nat) (listed : Array Bool) (x : Nat → Value) (w : World), listed.toList.count false ≤ fuel → listed.size = ops.size → R w → (∀ i, i < n → listed.getD i false = true → Good i (x i) w) →
      (∀ i, n ≤ i → i < ops.size → listed.getD i false = false) → (∀ i, i < ops.size → listed.getD i false = true → ∀ j ∈ afters ops i, listed.getD j false = true) → wpAny P .any ops Q fuel listed (mk x) w := by
  intro fuel
  induction fuel with
  | zero =>
    intro listed x w hc hs hR hG hl0 hd
    exact (count_none (i := n) (by omega) (hl0 n (Nat.le_refl _) hn) hc).elim
  | succ fuel ih =>
    intro listed x w hc hs hR hG hl0 hd
    refine ⟨fun hr => absurd (all_listed back hs hr n hn) (by rw [hl0 n (Nat.le_refl _) hn]; simp), fun i hi => ?_⟩
    have hi0 := hi
    obtain ⟨hi', h1, haft⟩ := ready_after hi
    rcases Nat.lt_or_ge i n with hin | hin
    · refine wpOp_mono ?_ (step i hin x w hR fun j hj => hG j (by have := afters_lt (n := 0) back i j hi' hj; omega) (haft j hj))
      rintro a' w' ⟨v, rfl, hR', hK, hg⟩
      refine ih _ _ _ (count_up (by omega) h1 hc) (by simpa using hs) hR' ?_ ?_ ?_
      · intro j hj hlj
        rw [getD_set _ _ _ _ (by omega)] at hlj
        unfold upd
        by_cases hji : j = i
        · subst hji; simpa using hg
        · rw [if_neg hji] at hlj ⊢
          exact mono _ _ _ _ (hG j hj hlj) hK
      · intro j hj hj2
        rw [getD_set _ _ _ _ (by omega), if_neg (by omega)]; exact hl0 j hj hj2
      · intro k hk hkl j hj
        rw [getD_set _ _ _ _ (by omega)] at hkl ⊢
        by_cases hji : j = i
        · rw [if_pos hji]
        · rw [if_neg hji]
          by_cases hki : k = i
          · subst hki; exact haft j hj
          · rw [if_neg hki] at hkl; exact hd k hk hkl j hj
    · have hi2 : i = n := by
        rcases Nat.lt_or_ge n i with h3 | h3
        · exfalso
          have hch := List.all_eq_true.1 chain i (List.mem_range.2 hi')
          rw [Bool.or_eq_true] at hch
          rcases hch with hch | hch
          · have := Nat.le_of_ble_eq_true hch; omega
          · have := haft _ (List.contains_iff_mem.1 hch)
            rw [hl0 (i - 1) (by omega) (by omega)] at this; cases this
        · omega
      subst hi2
      have hothers : ∀ m k, k < i → i ≤ k + m → listed.getD k false = true := by
        intro m
        induction m with
        | zero => intro k hk hm; omega
        | succ m ihm =>
          intro k hk hm
          have hcv := List.all_eq_true.1 cover k (List.mem_range.2 hk)
          rw [Bool.and_eq_true] at hcv
          obtain ⟨j, hjj⟩ : ∃ j, j = wit.getD k 0 := ⟨_, rfl⟩
          rw [← hjj] at hcv
          have hjk := List.contains_iff_mem.1 hcv.1
          have hjn := Nat.le_of_ble_eq_true hcv.2
          have hlt := afters_lt (n := 0) back j k (by omega) hjk
          by_cases hji : j = i
          · subst hji; exact haft k hjk
          · exact hd j (by omega) (ihm j (by omega) (by omega)) k hjk
      have htail := fin x w hR fun k hk => hG k hk (hothers i k hk (by omega))
      have hfin := wpAny_tail (P := P) (Q := Q) i back chain l i (fuel + 1) listed (mk x) w (Nat.le_refl _) hln hl hs hc (fun q hq => ⟨fun h => by
          rcases Nat.lt_or_ge q i with h' | h'
          · exact h'
          · have h2 := hl0 q h' hq; rw [h2] at h; exact absurd h (by simp)
        , fun h => hothers i q h (by omega)⟩) htail
      exact hfin.2 i hi0
end
theorem wp_lin_tail {P : Program} {ops : Array Oper} {Q : Exit → Act → World → Prop} {id : Nat} {tm : List Value} {df : List Deferred} {w0 : World} (hm : P.follows .mixedOrders = true) (ss : List (Option Nat))
    (R : World → Prop) (Keeps : World → World → Prop) (G : Nat → Value → World → Prop)
    (h0 : fillL tm ss (oldX tm ss) = tm)
    (back : ((List.range ops.size).all fun i => (afters ops i).all fun j => decide (j < i)) = true)
    (n : Nat) (l : List Oper) (hdr : ops.toList.drop n = l) (hn : n < ops.size)
    (chain : ((List.range ops.size).all fun j => Nat.ble j n || (afters ops j).contains (j - 1)) = true)
    (wit : List Nat) (cover : ((List.range n).all fun i => (afters ops (wit.getD i 0)).contains i && Nat.ble (wit.getD i 0) n) = true)
    (hR : R w0.drew)
    (mono : ∀ i v w w', G i v w → Keeps w w' → G i v w')
    (step : Steps (Step P ops Q (fun x => { tmps := (fillL tm ss x).toArray, defers := df }) R Keeps G) n)
    (done : ∀ x w, R w → (∀ i, i < n → G i (x i) w) → ∀ fr, fr = fillL tm ss x → wpList P ops Q l { tmps := fr.toArray, defers := df } w) :
    (Code.region id ops true).wp P Q { tmps := tm.toArray, defers := df } w0 := by
  have e0 : ({ tmps := tm.toArray, defers := df } : Act) = (fun x => ({ tmps := (fillL tm ss x).toArray, defers := df } : Act)) (oldX tm ss) := by simp only [h0]
  rw [e0]
  refine wp_region_any hm (wpAny_free (fun x => { tmps := (fillL tm ss x).toArray, defers := df }) n hn l (by rw [← hdr]; simp; omega) (fun j => by rw [← hdr, List.getElem?_drop]; simp) back chain wit cover mono (fun i hi => each_all step.each i hi) (fun x w hR hG => done x w hR hG _ rfl) _ _ _ _ ?_ (by simp) hR ?_ ?_ ?_)
  · simp
  · intro i hi hl
    have : i < ops.size := by omega
    simp [Array.getD_eq_getD_getElem?, this] at hl
  · intro i hi hi2
    simp [Array.getD_eq_getD_getElem?, hi2]
  · intro i hi hl
    simp [Array.getD_eq_getD_getElem?, hi] at hl
end Go.Wk

/- Signs in base 16. No condition. -/
namespace Go.Proofs.YthacnnmlephkhaaGreatDoor
open Go Go.RowKit Go.Wk
theorem reg_all2 : ∀ c : Fin 256, regB (UInt8.ofNat c.val) = (!whiteI (c.val : Int) && !((c.val : Int) == 40 || (c.val : Int) == 41 || (c.val : Int) == 60 || (c.val : Int) == 62 || (c.val : Int) == 91 || (c.val : Int) == 93 || (c.val : Int) == 123 || (c.val : Int) == 125 || (c.val : Int) == 47 || (c.val : Int) == 37)) := by decide +kernel
set_option maxHeartbeats 2000000 in
theorem ref_Regular (c : UInt8) (w : World) : Calls Tryz.prog 36 #[.int .i64 (c.toNat : Int)] w fun e w' => e = .returned (.bool (regB c)) ∧ w = w' := by
  have hc := c.toNat_lt
  have hr := reg_all2 ⟨c.toNat, hc⟩
  simp only [UInt8.ofNat_toNat] at hr
  rw [hr]
  have cw := fun w => ref_White (c.toNat : Int) w
  obtain ⟨b, hb⟩ : ∃ b, b = whiteI (c.toNat : Int) := ⟨_, rfl⟩
  rw [← hb] at cw ⊢
  obtain ⟨x, hx⟩ : ∃ x : Int, x = (c.toNat : Int) := ⟨_, rfl⟩
  have hx2 : 0 ≤ x ∧ x ≤ 255 := by omega
  rw [← hx] at cw ⊢
  clear hx hr hc hb
  cases b
  all_goals
    go_enter Tryz.func36, Tryz.ntmps36
    go_wp2_with (go_at_call 63; (with_reducible refine (cw _).mono ?_); rintro e w1 ⟨rfl, rfl⟩)
    all_goals go_ret
    all_goals refine ⟨?_, rfl⟩
    all_goals simp_all
theorem and_all15 : ∀ n : Fin 256, bits BinOp.and IntKind.u8 ((n.val : Nat) : Int) 15 = ((n.val % 16 : Nat) : Int) := by decide +kernel
theorem and_15 (c : UInt8) : bits BinOp.and IntKind.u8 (c.toNat : Int) 15 = ((c.toNat % 16 : Nat) : Int) := and_all15 ⟨c.toNat, c.toNat_lt⟩
theorem hex_at : ∀ n : Fin 16, (⟨#[48, 49, 50, 51, 52, 53, 54, 55, 56, 57, 97, 98, 99, 100, 101, 102]⟩ : ByteArray)[n.val]? = some (hexD n.val) := by decide +kernel
def hexB : ByteArray := ⟨#[48, 49, 50, 51, 52, 53, 54, 55, 56, 57, 97, 98, 99, 100, 101, 102]⟩
set_option maxRecDepth 100000 in
theorem hex_idx (n : Nat) (h : n < 16) (W : World) : (Instr.index 9 (.string ⟨#[48, 49, 50, 51, 52, 53, 54, 55, 56, 57, 97, 98, 99, 100, 101, 102]⟩) (.int .u8 (n : Int))).run Tryz.prog W = .ok (.int .u8 ((hexD n).toNat : Int)) W := by
  have : n = 0 ∨ n = 1 ∨ n = 2 ∨ n = 3 ∨ n = 4 ∨ n = 5 ∨ n = 6 ∨ n = 7 ∨ n = 8 ∨ n = 9 ∨ n = 10 ∨ n = 11 ∨ n = 12 ∨ n = 13 ∨ n = 14 ∨ n = 15 := by omega
  rcases this with rfl | rfl | rfl | rfl | rfl | rfl | rfl | rfl | rfl | rfl | rfl | rfl | rfl | rfl | rfl | rfl
  all_goals rfl
set_option maxRecDepth 100000 in
theorem hex_cut (n : Nat) (h : n < 16) (W : World) : (Instr.slice 9 (.string ⟨#[48, 49, 50, 51, 52, 53, 54, 55, 56, 57, 97, 98, 99, 100, 101, 102]⟩) (some (.int .u8 (n : Int))) (some (.int .u8 ((n : Int) + 1))) none).run Tryz.prog W = .ok (.string ⟨#[hexD n]⟩) W := by
  have : n = 0 ∨ n = 1 ∨ n = 2 ∨ n = 3 ∨ n = 4 ∨ n = 5 ∨ n = 6 ∨ n = 7 ∨ n = 8 ∨ n = 9 ∨ n = 10 ∨ n = 11 ∨ n = 12 ∨ n = 13 ∨ n = 14 ∨ n = 15 := by omega
  rcases this with rfl | rfl | rfl | rfl | rfl | rfl | rfl | rfl | rfl | rfl | rfl | rfl | rfl | rfl | rfl | rfl
  all_goals rfl
set_option maxHeartbeats 2000000 in
theorem ref_two (c : UInt8) (w : World) : Calls Tryz.prog 64 #[.int .u8 (c.toNat : Int)] w fun e w' => e = .returned (.string ⟨#[hexD (c.toNat / 16), hexD (c.toNat % 16)]⟩) ∧ Below w.heap.size w w' := by
  have hc := c.toNat_lt
  have ha := and_15 c
  obtain ⟨h, hh⟩ : ∃ h : Nat, h = c.toNat / 16 := ⟨_, rfl⟩
  obtain ⟨l, hl⟩ : ∃ h : Nat, h = c.toNat % 16 := ⟨_, rfl⟩
  have hx : (c.toNat : Int) / 16 = (h : Int) := by omega
  have h16 : h < 16 := by omega
  have l16 : l < 16 := by omega
  rw [← hl] at ha ⊢
  rw [← hh]
  obtain ⟨x, hX⟩ : ∃ x : Int, x = (c.toNat : Int) := ⟨_, rfl⟩
  have hx2 : 0 ≤ x ∧ x ≤ 255 := by omega
  rw [← hX] at hx ha ⊢
  clear hX hh hl hc
  have q1 := hex_cut h h16
  have q2 := hex_cut l l16
  go_enter Tryz.func64, Tryz.ntmps64
  go_wp2
  go_region
  all_goals
    go_wp2
    go_ret
    exact ⟨rfl, (Below.refl _ _).drew⟩
end Go.Proofs.YthacnnmlephkhaaGreatDoor

/- Signs in base 16: Hex. No condition. -/
namespace Go.Proofs.YthacnnmlephkhaaGreatDoor
open Go Go.RowKit Go.Wk
/-- what the operations yield -/
def GX (x : Int) (h l : Nat) (s : Value) : Nat → Value → World → Prop := fun j v w => match j with
  | 0 => v = s
  | 1 | 4 => v = .int .u8 x
  | 2 => v = .int .u8 (h : Int)
  | 3 => v = .int .u8 ((hexD h).toNat : Int)
  | 5 => v = .int .u8 (l : Int)
  | 6 => v = .int .u8 ((hexD l).toNat : Int)
  | _ => ∃ g, v = .slice (some ⟨g, 0, none⟩) 2 2 ∧ Byt w (some ⟨g, 0, none⟩) [hexD h, hexD l]
theorem GX_mono {x : Int} {h l : Nat} {s : Value} (j : Nat) (v : Value) (w w' : World) (hG : GX x h l s j v w) (hk : Below w.heap.size w w') : GX x h l s j v w' := by
  unfold GX at hG ⊢
  split at hG <;> first
    | exact hG
    | (obtain ⟨g, e, hb⟩ := hG; exact ⟨g, e, hb.below hk⟩)
theorem byt_new2 (w : World) (a b : UInt8) (t : TypeId) : Byt (w.alloc (.cells #[.int .u8 (a.toNat : Int), .int .u8 (b.toNat : Int)] t)) (some ⟨w.heap.size, 0, none⟩) [a, b] := by
  refine ⟨by unfold maxLen; simp, fun _ => ⟨_, _, rfl, fun i hi => ?_⟩⟩
  rw [alloc_cell]
  match i, hi with
  | 0, _ => rfl
  | 1, _ => rfl
theorem byt_new1 (w : World) (a : UInt8) (t : TypeId) : Byt (w.alloc (.cells #[.int .u8 (a.toNat : Int)] t)) (some ⟨w.heap.size, 0, none⟩) [a] := by
  refine ⟨by unfold maxLen; simp, fun _ => ⟨_, _, rfl, fun i hi => ?_⟩⟩
  rw [alloc_cell]
  match i, hi with
  | 0, _ => rfl
set_option maxHeartbeats 2000000 in
set_option maxRecDepth 100000 in
theorem asc_Hex (A : Option Addr) (c : Nat) (bs : List UInt8) (w : World) (hb : Byt w A bs) (hl : bs.length ≤ 100000000) :
    Calls Tryz.prog 62 #[.slice A bs.length c] w (RO w (hexS bs ++ [62])) := by
  obtain ⟨m, hm⟩ : ∃ m, m = bs.length := ⟨_, rfl⟩
  rw [← hm] at hl ⊢
  replace hm := Lib.hid hm
  replace hb := Lib.hid hb
  go_enter Tryz.func62, Tryz.ntmps62
  go_wp2
  go_loopw [3, 5, 8] (fun s3 _ s8 wr => ∃ k : Nat, k ≤ m ∧ s8 = .int .i64 k ∧ Own w.heap.size wr s3 (hexS (bs.take k)) ∧ Below w.heap.size w wr) (fun _ _ s8 _ => m - (RowKit.intOf s8).toNat)
  case atStart => exact ⟨0, by omega, rfl, Own.nil _ _, Below.refl _ _⟩
  case round =>
    obtain ⟨k, hk, rfl, hO, hB⟩ := hrel
    by_cases hkm : k < m
    · have hkl : k < bs.length := by rw [← hm.out]; exact hkm
      obtain ⟨b, o, rfl, hcell⟩ := hb.out.2 (by omega)
      obtain ⟨x, hx⟩ : ∃ x, x = bs[k] := ⟨_, rfl⟩
      have hcx : wr.cell? ⟨b, o + k, none⟩ = some (.int .u8 (x.toNat : Int)) := by
        rw [hx]; exact (hB.cell (cell_lt (hcell k hkl))).trans (hcell k hkl)
      have hc8 := x.toNat_lt
      have ha := and_15 x
      obtain ⟨h, hh⟩ : ∃ h : Nat, h = x.toNat / 16 := ⟨_, rfl⟩
      obtain ⟨l, hl⟩ : ∃ h : Nat, h = x.toNat % 16 := ⟨_, rfl⟩
      have hxd : (x.toNat : Int) / 16 = (h : Int) := by omega
      have h16 : h < 16 := by omega
      have l16 : l < 16 := by omega
      rw [← hl] at ha
      have hT : hexS (bs.take (k + 1)) = hexS (bs.take k) ++ [hexD h, hexD l] := by
        rw [List.take_succ_eq_append_getElem hkl, ← hx, hh, hl]
        simp [hexS]
      have hlen : (hexS (bs.take k)).length ≤ 200000000 := by rw [hexS_len, List.length_take]; omega
      have lB := hB.size
      replace hT := Lib.hid hT
      replace hlen := Lib.hid hlen
      replace hB := Lib.hid hB
      replace hO := Lib.hid hO
      obtain ⟨xn, hxn⟩ : ∃ n : Int, n = (x.toNat : Int) := ⟨_, rfl⟩
      have hx2 : 0 ≤ xn ∧ xn ≤ 255 := by omega
      rw [← hxn] at hxd ha hcx
      clear hcell hh hl hc8 hx hxn
      have q1 := hex_idx h h16
      have q2 := hex_idx l l16
      go_wp2
      rename_i K0 hK0
      refine wp_lin_tail (by kernel_rfl) [none, none, none, none, none, none, none, none, none, none, none, none, some 0, some 1, some 2, some 3, some 4, some 5, some 6, some 7, none, none, none, none, none] (fun w' => Below wr.heap.size wr w') (fun w' w'' => Below w'.heap.size w' w'') (GX xn h l u3) (by rfl) (by kernel_rfl) 8 _ rfl (by decide) (by kernel_rfl) [8, 2, 3, 7, 5, 6, 7, 8, 0] (by kernel_rfl) ?hR ?mono (.cons 7 (step_of [3, 6] rfl (by kernel_rfl) ?s7) (.cons 6 (step_of [5] rfl (by kernel_rfl) ?s6) (.cons 5 (step_of [4] rfl (by kernel_rfl) ?s5) (.cons 4 (step_of [] rfl (by kernel_rfl) ?s4) (.cons 3 (step_of [2] rfl (by kernel_rfl) ?s3) (.cons 2 (step_of [1] rfl (by kernel_rfl) ?s2) (.cons 1 (step_of [] rfl (by kernel_rfl) ?s1) (.cons 0 (step_of [] rfl (by kernel_rfl) ?s0) (.nil))))))))) ?done
      case hR => exact (Below.refl _ _).drew
      case mono => exact GX_mono
      case done =>
        intro x w' hR hG fr hfr
        have g0 := hG 0 (by omega)
        have g7 := hG 7 (by omega)
        simp only [GX] at g0 g7
        clear hG
        obtain ⟨g, e7, hby⟩ := g7
        simp only [fillL] at hfr
        rw [g0, e7] at hfr
        subst hfr
        have hO2 := hO.out.below hR
        have hs := hR.size
        replace hR := Lib.hid hR
        refine app_b rfl _ _ rfl w.heap.size _ (hexS (bs.take k)) rfl hO2 (some ⟨g, 0, none⟩) 2 2 [hexD h, hexD l] rfl rfl hby (fun e => (by cases e)) (by have := hlen.out; simp; omega) (by omega) ?_
        intro v' w2 hO3 hB3; replace hO3 := Lib.hid hO3; replace hB3 := Lib.hid hB3
        go_wp2
        go_roundw
        case rel => exact ⟨k + 1, by omega, by go_num, by rw [hT.out]; exact hO3.out, (hB.out.trans (hR.out.mono lB)).trans hB3.out⟩
        case measure => simp [RowKit.intOf]; omega
      case s3 =>
        intro x w' hR hd K hK
        simp only [All, GX] at hd
        obtain ⟨e2, _⟩ := hd
        simp (config := {decide := true}) only [upd, GX, fillL, if_true, if_false] at hK ⊢
        simp only [e2] at hK ⊢
        go_simp
        have hK2 := hK _ _ ⟨hR, Below.refl _ _, rfl⟩
        exact hK2
      case s6 =>
        intro x w' hR hd K hK
        simp only [All, GX] at hd
        obtain ⟨e2, _⟩ := hd
        simp (config := {decide := true}) only [upd, GX, fillL, if_true, if_false] at hK ⊢
        simp only [e2] at hK ⊢
        go_simp
        have hK2 := hK _ _ ⟨hR, Below.refl _ _, rfl⟩
        exact hK2
      case s7 =>
        intro x w' hR hd K hK
        simp only [All, GX] at hd
        obtain ⟨e3, e6, _⟩ := hd
        simp (config := {decide := true}) only [upd, GX, fillL, if_true, if_false] at hK ⊢
        simp only [e3, e6] at hK ⊢
        go_simp
        have hK2 := hK _ _ ⟨hR.alloc hR.size _, (Below.refl _ _).alloc (Nat.le_refl _) _, _, rfl, byt_new2 w' (hexD h) (hexD l) 5⟩
        exact hK2
      all_goals
        intro x w' hR hd K hK
        simp only [All, GX] at hd
        simp (config := {decide := true}) only [upd, GX, fillL, if_true, if_false] at hK ⊢
        try simp only [hd.1] at hK ⊢
        go_simp
        have hK2 := hK _ _ ⟨hR, Below.refl _ _, rfl⟩
        exact hK2
    · obtain rfl : k = m := by omega
      have hT : hexS (bs.take k) = hexS bs := by rw [hm.out, List.take_length]
      rw [hT] at hO
      have hlen : (hexS bs).length ≤ 200000000 := by rw [hexS_len, ← hm.out]; omega
      have lB := hB.size
      replace hT := Lib.hid hT
      replace hB := Lib.hid hB
      replace hlen := Lib.hid hlen
      replace hO := Lib.hid hO
      go_wp2_with (at_builtin; refine app_b rfl _ _ rfl w.heap.size _ (hexS bs) rfl (hO.out.below ((Below.refl _ _).alloc (Nat.le_refl _) _)) (some ⟨wr.heap.size, 0, none⟩) 1 1 [62] rfl rfl (byt_new1 wr 62 5) (fun e => (by cases e)) (by have := hlen.out; simp; omega) (by rw [World.size_alloc]; omega) ?_; intro v' w2 hO3 hB3; replace hO3 := Lib.hid hO3; replace hB3 := Lib.hid hB3)
      go_ret
      exact ⟨_, rfl, hO3.out, (hB.out.alloc lB _).trans hB3.out⟩
end Go.Proofs.YthacnnmlephkhaaGreatDoor

/- Texts put together: row, digits. No condition. -/
namespace Go.Proofs.YthacnnmlephkhaaGreatDoor
open Go Go.RowKit Go.Wk
def bytes (l : List UInt8) : ByteArray := ⟨l.toArray⟩
theorem bytes_list (l : List UInt8) : (bytes l).data.toList = l := rfl
theorem bytes_size (l : List UInt8) : (bytes l).size = l.length := by unfold bytes; show l.toArray.size = _; simp
theorem bytes_app2 (a b : List UInt8) : bytes a ++ bytes b = bytes (a ++ b) := bytes_ext (by rw [bytes_app]; simp [bytes])
set_option maxRecDepth 100000 in
theorem conv_back (w : World) (b o c : Nat) (bs : List UInt8) (h : Byt w (some ⟨b, o, none⟩) bs) : (convert 22 9 (.slice (some ⟨b, o, none⟩) bs.length c)).run Tryz.prog w = .ok (.string (bytes bs)) w := by
  refine run_convert_bytes_back (P := Tryz.prog) w 22 9 5 ⟨b, o, none⟩ c bs Tryz.underlying22 Tryz.underlying5 Tryz.underlying9 (fun j hj => ?_)
  obtain ⟨b', o', e, hc⟩ := h.2 (by omega)
  cases e
  rw [Lib.add_plain]
  exact hc j hj
set_option maxHeartbeats 2000000 in
set_option maxRecDepth 100000 in
theorem prt_row (g o c : Nat) (ss : List ByteArray) (w : World) (hcell : ∀ i (h : i < ss.length), w.cell? ⟨g, o + i, none⟩ = some (.string ss[i])) (hl : (ss.flatMap fun S => S.data.toList).length ≤ 10000000000) (hn : ss.length ≤ 1000) :
    Calls Tryz.prog 34 #[.slice (some ⟨g, o, none⟩) ss.length c] w (RO w (ss.flatMap fun S => S.data.toList)) := by
  obtain ⟨m, hm⟩ : ∃ m, m = ss.length := ⟨_, rfl⟩
  rw [← hm] at hn ⊢
  replace hm := Lib.hid hm
  replace hl := Lib.hid hl
  go_enter Tryz.func34, Tryz.ntmps34
  go_wp2
  go_loopw [3, 5, 8] (fun s3 _ s8 wr => ∃ k : Nat, k ≤ m ∧ s8 = .int .i64 k ∧ Own w.heap.size wr s3 ((ss.take k).flatMap fun S => S.data.toList) ∧ Below w.heap.size w wr) (fun _ _ s8 _ => m - (RowKit.intOf s8).toNat)
  case atStart => exact ⟨0, by omega, rfl, Own.nil _ _, Below.refl _ _⟩
  case round =>
    obtain ⟨k, hk, rfl, hO, hB⟩ := hrel
    by_cases hkm : k < m
    · have hkl : k < ss.length := by rw [← hm.out]; exact hkm
      obtain ⟨S, hS⟩ : ∃ S, S = ss[k] := ⟨_, rfl⟩
      have hcx : wr.cell? ⟨g, o + k, none⟩ = some (.string S) := by
        rw [hS]; exact (hB.cell (cell_lt (hcell k hkl))).trans (hcell k hkl)
      have hT : (ss.take (k + 1)).flatMap (fun S => S.data.toList) = (ss.take k).flatMap (fun S => S.data.toList) ++ S.data.toList := by
        rw [List.take_succ_eq_append_getElem hkl, List.flatMap_append, List.flatMap_cons, List.flatMap_nil, List.append_nil, hS]
      have hlen : ((ss.take k).flatMap (fun S => S.data.toList)).length + S.data.toList.length ≤ 10000000000 := by
        rw [← List.length_append, ← hT]
        refine Nat.le_trans ?_ hl.out
        have e : ss = ss.take (k + 1) ++ ss.drop (k + 1) := (List.take_append_drop _ _).symm
        have : (ss.flatMap fun S => S.data.toList).length = ((ss.take (k + 1)).flatMap fun S => S.data.toList).length + ((ss.drop (k + 1)).flatMap fun S => S.data.toList).length := by
          rw [← List.length_append, ← List.flatMap_append, ← e]
        omega
      have lB := hB.size
      replace hT := Lib.hid hT
      replace hlen := Lib.hid hlen
      replace hB := Lib.hid hB
      replace hO := Lib.hid hO
      replace hS := Lib.hid hS
      clear hcell
      go_wp2_with (at_builtin; refine app_s rfl _ _ rfl w.heap.size _ _ rfl hO.out S S.data.toList rfl rfl (by have := hlen.out; omega) (by omega) ?_; intro v' w2 hO3 hB3; replace hO3 := Lib.hid hO3; replace hB3 := Lib.hid hB3)
      go_roundw
      case rel => exact ⟨k + 1, by omega, by go_num, by rw [hT.out]; exact hO3.out, hB.out.trans hB3.out⟩
      case measure => simp [RowKit.intOf]; omega
    · obtain rfl : k = m := by omega
      have hT : ss.take k = ss := by rw [hm.out, List.take_length]
      rw [hT] at hO
      replace hB := Lib.hid hB
      replace hO := Lib.hid hO
      replace hT := Lib.hid hT
      go_wp2
      go_ret
      exact ⟨_, rfl, hO.out, hB.out⟩
set_option maxHeartbeats 2000000 in
set_option maxRecDepth 100000 in
theorem asc_Hex2 (A : Option Addr) (c : Nat) (bs : List UInt8) (w : World) (hb : Byt w A bs) (hl : bs.length ≤ 100000000) :
    Calls Tryz.prog 62 #[.slice A bs.length c] w fun e w' => ∃ (b1 o1 c1 : Nat), e = .returned (.slice (some ⟨b1, o1, none⟩) ((hexS bs).length + 1) c1) ∧ (hexS bs).length + 1 ≤ c1 ∧ (convert 22 9 (.slice (some ⟨b1, o1, none⟩) (hexS bs).length c1)).run Tryz.prog w' = .ok (.string (bytes (hexS bs))) w' ∧ Below w.heap.size w w' := by
  have h2 := hexS_len bs
  refine (asc_Hex A c bs w hb hl).mono ?_
  rintro e w1 ⟨v, rfl, hO, hB⟩
  obtain ⟨A1, c1, rfl, hb1, _⟩ := hO.out (by rw [List.length_append]; unfold maxLen; simp; omega)
  obtain ⟨b1, o1, rfl, hcs⟩ := hb1.2 (by simp)
  have hlc : (hexS bs ++ [62]).length ≤ c1 := by
    rcases hO.row.2 with ⟨e, _⟩ | ⟨g, cap, cur, e, _, _, hnc, _⟩
    · injection e with e; cases e
    · injection e with _ _ e; rw [e]; omega
  have hbH : Byt w1 (some ⟨b1, o1, none⟩) (hexS bs) := ⟨by unfold maxLen; omega, fun _ => ⟨b1, o1, rfl, fun i hi => by have := hcs i (by simp; omega); rw [List.getElem_append_left hi] at this; exact this⟩⟩
  have e1 : (hexS bs ++ [(62 : UInt8)]).length = (hexS bs).length + 1 := by simp
  rw [e1] at hlc ⊢
  exact ⟨b1, o1, c1, rfl, hlc, conv_back w1 b1 o1 c1 (hexS bs) hbH, hB⟩
set_option maxHeartbeats 2000000 in
set_option maxRecDepth 100000 in
theorem prt_digits (A : Option Addr) (c : Nat) (bs : List UInt8) (w : World) (hb : Byt w A bs) (hl : bs.length ≤ 100000000) :
    Calls Tryz.prog 35 #[.slice A bs.length c] w fun e w' => e = .returned (.string (bytes (hexS bs))) ∧ Below w.heap.size w w' := by
  have ch := asc_Hex2 A c bs w hb hl
  have h2 := hexS_len bs
  obtain ⟨H, hH⟩ : ∃ H, H = bytes (hexS bs) := ⟨_, rfl⟩
  obtain ⟨n, hn⟩ : ∃ n, n = (hexS bs).length := ⟨_, rfl⟩
  rw [← hH, ← hn] at ch
  rw [← hH]
  rw [← hn] at h2
  obtain ⟨m, hm⟩ : ∃ m, m = bs.length := ⟨_, rfl⟩
  rw [← hm] at hl h2 ch ⊢
  have h3 : n ≤ 200000000 := by omega
  clear hm hb hH hn h2
  go_enter Tryz.func35, Tryz.ntmps35
  go_wp2_with (go_at_call 62; (with_reducible refine ch.mono ?_); rintro e w1 ⟨b1, o1, c1, rfl, hlc, hcv, hB⟩; replace hB := Lib.hid hB)
  go_ret
  exact ⟨rfl, hB.out⟩
theorem row1 (W : World) (S1 : ByteArray) (hl : S1.size ≤ 1000000000) : Calls Tryz.prog 34 #[.slice (some ⟨W.heap.size, 0, none⟩) 1 1] (W.alloc (.cells #[.string S1] 9)) (RO (W.alloc (.cells #[.string S1] 9)) S1.data.toList) := by
  have h1 : S1.data.toList.length = S1.size := Array.length_toList
  have h := prt_row W.heap.size 0 1 [S1] (W.alloc (.cells #[.string S1] 9)) (fun i hi => by
    rw [alloc_cell]
    match i, hi with
    | 0, _ => rfl) (by simp only [List.flatMap_cons, List.flatMap_nil, List.append_nil]; omega) (by simp)
  simpa using h
theorem row2 (W : World) (S1 S2 : ByteArray) (hl : S1.size + S2.size ≤ 1000000000) : Calls Tryz.prog 34 #[.slice (some ⟨W.heap.size, 0, none⟩) 2 2] (W.alloc (.cells #[.string S1, .string S2] 9)) (RO (W.alloc (.cells #[.string S1, .string S2] 9)) (S1.data.toList ++ S2.data.toList)) := by
  have h1 : S1.data.toList.length = S1.size := Array.length_toList
  have h2 : S2.data.toList.length = S2.size := Array.length_toList
  have h := prt_row W.heap.size 0 2 [S1, S2] (W.alloc (.cells #[.string S1, .string S2] 9)) (fun i hi => by
    rw [alloc_cell]
    match i, hi with
    | 0, _ => rfl
    | 1, _ => rfl) (by simp only [List.flatMap_cons, List.flatMap_nil, List.append_nil, List.length_append]; omega) (by simp)
  simpa using h
theorem row3 (W : World) (S1 S2 S3 : ByteArray) (hl : S1.size + S2.size + S3.size ≤ 1000000000) : Calls Tryz.prog 34 #[.slice (some ⟨W.heap.size, 0, none⟩) 3 3] (W.alloc (.cells #[.string S1, .string S2, .string S3] 9)) (RO (W.alloc (.cells #[.string S1, .string S2, .string S3] 9)) (S1.data.toList ++ (S2.data.toList ++ S3.data.toList))) := by
  have h1 : S1.data.toList.length = S1.size := Array.length_toList
  have h2 : S2.data.toList.length = S2.size := Array.length_toList
  have h3 : S3.data.toList.length = S3.size := Array.length_toList
  have h := prt_row W.heap.size 0 3 [S1, S2, S3] (W.alloc (.cells #[.string S1, .string S2, .string S3] 9)) (fun i hi => by
    rw [alloc_cell]
    match i, hi with
    | 0, _ => rfl
    | 1, _ => rfl
    | 2, _ => rfl) (by simp only [List.flatMap_cons, List.flatMap_nil, List.append_nil, List.length_append]; omega) (by simp)
  simpa using h
end Go.Proofs.YthacnnmlephkhaaGreatDoor

/- Digits of base 16 by the document; names and texts. No condition. -/
namespace Go.Proofs.YthacnnmlephkhaaGreatDoor
open Go Go.RowKit Go.Wk
set_option maxHeartbeats 2000000 in
set_option maxRecDepth 100000 in
theorem ref_Digits (A : Option Addr) (c : Nat) (bs : List UInt8) (w : World) (hb : Byt w A bs) (hl : bs.length ≤ 100000000) :
    Calls Tryz.prog 37 #[.slice A bs.length c] w fun e w' => e = .returned (.string (bytes (hexS bs))) ∧ Below w.heap.size w w' := by
  obtain ⟨m, hm⟩ : ∃ m, m = bs.length := ⟨_, rfl⟩
  rw [← hm] at hl ⊢
  replace hm := Lib.hid hm
  replace hb := Lib.hid hb
  go_enter Tryz.func37, Tryz.ntmps37
  go_wp2
  go_loopw [3, 4] (fun s3 s4 wr => ∃ k : Nat, k ≤ m ∧ s4 = .int .i64 k ∧ s3 = .string (bytes (hexS (bs.take k))) ∧ Below w.heap.size w wr) (fun _ s4 _ => m - (RowKit.intOf s4).toNat)
  case atStart => exact ⟨0, by omega, rfl, rfl, Below.refl _ _⟩
  case round =>
    obtain ⟨k, hk, rfl, rfl, hB⟩ := hrel
    have zS : (bytes (hexS (bs.take k))).size ≤ 200000000 := by rw [bytes_size, hexS_len, List.length_take]; omega
    obtain ⟨S, hS⟩ : ∃ S, S = bytes (hexS (bs.take k)) := ⟨_, rfl⟩
    rw [← hS] at zS ⊢
    replace hS := Lib.hid hS
    have lB := hB.size
    by_cases hkm : k < m
    · have hkl : k < bs.length := by rw [← hm.out]; exact hkm
      obtain ⟨b, o, rfl, hcell⟩ := hb.out.2 (by omega)
      obtain ⟨x, hx⟩ : ∃ x, x = bs[k] := ⟨_, rfl⟩
      have hcx : wr.cell? ⟨b, o + k, none⟩ = some (.int .u8 (x.toNat : Int)) := by
        rw [hx]; exact (hB.cell (cell_lt (hcell k hkl))).trans (hcell k hkl)
      have ct := ref_two x wr
      obtain ⟨T, hT⟩ : ∃ T : ByteArray, T = ⟨#[hexD (x.toNat / 16), hexD (x.toNat % 16)]⟩ := ⟨_, rfl⟩
      have zT : T.size = 2 := by rw [hT]; rfl
      rw [← hT] at ct
      have hST : S ++ T = bytes (hexS (bs.take (k + 1))) := by
        rw [List.take_succ_eq_append_getElem hkl, ← hx, hS.out]
        have : hexS (bs.take k ++ [x]) = hexS (bs.take k) ++ [hexD (x.toNat / 16), hexD (x.toNat % 16)] := by simp [hexS]
        rw [this, ← bytes_app2, hT]; rfl
      obtain ⟨xi, hxi⟩ : ∃ n : Int, n = (x.toNat : Int) := ⟨_, rfl⟩
      rw [← hxi] at hcx ct
      replace hST := Lib.hid hST
      replace hB := Lib.hid hB
      clear hcell hx hT hxi
      go_wp2_with (go_at_call 64; (with_reducible refine ct.mono ?_); rintro e w2 ⟨rfl, hB2⟩; replace hB2 := Lib.hid hB2)
      go_roundw
      case rel => exact ⟨k + 1, by omega, by go_num, by rw [hST.out], bthen hB.out hB2.out⟩
      case measure => simp [RowKit.intOf]; omega
    · obtain rfl : k = m := by omega
      have hT : bs.take k = bs := by rw [hm.out, List.take_length]
      rw [hT] at hS
      replace hB := Lib.hid hB
      replace hT := Lib.hid hT
      go_wp2
      go_ret
      exact ⟨by rw [hS.out]; rfl, hB.out⟩
theorem own_new1 (w : World) (x : UInt8) : Own w.heap.size (w.alloc (.cells #[.int .u8 (x.toNat : Int)] 5)) (.slice (some ⟨w.heap.size, 0, none⟩) 1 1) [x] := by
  refine ⟨by simp [valsB], .inr ⟨w.heap.size, 1, #[.int .u8 (x.toNat : Int)], rfl, Nat.le_refl _, ?_, Nat.le_refl _, by unfold maxLen; omega, rfl, rfl⟩⟩
  show (w.heap.push _)[w.heap.size]? = _
  simp
/-- does a sign of a name stand for itself? -/
def nameQ (c : UInt8) : Bool := decide (33 ≤ (c.toNat : Int)) && decide ((c.toNat : Int) ≤ 126) && ((c.toNat : Int) != 35) && regB c
theorem nameC_eq (c : UInt8) : nameC c = if nameQ c = true then [c] else 35 :: hexS [c] := by
  unfold nameC nameQ
  have e : (c ≠ 35) ↔ (c.toNat : Int) ≠ 35 := by
    constructor
    · intro h h2
      exact h (UInt8.toNat_inj.1 (by show c.toNat = 35; omega))
    · rintro h rfl; exact h rfl
  congr 1
  simp only [Bool.and_eq_true, decide_eq_true_eq, bne_iff_ne, ne_eq]
  have e : (¬ c = 35) ↔ ¬ (c.toNat : Int) = 35 := e
  rw [e]
  apply propext
  constructor
  · rintro ⟨h1, h2, h3, h4⟩; exact ⟨⟨⟨by omega, by omega⟩, h3⟩, h4⟩
  · rintro ⟨⟨⟨h1, h2⟩, h3⟩, h4⟩; exact ⟨by omega, by omega, h3, h4⟩
theorem names_take {l : List UInt8} {k : Nat} (h : k < l.length) : 47 :: (l.take (k + 1)).flatMap nameC = (47 :: (l.take k).flatMap nameC) ++ nameC l[k] := by
  rw [List.take_succ_eq_append_getElem h, List.flatMap_append, List.flatMap_cons, List.flatMap_nil, List.append_nil, List.cons_append]
theorem byte_idx (S : ByteArray) (k : Nat) (h : k < S.size) (h2 : k < S.data.toList.length) : S[k]'h = S.data.toList[k] := by
  show S.data[k] = _
  rw [Array.getElem_toList]
set_option maxHeartbeats 2000000 in
set_option maxRecDepth 100000 in
theorem prt_Name (S : ByteArray) (w : World) (hl : S.size ≤ 100000000) :
    Calls Tryz.prog 12 #[.string S] w (RO w (nameT S.data.toList)) := by
  have hsz : Hid (S.data.toList.length = S.size) := Lib.hid Array.length_toList
  go_enter Tryz.func12, Tryz.ntmps12
  go_wp2
  go_loopw [3, 4, 5, 9] (fun s3 _ _ s9 wr => ∃ k : Nat, k ≤ S.size ∧ s9 = .int .i64 k ∧ Own w.heap.size wr s3 (47 :: (S.data.toList.take k).flatMap nameC) ∧ Below w.heap.size w wr) (fun _ _ _ s9 _ => S.size - (RowKit.intOf s9).toNat)
  case atStart => exact ⟨0, by omega, rfl, own_new1 w 47, (Below.refl _ _).alloc (Nat.le_refl _) _⟩
  case round =>
    obtain ⟨k, hk, rfl, hO, hB⟩ := hrel
    have hlen : (47 :: (S.data.toList.take k).flatMap nameC).length ≤ 3 * S.size + 1 := by
      have := nameT_len (S.data.toList.take k)
      unfold nameT at this
      rw [List.length_take] at this
      have := hsz.out
      omega
    have lB := hB.size
    replace hlen := Lib.hid hlen
    by_cases hkm : k < S.size
    · have hkl : k < S.data.toList.length := by have := hsz.out; omega
      obtain ⟨x, hx⟩ : ∃ x, x = S.data.toList[k] := ⟨_, rfl⟩
      have hT := names_take hkl
      rw [← hx, nameC_eq] at hT
      have cr := fun w => lex_Regular x w
      have hbi := byte_idx S k hkm hkl
      rw [← hx] at hbi
      have hb1 : Byt (wr.alloc (.cells #[.int .u8 (x.toNat : Int)] 5)) (some ⟨wr.heap.size, 0, none⟩) [x] := byt_new1 wr x 5
      have cd : Calls Tryz.prog 35 #[.slice (some ⟨wr.heap.size, 0, none⟩) 1 1] (wr.alloc (.cells #[.int .u8 (x.toNat : Int)] 5)) fun e w' => e = .returned (.string (bytes (hexS [x]))) ∧ Below (wr.alloc (.cells #[.int .u8 (x.toNat : Int)] 5)).heap.size (wr.alloc (.cells #[.int .u8 (x.toNat : Int)] 5)) w' := prt_digits (some ⟨wr.heap.size, 0, none⟩) 1 [x] (wr.alloc (.cells #[.int .u8 (x.toNat : Int)] 5)) hb1 (by simp)
      have hq : nameQ x = (decide (33 ≤ (x.toNat : Int)) && decide ((x.toNat : Int) ≤ 126) && ((x.toNat : Int) != 35) && regB x) := rfl
      have hx8 : (0 : Int) ≤ (x.toNat : Int) ∧ (x.toNat : Int) ≤ 255 := by have := x.toNat_lt; omega
      obtain ⟨q, hqe⟩ : ∃ q, q = nameQ x := ⟨_, rfl⟩
      obtain ⟨r, hre⟩ : ∃ r, r = regB x := ⟨_, rfl⟩
      have hsk : ((S[k]'hkm).toNat : Int) = (x.toNat : Int) := by rw [hbi]
      rw [← hqe] at hT hq
      rw [← hre] at hq cr
      obtain ⟨xi, hxi⟩ : ∃ n : Int, n = (x.toNat : Int) := ⟨_, rfl⟩
      rw [← hxi] at hx8 hq cr cd hb1 hsk
      replace hT := Lib.hid hT
      replace hB := Lib.hid hB
      replace hO := Lib.hid hO
      replace hb1 := Lib.hid hb1
      replace cd := Lib.hid cd
      replace hq := Lib.hid hq
      clear hx hkl hqe hre hxi hbi
      go_upto_region 6 with (fail)
      go_cut [29] (fun s29 wx => s29 = .bool q ∧ wx = wr)
      case first =>
        obtain ⟨z, hz⟩ : ∃ z, z = (xi != 35) := ⟨_, rfl⟩
        have hq2 := hq.out
        rw [← hz] at hq2
        replace hq2 := Lib.hid hq2
        have hz' := hz.symm
        clear hz
        cases z <;> cases r
        all_goals
          go_wp2_with (go_at_call 33; (with_reducible refine (cr _).mono ?_); rintro e w1 ⟨rfl, rfl⟩)
          all_goals go_meet
          all_goals refine ⟨?_, rfl⟩
          all_goals (have h2 := hq2.out; first | (simp_all; done) | (simp_all; intros; omega))
      case rest =>
        obtain ⟨rfl, rfl⟩ := hcut
        clear hq hsk cr
        cases q with
        | true =>
          go_wp2_with (at_builtin; refine app_b rfl _ _ rfl w.heap.size _ _ rfl (hO.out.below ((Below.refl _ _).alloc (Nat.le_refl _) _)) (some ⟨wc.heap.size, 0, none⟩) 1 1 [x] rfl rfl hb1.out (fun e => (by cases e)) (by have := hlen.out; simp at this ⊢; omega) (by rw [World.size_alloc]; omega) ?_; intro v' w2 hO3 hB3; replace hO3 := Lib.hid hO3; replace hB3 := Lib.hid hB3)
          go_roundw
          case rel => exact ⟨k + 1, by omega, by go_num, by rw [hT.out]; exact hO3.out, (hB.out.alloc lB _).trans hB3.out⟩
          case measure => simp [RowKit.intOf]; omega
        | false =>
          have cd := cd.out
          obtain ⟨X, hX⟩ : ∃ X, X = bytes (hexS [x]) := ⟨_, rfl⟩
          have zX : X.size ≤ 2 := by rw [hX, bytes_size, hexS_len]; simp
          rw [← hX] at cd
          have cr := fun W => row2 W ⟨#[35]⟩ X (by have : (⟨#[35]⟩ : ByteArray).size = 1 := rfl; omega)
          replace hX := Lib.hid hX
          go_wp2_with (first
            | (go_at_call 35; (with_reducible refine cd.mono ?_); rintro e w1 ⟨rfl, hB1⟩; have k2 := cr w1; replace hB1 := Lib.hid hB1)
            | (go_at_call 34; (with_reducible refine k2.mono ?_); rintro e w2 ⟨v, rfl, hO2, hB2⟩; have hX2 : X.data.toList.length = X.size := Array.length_toList; obtain ⟨A2, c2, rfl, hb2, hA2⟩ := hO2.out (by rw [List.length_append]; unfold maxLen; simp; omega); have hBw : Below wc.heap.size wc w2 := bthen ((Below.refl _ _).alloc (Nat.le_refl _) _) (bthen hB1.out (bthen ((Below.refl _ _).alloc (Nat.le_refl _) _) hB2)); have hz2 := hBw.size; replace hBw := Lib.hid hBw; replace hb2 := Lib.hid hb2; replace hX2 := Lib.hid hX2; clear hO2 hB2)
            | (at_builtin; refine app_b rfl _ _ rfl w.heap.size _ _ rfl (hO.out.below hBw.out) A2 _ c2 _ rfl rfl hb2.out hA2 (by have q1 := hlen.out; have q2 := hX2.out; rw [List.length_append, q2]; simp only [List.length_cons, List.length_nil] at q1 ⊢; omega) (by omega) ?_; intro v' w3 hO3 hB3; replace hO3 := Lib.hid hO3; replace hB3 := Lib.hid hB3))
          go_roundw
          case rel =>
            refine ⟨k + 1, by omega, by go_num, ?_, (hB.out.trans (hBw.out.mono lB)).trans hB3.out⟩
            rw [hT.out]
            have := hO3.out
            rw [hX.out] at this
            exact this
          case measure => simp [RowKit.intOf]; omega
    · obtain rfl : k = S.size := by omega
      have hT : S.data.toList.take S.size = S.data.toList := by rw [← hsz.out, List.take_length]
      rw [hT] at hO
      replace hB := Lib.hid hB
      replace hO := Lib.hid hO
      replace hT := Lib.hid hT
      go_wp2
      go_ret
      exact ⟨_, rfl, hO.out, hB.out⟩
end Go.Proofs.YthacnnmlephkhaaGreatDoor

/- Names by the document. No condition. -/
namespace Go.Proofs.YthacnnmlephkhaaGreatDoor
open Go Go.RowKit Go.Wk
theorem conv_bytes (w : World) (s : ByteArray) (hs : s.size ≤ 1000000000) :
    ∃ c W', (convert 9 22 (.string s)).run Tryz.prog w = .ok (.slice (some ⟨w.heap.size, 0, none⟩) s.size c) W' ∧ Byt W' (some ⟨w.heap.size, 0, none⟩) s.data.toList ∧ Below w.heap.size w W' ∧ s.size ≤ c ∧ W'.heap.size = w.heap.size + 1 := by
  have hcv := Lib.run_convert_string_bytes (P := Tryz.prog) w 9 22 5 s (u := .string) Tryz.underlying9 Tryz.underlying22 Tryz.underlying5
  have hlen : s.data.toList.length = s.size := Array.length_toList
  refine ⟨_, _, hcv, ⟨?_, fun _ => ⟨_, 0, rfl, fun i hi => ?_⟩⟩, ⟨rfl, rfl, rfl, by rw [Lib.bytesWorld_size]; omega, fun k hk => Lib.bytesWorld_at_old _ _ _ _ hk⟩, ?_, Lib.bytesWorld_size _ _ _⟩
  · unfold maxLen; omega
  · have := Lib.bytesWorld_cell w 5 s i (by omega)
    rw [Nat.zero_add, this]
    rw [List.getD_eq_getElem?_getD, List.getElem?_eq_getElem hi]; rfl
  · exact grownCap_ge _ _ _ _
set_option maxHeartbeats 4000000 in
set_option maxRecDepth 100000 in
theorem ref_PrintName (S : ByteArray) (w : World) (hl : S.size ≤ 100000000) :
    Calls Tryz.prog 13 #[.string S] w (RO w (nameT S.data.toList)) := by
  have hsz : Hid (S.data.toList.length = S.size) := Lib.hid Array.length_toList
  go_enter Tryz.func13, Tryz.ntmps13
  go_wp2
  go_loopw [3, 4, 5] (fun s3 s9 _ wr => ∃ k : Nat, k ≤ S.size ∧ s9 = .int .i64 k ∧ Own w.heap.size wr s3 (47 :: (S.data.toList.take k).flatMap nameC) ∧ Below w.heap.size w wr) (fun _ s9 _ _ => S.size - (RowKit.intOf s9).toNat)
  case atStart => exact ⟨0, by omega, rfl, own_new1 w 47, (Below.refl _ _).alloc (Nat.le_refl _) _⟩
  case round =>
    obtain ⟨k, hk, rfl, hO, hB⟩ := hrel
    have hlen : (47 :: (S.data.toList.take k).flatMap nameC).length ≤ 3 * S.size + 1 := by
      have := nameT_len (S.data.toList.take k)
      unfold nameT at this
      rw [List.length_take] at this
      have := hsz.out
      omega
    have lB := hB.size
    replace hlen := Lib.hid hlen
    by_cases hkm : k < S.size
    · have hkl : k < S.data.toList.length := by have := hsz.out; omega
      obtain ⟨x, hx⟩ : ∃ x, x = S.data.toList[k] := ⟨_, rfl⟩
      have hT := names_take hkl
      rw [← hx, nameC_eq] at hT
      have cr := fun w => ref_Regular x w
      have hbi := byte_idx S k hkm hkl
      rw [← hx] at hbi
      have hb1 : Byt (wr.alloc (.cells #[.int .u8 (x.toNat : Int)] 5)) (some ⟨wr.heap.size, 0, none⟩) [x] := byt_new1 wr x 5
      have cd : Calls Tryz.prog 37 #[.slice (some ⟨wr.heap.size, 0, none⟩) 1 1] (wr.alloc (.cells #[.int .u8 (x.toNat : Int)] 5)) fun e w' => e = .returned (.string (bytes (hexS [x]))) ∧ Below (wr.alloc (.cells #[.int .u8 (x.toNat : Int)] 5)).heap.size (wr.alloc (.cells #[.int .u8 (x.toNat : Int)] 5)) w' := ref_Digits (some ⟨wr.heap.size, 0, none⟩) 1 [x] (wr.alloc (.cells #[.int .u8 (x.toNat : Int)] 5)) hb1 (by simp)
      have hq : nameQ x = (decide (33 ≤ (x.toNat : Int)) && decide ((x.toNat : Int) ≤ 126) && ((x.toNat : Int) != 35) && regB x) := rfl
      have hx8 : (0 : Int) ≤ (x.toNat : Int) ∧ (x.toNat : Int) ≤ 255 := by have := x.toNat_lt; omega
      obtain ⟨q, hqe⟩ : ∃ q, q = nameQ x := ⟨_, rfl⟩
      obtain ⟨r, hre⟩ : ∃ r, r = regB x := ⟨_, rfl⟩
      have hsk : ((S[k]'hkm).toNat : Int) = (x.toNat : Int) := by rw [hbi]
      rw [← hqe] at hT hq
      rw [← hre] at hq cr
      obtain ⟨xi, hxi⟩ : ∃ n : Int, n = (x.toNat : Int) := ⟨_, rfl⟩
      rw [← hxi] at hx8 hq cr cd hb1 hsk
      replace hT := Lib.hid hT
      replace hB := Lib.hid hB
      replace hO := Lib.hid hO
      replace hb1 := Lib.hid hb1
      replace cd := Lib.hid cd
      replace hq := Lib.hid hq
      clear hx hkl hqe hre hxi hbi
      go_upto_region 6 with (fail)
      go_cut [30] (fun s30 wx => s30 = .bool q ∧ wx = wr)
      case first =>
        obtain ⟨z, hz⟩ : ∃ z, z = (xi != 35) := ⟨_, rfl⟩
        have hq2 := hq.out
        rw [← hz] at hq2
        replace hq2 := Lib.hid hq2
        have hz' := hz.symm
        clear hz
        cases z <;> cases r
        all_goals
          go_wp2_with (go_at_call 36; (with_reducible refine (cr _).mono ?_); rintro e w1 ⟨rfl, rfl⟩)
          all_goals go_meet
          all_goals refine ⟨?_, rfl⟩
          all_goals (have h2 := hq2.out; first | (simp_all; done) | (simp_all; intros; omega))
      case rest =>
        obtain ⟨rfl, rfl⟩ := hcut
        clear hq hsk cr
        cases q with
        | true =>
          go_wp2_with (at_builtin; refine app_b rfl _ _ rfl w.heap.size _ _ rfl (hO.out.below ((Below.refl _ _).alloc (Nat.le_refl _) _)) (some ⟨wc.heap.size, 0, none⟩) 1 1 [x] rfl rfl hb1.out (fun e => (by cases e)) (by have := hlen.out; simp at this ⊢; omega) (by rw [World.size_alloc]; omega) ?_; intro v' w2 hO3 hB3; replace hO3 := Lib.hid hO3; replace hB3 := Lib.hid hB3)
          go_roundw
          case rel => exact ⟨k + 1, by omega, by go_num, by rw [hT.out]; exact hO3.out, (hB.out.alloc lB _).trans hB3.out⟩
          case measure => simp [RowKit.intOf]; omega
        | false =>
          have cd := cd.out
          obtain ⟨X, hX⟩ : ∃ X, X = bytes (hexS [x]) := ⟨_, rfl⟩
          have zX : X.size ≤ 2 := by rw [hX, bytes_size, hexS_len]; simp
          rw [← hX] at cd
          have cv := fun W => conv_bytes W (⟨#[35]⟩ ++ X) (by rw [ByteArray.size_append]; have : (⟨#[35]⟩ : ByteArray).size = 1 := rfl; omega)
          replace hX := Lib.hid hX
          go_wp2_with (first
            | (go_at_call 37; (with_reducible refine cd.mono ?_); rintro e w1 ⟨rfl, hB1⟩; obtain ⟨c2, w2, hcv, hb2, hB2, hc2, _⟩ := cv w1; have hX2 : X.data.toList.length = X.size := Array.length_toList; have hBw : Below wc.heap.size wc w2 := bthen ((Below.refl _ _).alloc (Nat.le_refl _) _) (bthen hB1 hB2); have hz2 := hBw.size; replace hBw := Lib.hid hBw; replace hb2 := Lib.hid hb2; replace hX2 := Lib.hid hX2; clear hB1 hB2 hc2)
            | (at_builtin; refine app_b rfl _ _ rfl w.heap.size _ _ rfl (hO.out.below hBw.out) (some ⟨w1.heap.size, 0, none⟩) _ c2 ([35] ++ X.data.toList) rfl (by have q2 := hX2.out; simp only [List.length_append, List.length_cons, List.length_nil, q2]) (by have := hb2.out; rw [bytes_app] at this; exact this) (fun e => (by cases e)) (by have q1 := hlen.out; have q2 := hX2.out; rw [List.length_append, q2]; simp only [List.length_cons, List.length_nil] at q1 ⊢; omega) (by omega) ?_; intro v' w3 hO3 hB3; replace hO3 := Lib.hid hO3; replace hB3 := Lib.hid hB3))
          go_roundw
          case rel =>
            refine ⟨k + 1, by omega, by go_num, ?_, (hB.out.trans (hBw.out.mono lB)).trans hB3.out⟩
            rw [hT.out]
            have := hO3.out
            rw [hX.out] at this
            exact this
          case measure => simp [RowKit.intOf]; omega
    · obtain rfl : k = S.size := by omega
      have hT : S.data.toList.take S.size = S.data.toList := by rw [← hsz.out, List.take_length]
      rw [hT] at hO
      replace hB := Lib.hid hB
      replace hO := Lib.hid hO
      replace hT := Lib.hid hT
      go_wp2
      go_ret
      exact ⟨_, rfl, hO.out, hB.out⟩
end Go.Proofs.YthacnnmlephkhaaGreatDoor

/- Texts. No condition. -/
namespace Go.Proofs.YthacnnmlephkhaaGreatDoor
open Go Go.RowKit Go.Wk
set_option maxRecDepth 100000 in
theorem conv_any (w : World) (A : Option Addr) (c : Nat) (bs : List UInt8) (h : Byt w A bs) : (convert 22 9 (.slice A bs.length c)).run Tryz.prog w = .ok (.string (bytes bs)) w := by
  cases bs with
  | nil =>
    show (convert 22 9 (.slice A 0 c)).run Tryz.prog w = _
    rw [run_convert_bytes_string w 22 9 5 A 0 c Tryz.underlying22 Tryz.underlying5 Tryz.underlying9]
    cases A <;> rfl
  | cons x l =>
    obtain ⟨b, o, rfl, _⟩ := h.2 (by simp)
    exact conv_back w b o c (x :: l) h
theorem plain_take {l : List UInt8} {k : Nat} (h : k < l.length) (ha : (l.take k).all plainB = true) (hx : plainB l[k] = true) : (l.take (k + 1)).all plainB = true := by
  rw [List.take_succ_eq_append_getElem h, List.all_append, ha, List.all_cons, hx]; rfl
theorem plain_not {l : List UInt8} {k : Nat} (h : k < l.length) (hx : plainB l[k] = false) : l.all plainB = false := by
  rw [List.all_eq_false]; exact ⟨l[k], List.getElem_mem h, by simp [hx]⟩
set_option maxHeartbeats 4000000 in
set_option maxRecDepth 100000 in
theorem prt_Text (A : Option Addr) (c : Nat) (bs : List UInt8) (w : World) (hb : Byt w A bs) (hl : bs.length ≤ 100000000) :
    Calls Tryz.prog 14 #[.slice A bs.length c] w (RO w (textT bs)) := by
  have hdig := fun W (hW : Below w.heap.size w W) => prt_digits A c bs W (hb.below hW) hl
  have hcv := fun W (hW : Below w.heap.size w W) => conv_any W A c bs (hb.below hW)
  obtain ⟨m, hm⟩ : ∃ m, m = bs.length := ⟨_, rfl⟩
  rw [← hm] at hl hdig hcv ⊢
  obtain ⟨X, hX⟩ : ∃ X, X = bytes (hexS bs) := ⟨_, rfl⟩
  have zX : X.size ≤ 200000000 := by rw [hX, bytes_size, hexS_len]; omega
  obtain ⟨Y, hY⟩ : ∃ X, X = bytes bs := ⟨_, rfl⟩
  have zY : Y.size ≤ 200000000 := by rw [hY, bytes_size]; omega
  rw [← hX] at hdig
  rw [← hY] at hcv
  have cr := fun W => row3 W ⟨#[60]⟩ X ⟨#[62]⟩ (by have : (⟨#[60]⟩ : ByteArray).size = 1 := rfl; have : (⟨#[62]⟩ : ByteArray).size = 1 := rfl; omega)
  have cs := fun W => row3 W ⟨#[40]⟩ Y ⟨#[41]⟩ (by have : (⟨#[40]⟩ : ByteArray).size = 1 := rfl; have : (⟨#[41]⟩ : ByteArray).size = 1 := rfl; omega)
  replace hm := Lib.hid hm
  replace hb := Lib.hid hb
  replace hX := Lib.hid hX
  replace hY := Lib.hid hY
  replace hdig := Lib.hid hdig
  replace hcv := Lib.hid hcv
  go_enter Tryz.func14, Tryz.ntmps14
  go_wp2
  go_loopw [4, 7] (fun _ s7 wr => ∃ k : Nat, k ≤ m ∧ s7 = .int .i64 k ∧ (bs.take k).all plainB = true ∧ wr = w) (fun _ s7 _ => m - (RowKit.intOf s7).toNat)
  case atStart => exact ⟨0, by omega, rfl, rfl, rfl⟩
  case round =>
    obtain ⟨k, hk, rfl, hP, rfl⟩ := hrel
    by_cases hkm : k < m
    · have hkl : k < bs.length := by rw [← hm.out]; exact hkm
      obtain ⟨b, o, rfl, hcell⟩ := hb.out.2 (by omega)
      obtain ⟨x, hx⟩ : ∃ x, x = bs[k] := ⟨_, rfl⟩
      have hcx := hcell k hkl
      rw [← hx] at hcx
      have cp := prt_plain x wr
      cases hp : plainB x with
      | true =>
        have hP2 := plain_take hkl hP (by rw [← hx]; exact hp)
        rw [hp] at cp
        obtain ⟨xi, hxi⟩ : ∃ n : Int, n = (x.toNat : Int) := ⟨_, rfl⟩
        rw [← hxi] at hcx cp
        replace hP2 := Lib.hid hP2
        clear hcell hx hxi hP hp
        go_wp2_with (go_at_call 38; (with_reducible refine cp.mono ?_); rintro e w1 ⟨rfl, rfl⟩)
        go_roundw
        case rel => exact ⟨k + 1, by omega, by go_num, hP2.out, (by first | rfl | trivial)⟩
        case measure => simp [RowKit.intOf]; omega
      | false =>
        have hT : textT bs = [60] ++ (X.data.toList ++ [62]) := by
          unfold textT
          rw [plain_not hkl (by rw [← hx]; exact hp), if_neg (by decide), hX.out]; rfl
        rw [hp] at cp
        obtain ⟨xi, hxi⟩ : ∃ n : Int, n = (x.toNat : Int) := ⟨_, rfl⟩
        rw [← hxi] at hcx cp
        have cd := hdig.out wr (Below.refl _ _)
        replace hT := Lib.hid hT
        clear hcell hx hxi hP hp
        go_wp2_with (first
          | (go_at_call 38; (with_reducible refine cp.mono ?_); rintro e w1 ⟨rfl, rfl⟩)
          | (go_at_call 35; (with_reducible refine cd.mono ?_); rintro e w1 ⟨rfl, hB1⟩; have k2 := cr w1; replace hB1 := Lib.hid hB1)
          | (go_at_call 34; (with_reducible refine k2.mono ?_); rintro e w2 ⟨v, rfl, hO2, hB2⟩; replace hB2 := Lib.hid hB2; replace hO2 := Lib.hid hO2))
        go_ret
        refine ⟨_, rfl, ?_, bthen hB1.out (bthen ((Below.refl _ _).alloc (Nat.le_refl _) _) hB2.out)⟩
        rw [hT.out]
        exact hO2.out.base (by rw [World.size_alloc]; have := hB1.out.size; omega)
    · obtain rfl : k = m := by omega
      have hT : textT bs = [40] ++ (Y.data.toList ++ [41]) := by
        rw [hm.out, List.take_length] at hP
        unfold textT
        rw [hP, if_pos rfl, hY.out]; rfl
      have cv := hcv.out wr (Below.refl _ _)
      replace hT := Lib.hid hT
      replace hP := Lib.hid hP
      have k2 := cs wr
      go_wp2_with (go_at_call 34; (with_reducible refine k2.mono ?_); rintro e w2 ⟨v, rfl, hO2, hB2⟩; replace hB2 := Lib.hid hB2; replace hO2 := Lib.hid hO2)
      go_ret
      refine ⟨_, rfl, ?_, bthen ((Below.refl _ _).alloc (Nat.le_refl _) _) hB2.out⟩
      rw [hT.out]
      exact hO2.out.base (by rw [World.size_alloc]; omega)
end Go.Proofs.YthacnnmlephkhaaGreatDoor

/- Texts by the document; bytes held against bytes. No condition. -/
namespace Go.Proofs.YthacnnmlephkhaaGreatDoor
open Go Go.RowKit Go.Wk
theorem plain_int (c : UInt8) : plainB c = (decide (32 ≤ (c.toNat : Int)) && decide ((c.toNat : Int) ≤ 126) && ((c.toNat : Int) != 40) && ((c.toNat : Int) != 41) && ((c.toNat : Int) != 92)) := by
  have key : ∀ c : Fin 256, plainB (UInt8.ofNat c.val) = (decide (32 ≤ (c.val : Int)) && decide ((c.val : Int) ≤ 126) && ((c.val : Int) != 40) && ((c.val : Int) != 41) && ((c.val : Int) != 92)) := by decide +kernel
  have := key ⟨c.toNat, c.toNat_lt⟩
  simpa using this
theorem all_take {l : List UInt8} {k : Nat} (h : k < l.length) : (l.take (k + 1)).all plainB = ((l.take k).all plainB && plainB l[k]) := by
  rw [List.take_succ_eq_append_getElem h, List.all_append, List.all_cons, List.all_nil, Bool.and_true]
set_option maxHeartbeats 4000000 in
set_option maxRecDepth 100000 in
theorem ref_PrintText (A : Option Addr) (c : Nat) (bs : List UInt8) (w : World) (hb : Byt w A bs) (hA : A = none → c = 0) (hl : bs.length ≤ 100000000) :
    Calls Tryz.prog 15 #[.slice A bs.length c] w (RB w (textT bs)) := by
  have hdig := fun W (hW : Below w.heap.size w W) => ref_Digits A c bs W (hb.below hW) hl
  obtain ⟨m, hm⟩ : ∃ m, m = bs.length := ⟨_, rfl⟩
  rw [← hm] at hl hdig ⊢
  obtain ⟨X, hX⟩ : ∃ X, X = bytes (hexS bs) := ⟨_, rfl⟩
  have zX : X.size ≤ 200000000 := by rw [hX, bytes_size, hexS_len]; omega
  rw [← hX] at hdig
  replace hm := Lib.hid hm
  replace hb := Lib.hid hb
  replace hX := Lib.hid hX
  replace hdig := Lib.hid hdig
  replace hA := Lib.hid hA
  go_enter Tryz.func15, Tryz.ntmps15
  go_wp2
  go_loopw [3, 4] (fun s3 s4 wr => ∃ k : Nat, k ≤ m ∧ s4 = .int .i64 k ∧ s3 = .bool ((bs.take k).all plainB) ∧ wr = w) (fun _ s4 _ => m - (RowKit.intOf s4).toNat)
  case atStart => exact ⟨0, by omega, rfl, rfl, rfl⟩
  case round =>
    obtain ⟨k, hk, rfl, rfl, rfl⟩ := hrel
    obtain ⟨P, hP⟩ : ∃ P, P = (bs.take k).all plainB := ⟨_, rfl⟩
    rw [← hP]
    by_cases hkm : k < m
    · have hkl : k < bs.length := by rw [← hm.out]; exact hkm
      obtain ⟨b, o, rfl, hcell⟩ := hb.out.2 (by omega)
      obtain ⟨x, hx⟩ : ∃ x, x = bs[k] := ⟨_, rfl⟩
      have hcx := hcell k hkl
      rw [← hx] at hcx
      have hT := all_take hkl
      rw [← hP, ← hx, plain_int] at hT
      obtain ⟨xi, hxi⟩ : ∃ n : Int, n = (x.toNat : Int) := ⟨_, rfl⟩
      rw [← hxi] at hcx hT
      have hx2 : 0 ≤ xi ∧ xi ≤ 255 := by have := x.toNat_lt; omega
      obtain ⟨z1, hz1⟩ : ∃ z, (xi != 40) = z := ⟨_, rfl⟩
      obtain ⟨z2, hz2⟩ : ∃ z, (xi != 41) = z := ⟨_, rfl⟩
      obtain ⟨z3, hz3⟩ : ∃ z, (xi != 92) = z := ⟨_, rfl⟩
      rw [hz1, hz2, hz3] at hT
      replace hT := Lib.hid hT
      clear hcell hx hxi
      replace hP := Lib.hid hP
      cases P with
      | false =>
        go_wp2
        go_roundw
        case rel => exact ⟨k + 1, by omega, by go_num, by rw [hT.out]; simp, (by first | rfl | trivial)⟩
        case measure => simp [RowKit.intOf]; omega
      | true =>
        by_cases h32 : 32 ≤ xi
        · by_cases h126 : xi ≤ 126
          · have hT2 := hT.out
            simp only [h32, h126, decide_true, Bool.true_and] at hT2
            replace hT2 := Lib.hid hT2
            cases z1 <;> cases z2 <;> cases z3
            all_goals
              go_wp2
              go_roundw
              case rel => exact ⟨k + 1, by omega, by go_num, by rw [hT2.out]; rfl, (by first | rfl | trivial)⟩
              case measure => simp [RowKit.intOf]; omega
          · have hT2 := hT.out
            simp only [h126, decide_false, Bool.and_false, Bool.false_and] at hT2
            replace hT2 := Lib.hid hT2
            go_wp2
            go_roundw
            case rel => exact ⟨k + 1, by omega, by go_num, by rw [hT2.out], (by first | rfl | trivial)⟩
            case measure => simp [RowKit.intOf]; omega
        · have hT2 := hT.out
          simp only [h32, decide_false, Bool.and_false, Bool.false_and] at hT2
          replace hT2 := Lib.hid hT2
          go_wp2
          go_roundw
          case rel => exact ⟨k + 1, by omega, by go_num, by rw [hT2.out], (by first | rfl | trivial)⟩
          case measure => simp [RowKit.intOf]; omega
    · obtain rfl : k = m := by omega
      rw [hm.out, List.take_length] at hP
      cases P with
      | true =>
        have hT : textT bs = [40] ++ bs ++ [41] := by unfold textT; rw [← hP, if_pos rfl]; simp
        have hlb : bs.length = k := hm.out.symm
        replace hT := Lib.hid hT
        replace hP := Lib.hid hP
        replace hlb := Lib.hid hlb
        go_wp2_with (first
          | (at_builtin; refine app_b rfl _ _ rfl wr.heap.size _ [40] rfl (own_new1 wr 40) A k c bs rfl hm.out (hb.out.below ((Below.refl _ _).alloc (Nat.le_refl _) _)) hA.out (by have q := hlb.out; simp only [List.length_append, List.length_cons, List.length_nil]; omega) (by rw [World.size_alloc]; omega) ?_; intro v1 w1 hO1 hB1; have hz1 : wr.heap.size ≤ w1.heap.size := (by have q := hB1.size; rw [World.size_alloc] at q; omega); replace hO1 := Lib.hid hO1; replace hB1 := Lib.hid hB1)
          | (at_builtin; refine app_b rfl _ _ rfl wr.heap.size _ ([40] ++ bs) rfl (hO1.out.below ((Below.refl _ _).alloc (Nat.le_refl _) _)) (some ⟨w1.heap.size, 0, none⟩) 1 1 [41] rfl rfl (byt_new1 w1 41 5) (fun e => (by cases e)) (by have q := hlb.out; simp only [List.length_append, List.length_cons, List.length_nil]; omega) (by rw [World.size_alloc]; omega) ?_; intro v2 w2 hO2 hB2; replace hO2 := Lib.hid hO2; replace hB2 := Lib.hid hB2))
        go_ret
        refine RO.rb ⟨_, rfl, ?_, ?_⟩ ?_
        · rw [hT.out]; exact hO2.out
        · exact (((Below.refl _ _).alloc (Nat.le_refl _) _).trans hB1.out |>.alloc hz1 _).trans hB2.out
        · rw [hT.out]; have := hlb.out; unfold maxLen; simp; omega
      | false =>
        have hT : textT bs = [60] ++ X.data.toList ++ [62] := by unfold textT; rw [← hP, if_neg (by decide), hX.out]; simp [bytes_list]
        have cd := hdig.out wr (Below.refl _ _)
        have zz : (⟨#[60]⟩ ++ X ++ ⟨#[62]⟩ : ByteArray).size ≤ 1000000000 := by rw [ByteArray.size_append, ByteArray.size_append]; have : (⟨#[60]⟩ : ByteArray).size = 1 := rfl; have : (⟨#[62]⟩ : ByteArray).size = 1 := rfl; omega
        have cv := fun W => conv_bytes W (⟨#[60]⟩ ++ X ++ ⟨#[62]⟩) zz
        replace hT := Lib.hid hT
        replace hP := Lib.hid hP
        go_wp2_with (go_at_call 37; (with_reducible refine cd.mono ?_); rintro e w1 ⟨rfl, hB1⟩; obtain ⟨c2, w2, hcv, hb2, hB2, hc2, _⟩ := cv w1; have hX2 : X.data.toList.length = X.size := Array.length_toList; replace hB1 := Lib.hid hB1; replace hB2 := Lib.hid hB2; replace hb2 := Lib.hid hb2; replace hX2 := Lib.hid hX2)
        go_ret
        have hlen : (textT bs).length = 1 + X.size + 1 := by
          rw [hT.out, List.length_append, List.length_append, hX2.out]; rfl
        refine ⟨some ⟨w1.heap.size, 0, none⟩, c2, ?_, ?_, fun e => (by cases e), bthen hB1.out hB2.out⟩
        · rw [hlen]; rfl
        · have := hb2.out
          rw [bytes_app, bytes_app] at this
          rw [hT.out]; exact this
end Go.Proofs.YthacnnmlephkhaaGreatDoor

/- Bytes held against bytes; what kind has what. No condition. -/
namespace Go.Proofs.YthacnnmlephkhaaGreatDoor
open Go Go.RowKit Go.Wk
theorem take_same {l m : List UInt8} {k : Nat} (h1 : k < l.length) (h2 : k < m.length) (h : l.take k = m.take k) (e : l[k] = m[k]) : l.take (k + 1) = m.take (k + 1) := by
  rw [List.take_succ_eq_append_getElem h1, List.take_succ_eq_append_getElem h2, h, e]
set_option maxHeartbeats 4000000 in
set_option maxRecDepth 100000 in
theorem ref_Same (A A' : Option Addr) (c c' : Nat) (xs ys : List UInt8) (w : World) (hb : Byt w A xs) (hb' : Byt w A' ys) (hl : xs.length ≤ 1000000000) (hl' : ys.length ≤ 1000000000) :
    Calls Tryz.prog 11 #[.slice A xs.length c, .slice A' ys.length c'] w fun e w' => e = .returned (.bool (decide (xs = ys))) ∧ Below w.heap.size w w' := by
  obtain ⟨m, hm⟩ : ∃ m, m = xs.length := ⟨_, rfl⟩
  obtain ⟨n, hn⟩ : ∃ m, m = ys.length := ⟨_, rfl⟩
  rw [← hm] at hl ⊢
  rw [← hn] at hl' ⊢
  by_cases hmn : m = n
  · subst hmn
    replace hm := Lib.hid hm
    replace hn := Lib.hid hn
    replace hb := Lib.hid hb
    replace hb' := Lib.hid hb'
    go_enter Tryz.func11, Tryz.ntmps11
    go_wp2
    go_loopw [5] (fun s5 wr => ∃ k : Nat, k ≤ m ∧ s5 = .int .i64 k ∧ xs.take k = ys.take k ∧ Below w.heap.size w wr) (fun s5 _ => m - (RowKit.intOf s5).toNat)
    case atStart => exact ⟨0, by omega, rfl, rfl, Below.refl _ _⟩
    case round =>
      obtain ⟨k, hk, rfl, hP, hB⟩ := hrel
      by_cases hkm : k < m
      · have hkl : k < xs.length := by rw [← hm.out]; exact hkm
        have hkl' : k < ys.length := by rw [← hn.out]; exact hkm
        obtain ⟨b, o, rfl, hcell⟩ := hb.out.2 (by omega)
        obtain ⟨b', o', rfl, hcell'⟩ := hb'.out.2 (by omega)
        obtain ⟨x, hx⟩ : ∃ x, x = xs[k] := ⟨_, rfl⟩
        obtain ⟨y, hy⟩ : ∃ x, x = ys[k] := ⟨_, rfl⟩
        have hcx : wr.cell? ⟨b, o + k, none⟩ = some (.int .u8 (x.toNat : Int)) := by rw [hx]; exact (hB.cell (cell_lt (hcell k hkl))).trans (hcell k hkl)
        have hcy : wr.cell? ⟨b', o' + k, none⟩ = some (.int .u8 (y.toNat : Int)) := by rw [hy]; exact (hB.cell (cell_lt (hcell' k hkl'))).trans (hcell' k hkl')
        by_cases hxy : x = y
        · have hT := take_same hkl hkl' hP (by rw [← hx, ← hy, hxy])
          subst hxy
          replace hT := Lib.hid hT
          replace hB := Lib.hid hB
          replace hP := Lib.hid hP
          clear hcell hcell' hx hy
          go_wp2
          go_region
          all_goals
            go_wp2
            go_roundw
            case rel => exact ⟨k + 1, by omega, by go_num, hT.out, hB.out.drew⟩
            case measure => simp [RowKit.intOf]; omega
        · have hT : decide (xs = ys) = false := by
            simp only [decide_eq_false_iff_not]
            rintro rfl
            exact hxy (by rw [hx, hy])
          have hne : ((x.toNat : Int) != (y.toNat : Int)) = true := by
            rw [bne_iff_ne]
            intro e
            exact hxy (UInt8.toNat_inj.1 (by omega))
          obtain ⟨xi, hxi⟩ : ∃ n : Int, n = (x.toNat : Int) := ⟨_, rfl⟩
          obtain ⟨yi, hyi⟩ : ∃ n : Int, n = (y.toNat : Int) := ⟨_, rfl⟩
          rw [← hxi] at hcx hne
          rw [← hyi] at hcy hne
          replace hT := Lib.hid hT
          replace hB := Lib.hid hB
          replace hP := Lib.hid hP
          clear hcell hcell' hx hy hxy hxi hyi
          go_wp2
          go_region
          all_goals
            go_wp2
            go_ret
            exact ⟨by rw [hT.out]; rfl, hB.out.drew⟩
      · obtain rfl : k = m := by omega
        have hT : decide (xs = ys) = true := by
          have e1 := hm.out
          have e2 := hn.out
          rw [e1, List.take_length] at hP
          rw [← e1, e2, List.take_length] at hP
          exact decide_eq_true hP
        replace hT := Lib.hid hT
        replace hB := Lib.hid hB
        replace hP := Lib.hid hP
        go_wp2
        go_ret
        exact ⟨by rw [hT.out]; rfl, hB.out⟩
  · have hT : decide (xs = ys) = false := by
      simp only [decide_eq_false_iff_not]
      rintro rfl
      exact hmn (by rw [hm, hn])
    rw [hT]
    have hne : ((m : Int) != (n : Int)) = true := by rw [bne_iff_ne]; omega
    clear hb hb' hm hn hT hmn
    go_enter Tryz.func11, Tryz.ntmps11
    go_wp2
    go_ret
    exact ⟨rfl, Below.refl _ _⟩
def hasI (k : Int) : Bool := k == 7 || k == 8
set_option maxHeartbeats 4000000 in
theorem cos_entries (k : Int) (v1 v2 v3 v4 : Value) (w : World) : Calls Tryz.prog 65 #[.agg #[.int .i64 k, v1, v2, v3, v4]] w fun e w' => e = .returned (.bool (hasI k)) ∧ Below w.heap.size w w' := by
  go_enter Tryz.func65, Tryz.ntmps65
  go_wp2
  all_goals go_ret
  all_goals refine ⟨?_, (Below.refl _ _).alloc (Nat.le_refl _) _⟩
  all_goals simp_all [hasI]
set_option maxHeartbeats 4000000 in
theorem ref_Has (k : Int) (v1 v2 v3 v4 : Value) (w : World) : Calls Tryz.prog 50 #[.agg #[.int .i64 k, v1, v2, v3, v4]] w fun e w' => e = .returned (.bool (hasI k)) ∧ Below w.heap.size w w' := by
  go_enter Tryz.func50, Tryz.ntmps50
  go_wp2
  all_goals go_ret
  all_goals refine ⟨?_, (Below.refl _ _).alloc (Nat.le_refl _) _⟩
  all_goals simp_all [hasI]
set_option maxHeartbeats 4000000 in
theorem cos_within (n a b : Int) (w : World) : Calls Tryz.prog 86 #[.int .i64 n, .int .i64 a, .int .i64 b] w fun e w' => e = .returned (.bool (decide (a ≤ n ∧ n ≤ b))) ∧ w = w' := by
  go_enter Tryz.func86, Tryz.ntmps86
  go_wp2
  all_goals go_ret
  all_goals refine ⟨?_, rfl⟩
  all_goals first | (simp_all; done) | (simp_all; omega)
end Go.Proofs.YthacnnmlephkhaaGreatDoor

/- Which fields a kind uses; names. No condition. -/
namespace Go.Proofs.YthacnnmlephkhaaGreatDoor
open Go Go.RowKit Go.Wk
set_option maxHeartbeats 8000000 in
theorem cos_spare (k n : Int) (A AL AD : Option Addr) (c cL cD : Nat) (b : List UInt8) (l : List Ob) (d : List (List UInt8 × Ob)) (w : World) :
    Calls Tryz.prog 85 #[.agg #[.int .i64 k, .int .i64 n, .slice A b.length c, .slice AL l.length cL, .slice AD d.length cD]] w fun e w' => e = .returned (.bool (spareB k n b l d)) ∧ Below w.heap.size w w' := by
  have ce := fun (w : World) => cos_entries k (.int .i64 n) (.slice A b.length c) (.slice AL l.length cL) (.slice AD d.length cD) w
  unfold spareB
  obtain ⟨z1, h1⟩ : ∃ z, (b.length == 0) = z := ⟨_, rfl⟩
  obtain ⟨z2, h2⟩ : ∃ z, (l.length == 0) = z := ⟨_, rfl⟩
  obtain ⟨z3, h3⟩ : ∃ z, (d.length == 0) = z := ⟨_, rfl⟩
  obtain ⟨m1, hm1⟩ : ∃ m, m = b.length := ⟨_, rfl⟩
  obtain ⟨m2, hm2⟩ : ∃ m, m = l.length := ⟨_, rfl⟩
  obtain ⟨m3, hm3⟩ : ∃ m, m = d.length := ⟨_, rfl⟩
  rw [h1, h2, h3]
  rw [← hm1] at h1 ce ⊢
  rw [← hm2] at h2 ce ⊢
  rw [← hm3] at h3 ce ⊢
  have i1 : ((m1 : Int) == 0) = z1 := by rw [← h1, Bool.eq_iff_iff]; simp
  have i2 : ((m2 : Int) == 0) = z2 := by rw [← h2, Bool.eq_iff_iff]; simp
  have i3 : ((m3 : Int) == 0) = z3 := by rw [← h3, Bool.eq_iff_iff]; simp
  clear h1 h2 h3 hm1 hm2 hm3
  obtain ⟨zn, hn⟩ : ∃ z, (n == 0) = z := ⟨_, rfl⟩
  rw [hn]
  obtain ⟨nm, hnm⟩ : ∃ z, (k == 1 || k == 2 || k == 3 || k == 9) = z := ⟨_, rfl⟩
  obtain ⟨tx, htx⟩ : ∃ z, (k == 4 || k == 5 || k == 8) = z := ⟨_, rfl⟩
  obtain ⟨ar, har⟩ : ∃ z, (k == 6) = z := ⟨_, rfl⟩
  obtain ⟨en, hen⟩ : ∃ z, hasI k = z := ⟨_, rfl⟩
  have e7 : (k == 7 || k == 8 || z3) = (en || z3) := by rw [← hen]; rfl
  rw [show (k == 1 || k == 2 || k == 3 || k == 9 || zn) = (nm || zn) by rw [← hnm], show (k == 4 || k == 5 || k == 8 || z1) = (tx || z1) by rw [← htx], har, e7]
  rw [hen] at ce
  clear e7
  replace hen := Lib.hid hen
  replace hnm := Lib.hid hnm
  replace htx := Lib.hid htx
  replace har := Lib.hid har
  go_enter Tryz.func85, Tryz.ntmps85
  go_upto_region 1 with (fail)
  go_cut [3] (fun s3 wx => s3 = .bool nm ∧ wx = w.alloc (.cells #[.int .i64 k, .int .i64 n, .slice A m1 c, .slice AL m2 cL, .slice AD m3 cD] 26))
  case first =>
    obtain ⟨b1, q1⟩ : ∃ z, (k == 1) = z := ⟨_, rfl⟩
    obtain ⟨b2, q2⟩ : ∃ z, (k == 2) = z := ⟨_, rfl⟩
    obtain ⟨b3, q3⟩ : ∃ z, (k == 3) = z := ⟨_, rfl⟩
    obtain ⟨b9, q9⟩ : ∃ z, (k == 9) = z := ⟨_, rfl⟩
    have hn2 := hnm.out
    rw [q1, q2, q3, q9] at hn2
    clear ce
    replace hn2 := Lib.hid hn2
    cases b1 <;> cases b2 <;> cases b3 <;> cases b9
    all_goals
      go_wp2
      go_meet
      exact ⟨by rw [← hn2.out]; rfl, rfl⟩
  case rest =>
    obtain ⟨rfl, rfl⟩ := hcut
    go_upto_region 2 with (fail)
    go_cut [4] (fun s4 wx => s4 = .bool tx ∧ wx = w.alloc (.cells #[.int .i64 k, .int .i64 n, .slice A m1 c, .slice AL m2 cL, .slice AD m3 cD] 26))
    case first =>
      obtain ⟨b4, q4⟩ : ∃ z, (k == 4) = z := ⟨_, rfl⟩
      obtain ⟨b5, q5⟩ : ∃ z, (k == 5) = z := ⟨_, rfl⟩
      obtain ⟨b8, q8⟩ : ∃ z, (k == 8) = z := ⟨_, rfl⟩
      have hn2 := htx.out
      rw [q4, q5, q8] at hn2
      clear ce
      replace hn2 := Lib.hid hn2
      cases b4 <;> cases b5 <;> cases b8
      all_goals
        go_wp2
        go_meet
        exact ⟨by rw [← hn2.out]; rfl, rfl⟩
    case rest =>
      obtain ⟨rfl, rfl⟩ := hcut
      have har2 := har.out
      have hB0 : Below w.heap.size w (w.alloc (.cells #[.int .i64 k, .int .i64 n, .slice A m1 c, .slice AL m2 cL, .slice AD m3 cD] 26)) := (Below.refl _ _).alloc (Nat.le_refl _) _
      replace hB0 := Lib.hid hB0
      have hq4 : (w.alloc (.cells #[.int .i64 k, .int .i64 n, .slice A m1 c, .slice AL m2 cL, .slice AD m3 cD] 26)).cell? ⟨w.heap.size, 4, none⟩ = some (.slice AD m3 cD) := by
        have h := alloc_cell (w := w) (vs := #[.int .i64 k, .int .i64 n, .slice A m1 c, .slice AL m2 cL, .slice AD m3 cD]) (e := 26) (i := 4)
        rw [Nat.zero_add] at h
        exact h
      replace hq4 := Lib.hid hq4
      cases nm <;> cases tx <;> cases ar
      all_goals
        go_wp2_with (go_at_call 65; (with_reducible refine (ce _).mono ?_); rintro e w1 ⟨rfl, hB1⟩; have q4 := (hB1.cell (p := ⟨w.heap.size, 4, none⟩) (cell_lt hq4.out)).trans hq4.out; replace hB1 := Lib.hid hB1)
        all_goals go_ret
        all_goals refine ⟨?_, ?_⟩
        all_goals first | exact hB0.out | exact bthen hB0.out hB1.out | (simp_all; done)
end Go.Proofs.YthacnnmlephkhaaGreatDoor

/- May bytes be a name? No condition. -/
namespace Go.Proofs.YthacnnmlephkhaaGreatDoor
open Go Go.RowKit Go.Wk
theorem has_byte (l : List UInt8) (c : UInt8) : decide (0 ≤ Lib.indexByte l c) = l.contains c := by
  induction l with
  | nil => rfl
  | cons x l ih =>
    unfold Lib.indexByte
    have hge := Lib.indexByte_ge l c
    by_cases h : x = c
    · subst h; simp
    · have h1 : (x == c) = false := by simpa using h
      have h2 : (c == x) = false := by simpa using fun e : c = x => h e.symm
      rw [h1]
      simp only [Bool.false_eq_true, if_false, List.contains_cons, h2, Bool.false_or]
      rw [← ih]
      by_cases h3 : Lib.indexByte l c = -1
      · simp [h3]
      · have h4 : (Lib.indexByte l c == -1) = false := by simpa using h3
        rw [h4]
        simp only [Bool.false_eq_true, if_false]
        apply decide_eq_decide.2
        omega
set_option maxHeartbeats 2000000 in
theorem cos_name (S : ByteArray) (w : World) : Calls Tryz.prog 87 #[.string S] w fun e w' => e = .returned (.bool (nameOk S.data.toList)) ∧ w = w' := by
  have hsz : S.data.toList.length = S.size := Array.length_toList
  have cc := fun w => Tryz.strings_Contains_one S 0 w
  unfold nameOk
  rw [hsz]
  rw [has_byte] at cc
  obtain ⟨z, hz⟩ : ∃ z, S.data.toList.contains 0 = z := ⟨_, rfl⟩
  rw [hz] at cc ⊢
  clear hz hsz
  go_enter Tryz.func87, Tryz.ntmps87
  go_wp2_with (go_at_call 116; (with_reducible refine (cc _).mono ?_); rintro e w1 ⟨rfl, rfl⟩)
  all_goals go_ret
  all_goals refine ⟨?_, rfl⟩
  all_goals first | (simp_all; done) | (simp_all; omega)
theorem no_take {l : List UInt8} {k : Nat} (h : k < l.length) (h1 : (l.take k).contains 0 = false) (h2 : l[k] ≠ 0) : (l.take (k + 1)).contains 0 = false := by
  rw [List.take_succ_eq_append_getElem h]
  rw [Bool.eq_false_iff]
  intro h3
  have h3 := List.contains_iff_mem.1 h3
  rcases List.mem_append.1 h3 with h4 | h4
  · exact absurd (List.contains_iff_mem.2 h4) (by rw [h1]; decide)
  · simp at h4; exact h2 h4.symm
set_option maxHeartbeats 2000000 in
theorem ref_name (A : Option Addr) (c : Nat) (bs : List UInt8) (w : World) (hb : Byt w A bs) : Calls Tryz.prog 76 #[.slice A bs.length c] w fun e w' => e = .returned (.bool (nameOk bs)) ∧ w = w' := by
  have hm0 := hb.1
  unfold nameOk
  obtain ⟨m, hm⟩ : ∃ m, m = bs.length := ⟨_, rfl⟩
  rw [← hm] at hm0 ⊢
  by_cases h127 : m ≤ 127
  · simp only [h127, decide_true, Bool.true_and]
    replace hm := Lib.hid hm
    replace hb := Lib.hid hb
    go_enter Tryz.func76, Tryz.ntmps76
    go_wp2
    go_loopw [3] (fun s3 wr => ∃ k : Nat, k ≤ m ∧ s3 = .int .i64 k ∧ (bs.take k).contains 0 = false ∧ wr = w) (fun s3 _ => m - (RowKit.intOf s3).toNat)
    case atStart => exact ⟨0, by omega, rfl, rfl, rfl⟩
    case round =>
      obtain ⟨k, hk, rfl, hP, rfl⟩ := hrel
      by_cases hkm : k < m
      · have hkl : k < bs.length := by rw [← hm.out]; exact hkm
        obtain ⟨b, o, rfl, hcell⟩ := hb.out.2 (by omega)
        obtain ⟨x, hx⟩ : ∃ x, x = bs[k] := ⟨_, rfl⟩
        have hcx := hcell k hkl
        rw [← hx] at hcx
        by_cases hx0 : x = 0
        · have hT : bs.contains 0 = true := by
            rw [List.contains_iff_mem]; rw [← hx0, hx]; exact List.getElem_mem hkl
          subst hx0
          replace hT := Lib.hid hT
          replace hP := Lib.hid hP
          clear hcell hx
          go_wp2
          go_ret
          exact ⟨by rw [hT.out]; rfl, rfl⟩
        · have hP2 := no_take hkl hP (by rw [← hx]; exact hx0)
          have hx2 : ((x.toNat : Int) == 0) = false := by
            rw [beq_eq_false_iff_ne]; intro e; exact hx0 (UInt8.toNat_inj.1 (by show x.toNat = 0; omega))
          obtain ⟨xi, hxi⟩ : ∃ n : Int, n = (x.toNat : Int) := ⟨_, rfl⟩
          rw [← hxi] at hcx hx2
          replace hP2 := Lib.hid hP2
          clear hcell hx hx0 hxi hP
          go_wp2
          go_roundw
          case rel => exact ⟨k + 1, by omega, by go_num, hP2.out, (by first | rfl | trivial)⟩
          case measure => simp [RowKit.intOf]; omega
      · obtain rfl : k = m := by omega
        rw [hm.out, List.take_length] at hP
        replace hP := Lib.hid hP
        go_wp2
        go_ret
        exact ⟨by rw [hP.out]; rfl, rfl⟩
  · simp only [h127, decide_false, Bool.false_and]
    clear hb hm
    go_enter Tryz.func76, Tryz.ntmps76
    go_wp2
    go_ret
    exact ⟨rfl, rfl⟩
end Go.Proofs.YthacnnmlephkhaaGreatDoor

/- Keys in order. No condition. -/
namespace Go.Proofs.YthacnnmlephkhaaGreatDoor
open Go Go.RowKit Go.Wk Go.Extern Go.Extern.Rtype
theorem less_ltB : ∀ (a b : List UInt8), Op.bytesLess a b = ltB a b
  | [], [] => rfl
  | [], _ :: _ => rfl
  | _ :: _, [] => rfl
  | a :: x, b :: y => by
    have := less_ltB x y
    unfold Op.bytesLess ltB
    rw [this]
    by_cases h1 : a < b
    · simp [h1]
    · by_cases h2 : b < a
      · have h3 : (a == b) = false := by rw [beq_eq_false_iff_ne]; rintro rfl; exact h1 h2
        simp [h1, h2, h3]
      · have h3 : a = b := by
          apply UInt8.toNat_inj.1
          have e1 : ¬ a.toNat < b.toNat := h1
          have e2 : ¬ b.toNat < a.toNat := h2
          omega
        subst h3
        simp [h1]
theorem le_keys (S T : ByteArray) : (Op.bytesLess S.toList T.toList || S.toList == T.toList) = !ltB T.data.toList S.data.toList := by
  rw [ByteArray.toList_eq, ByteArray.toList_eq, ← less_ltB T.data.toList, ← Am.less_tri S.data.toList, Bool.not_not]
set_option maxHeartbeats 2000000 in
theorem may_less (w : World) (dd g oD : Nat) (i k n cD : Nat) (S T : ByteArray) (hi : i < n) (hk : k < n) (hn : n ≤ 1000000000) (h4 : w.cell? ⟨dd, 4, none⟩ = some (.slice (some ⟨g, oD, none⟩) n cD)) (hS : w.cell? ⟨g, oD + i * 6, none⟩ = some (.string S)) (hT : w.cell? ⟨g, oD + k * 6, none⟩ = some (.string T)) :
    Calls Tryz.prog 92 #[.int .i64 i, .int .i64 k, .pointer (some ⟨dd, 0, none⟩)] w fun e w' => e = .returned (.bool (!ltB T.data.toList S.data.toList)) ∧ Below w.heap.size w w' := by
  have hl := le_keys S T
  obtain ⟨z, hz⟩ : ∃ z, (!ltB T.data.toList S.data.toList) = z := ⟨_, rfl⟩
  rw [hz] at hl ⊢
  replace hl := Lib.hid hl
  clear hz
  go_enter Tryz.func92, Tryz.ntmps92
  go_wp2
  go_region
  all_goals
    go_wp2
    go_ret
    exact ⟨by rw [← hl.out]; rfl, (Below.refl _ _).drew⟩
/-- keys, each behind the one ahead -/
def upTo (f : Nat → Bool) (n : Nat) : Bool := (List.range n).all fun i => i == 0 || f i
theorem type24 : ∃ i, Tryz.prog.info? 24 = some i ∧ i.desc = .slice 53 := ⟨Tryz.t24, by kernel_rfl, by kernel_rfl⟩
set_option maxHeartbeats 4000000 in
set_option maxRecDepth 100000 in
theorem srt_Is (w : World) (AD : Option Addr) (n cD dd : Nat) (f : Nat → Bool) (hn : n ≤ 1000000000)
    (less : ∀ i W, 0 < i → i < n → Below w.heap.size w W → Calls Tryz.prog 92 #[.int .i64 i, .int .i64 ((i : Int) - 1), .pointer (some ⟨dd, 0, none⟩)] W fun e w' => e = .returned (.bool (!f i)) ∧ Below W.heap.size W w') :
    Calls Tryz.prog 91 #[.iface 24 (.slice AD n cD), .func (.func 92) #[] #[.pointer (some ⟨dd, 0, none⟩)]] w fun e w' => e = .returned (.bool (upTo f n)) ∧ Below w.heap.size w w' := by
  obtain ⟨i0, hi0, hd0⟩ := type24
  have hv := Lib.run_valueOf_slice (P := Tryz.prog) 24 53 i0 hi0 hd0 AD n cD w
  have hl := fun a w ha => Lib.run_valueLen_slice (P := Tryz.prog) 24 53 i0 hi0 hd0 (by kernel_rfl) a AD n cD w ha
  have hgl : Tryz.prog.globals.size = 6 := by kernel_rfl
  simp only [typeHandle, hgl] at hv hl
  clear hi0 hd0
  replace less := Lib.hid less
  go_enter Tryz.func91, Tryz.ntmps91
  go_wp2
  rw [run_callFunc_extern Tryz.func118 (by kernel_rfl) (by kernel_rfl) (by kernel_rfl) (e := fun args => Extern.ReflectliteValue.unpack (args.getD 0 (.tuple #[]))) (by kernel_rfl),
    show Sem.run Tryz.prog ((fun args : Array Value => Extern.ReflectliteValue.unpack (args.getD 0 (.tuple #[]))) #[.iface 24 (.slice AD n cD)]) w = _ from hv]
  simp only [Result.andThen]
  rw [Oper.upon_value]
  go_wp2
  rw [run_callFunc_extern Tryz.func119 (by kernel_rfl) (by kernel_rfl) (by kernel_rfl) (e := Extern.ReflectliteValue.method (Extern.ReflectliteValue.valueError "reflectlite.Value.Len" 0) Extern.ReflectliteValue.len) (by kernel_rfl), hl _ _ (by simp)]
  simp only [Result.andThen]
  rw [Oper.upon_value]
  go_wp2
  go_loopw [7] (fun s7 wr => ∃ i : Nat, i ≤ n ∧ s7 = .int .i64 ((i : Int) - 1) ∧ (∀ k, i ≤ k → k < n → k = 0 ∨ f k = true) ∧ Below w.heap.size w wr) (fun s7 _ => (RowKit.intOf s7).toNat)
  case atStart => exact ⟨n, Nat.le_refl _, rfl, fun k h1 h2 => by omega, ((Below.refl _ _).alloc (Nat.le_refl _) _).alloc (by simp) _⟩
  case round =>
    obtain ⟨i, hin, rfl, hP, hB⟩ := hrel
    by_cases hi : 1 < i
    · obtain ⟨j, rfl⟩ : ∃ j, i = j + 1 := ⟨i - 1, by omega⟩
      have cl := less.out j wr (by omega) (by omega) hB
      have e1 : (((j + 1 : Nat) : Int) - 1) = (j : Int) := by omega
      rw [e1]
      cases hf : f j with
      | true =>
        rw [hf] at cl
        have hP2 : ∀ k, j ≤ k → k < n → k = 0 ∨ f k = true := fun k h1 h2 => by
          by_cases h3 : j = k
          · subst h3; exact .inr hf
          · exact hP k (by omega) h2
        replace hP2 := Lib.hid hP2
        replace hB := Lib.hid hB
        clear hP hf e1
        go_wp2_with (go_at_call 92; (with_reducible refine cl.mono ?_); rintro e w1 ⟨rfl, hB1⟩; replace hB1 := Lib.hid hB1)
        go_roundw
        case rel => exact ⟨j, by omega, rfl, hP2.out, bthen hB.out hB1.out⟩
        case measure => simp [RowKit.intOf]; omega
      | false =>
        rw [hf] at cl
        have hT : upTo f n = false := by
          unfold upTo
          rw [List.all_eq_false]
          exact ⟨j, List.mem_range.2 (by omega), by simp [hf]; omega⟩
        replace hT := Lib.hid hT
        replace hB := Lib.hid hB
        replace hP := Lib.hid hP
        clear hf e1
        go_wp2_with (go_at_call 92; (with_reducible refine cl.mono ?_); rintro e w1 ⟨rfl, hB1⟩; replace hB1 := Lib.hid hB1)
        go_ret
        exact ⟨by rw [hT.out]; rfl, bthen hB.out hB1.out⟩
    · have hT : upTo f n = true := by
        unfold upTo
        rw [List.all_eq_true]
        intro k hk
        have hk := List.mem_range.1 hk
        by_cases h0 : k = 0
        · simp [h0]
        · rcases hP k (by omega) hk with h | h
          · exact absurd h h0
          · simp [h]
      have hg : decide ((0 : Int) < (i : Int) - 1) = false := by simp; omega
      replace hT := Lib.hid hT
      replace hB := Lib.hid hB
      replace hP := Lib.hid hP
      go_wp2
      go_ret
      exact ⟨by rw [hT.out]; rfl, hB.out⟩
end Go.Proofs.YthacnnmlephkhaaGreatDoor

/- Is there one among objects, among entries? No condition. -/
namespace Go.Proofs.YthacnnmlephkhaaGreatDoor
open Go Go.RowKit Go.Wk
theorem five_list {α : Type} (us : List α) (h : us.length = 5) : ∃ c0 c1 c2 c3 c4, us = [c0, c1, c2, c3, c4] := by
  match us, h with
  | [c0, c1, c2, c3, c4], _ => exact ⟨_, _, _, _, _, rfl⟩
theorem six_list {α : Type} (us : List α) (h : us.length = 6) : ∃ c0 c1 c2 c3 c4 c5, us = [c0, c1, c2, c3, c4, c5] := by
  match us, h with
  | [c0, c1, c2, c3, c4, c5], _ => exact ⟨_, _, _, _, _, _, rfl⟩
set_option maxHeartbeats 4000000 in
set_option maxRecDepth 100000 in
theorem idx_obj (w : World) (AL : Option Addr) (g oL n cL dd : Nat) (p : Nat → Bool) (vl : Nat → List Value) (hn : n ≤ 1000000000) (hA : 0 < n → AL = some ⟨g, oL, none⟩) (h5 : ∀ i, i < n → (vl i).length = 5)
    (hc : ∀ i, i < n → ∀ j, j < 5 → w.cell? ⟨g, oL + (5 * i + j), none⟩ = (vl i)[j]?)
    (call : ∀ i W, i < n → Below w.heap.size w W → Calls Tryz.prog 89 #[.agg (vl i).toArray, .pointer (some ⟨dd, 0, none⟩)] W fun e w' => e = .returned (.bool (p i)) ∧ Below W.heap.size W w') :
    Calls Tryz.prog 117 #[.slice AL n cL, .func (.func 89) #[] #[.pointer (some ⟨dd, 0, none⟩)]] w fun e w' => ∃ j : Int, e = .returned (.int .i64 j) ∧ decide (0 ≤ j) = (List.range n).any p ∧ Below w.heap.size w w' := by
  replace call := Lib.hid call
  replace hc := Lib.hid hc
  replace h5 := Lib.hid h5
  replace hA := Lib.hid hA
  go_enter Tryz.func117, Tryz.ntmps117
  go_wp2
  go_loopw [5, 8] (fun _ s8 wr => ∃ k : Nat, k ≤ n ∧ s8 = .int .i64 k ∧ (∀ i, i < k → p i = false) ∧ Below w.heap.size w wr) (fun _ s8 _ => n - (RowKit.intOf s8).toNat)
  case atStart => exact ⟨0, by omega, rfl, fun i hi => by omega, Below.refl _ _⟩
  case round =>
    obtain ⟨k, hk, rfl, hP, hB⟩ := hrel
    by_cases hkn : k < n
    · have hA := hA.out (by omega)
      subst hA
      have h5k := h5.out k hkn
      have hck := hc.out k hkn
      have cl := call.out k wr hkn hB
      obtain ⟨us, hus⟩ : ∃ us, us = vl k := ⟨_, rfl⟩
      rw [← hus] at h5k hck cl
      · obtain ⟨c0, c1, c2, c3, c4, rfl⟩ := five_list us h5k
        have w0 : w.cell? ⟨g, oL + k * 5, none⟩ = some c0 := by have := hck 0 (by omega); rw [Nat.mul_comm, Nat.add_zero] at this; exact this
        have w1 : w.cell? ⟨g, oL + k * 5 + 1, none⟩ = some c1 := by have := hck 1 (by omega); rw [Nat.mul_comm, ← Nat.add_assoc] at this; exact this
        have w2 : w.cell? ⟨g, oL + k * 5 + 2, none⟩ = some c2 := by have := hck 2 (by omega); rw [Nat.mul_comm, ← Nat.add_assoc] at this; exact this
        have w3 : w.cell? ⟨g, oL + k * 5 + 3, none⟩ = some c3 := by have := hck 3 (by omega); rw [Nat.mul_comm, ← Nat.add_assoc] at this; exact this
        have w4 : w.cell? ⟨g, oL + k * 5 + 4, none⟩ = some c4 := by have := hck 4 (by omega); rw [Nat.mul_comm, ← Nat.add_assoc] at this; exact this
        have x0 := (hB.cell (cell_lt w0)).trans w0
        have x1 := (hB.cell (cell_lt w1)).trans w1
        have x2 := (hB.cell (cell_lt w2)).trans w2
        have x3 := (hB.cell (cell_lt w3)).trans w3
        have x4 := (hB.cell (cell_lt w4)).trans w4
        clear w0 w1 w2 w3 w4 hck hus h5k
        cases hp : p k with
        | true =>
          rw [hp] at cl
          have hT : (List.range n).any p = true := List.any_eq_true.2 ⟨k, List.mem_range.2 hkn, hp⟩
          replace hT := Lib.hid hT
          replace hB := Lib.hid hB
          replace hP := Lib.hid hP
          clear hp
          go_wp2_with (go_at_call 89; (with_reducible refine cl.mono ?_); rintro e w1 ⟨rfl, hB1⟩; replace hB1 := Lib.hid hB1)
          go_ret
          exact ⟨k, rfl, by rw [hT.out]; simp, bthen hB.out hB1.out⟩
        | false =>
          rw [hp] at cl
          have hP2 : ∀ i, i < k + 1 → p i = false := fun i hi => by
            by_cases h : i = k
            · subst h; exact hp
            · exact hP i (by omega)
          replace hP2 := Lib.hid hP2
          replace hB := Lib.hid hB
          clear hP hp
          go_wp2_with (go_at_call 89; (with_reducible refine cl.mono ?_); rintro e w1 ⟨rfl, hB1⟩; replace hB1 := Lib.hid hB1)
          go_roundw
          case rel => exact ⟨k + 1, by omega, by go_num, hP2.out, bthen hB.out hB1.out⟩
          case measure => simp [RowKit.intOf]; omega
    · obtain rfl : k = n := by omega
      have hT : (List.range k).any p = false := by
        rw [List.any_eq_false]
        intro i hi
        rw [hP i (List.mem_range.1 hi)]; decide
      replace hT := Lib.hid hT
      replace hB := Lib.hid hB
      replace hP := Lib.hid hP
      go_wp2
      go_ret
      exact ⟨-1, rfl, by rw [hT.out]; rfl, hB.out⟩
set_option maxHeartbeats 4000000 in
set_option maxRecDepth 100000 in
theorem idx_ent (w : World) (AL : Option Addr) (g oL n cL dd : Nat) (p : Nat → Bool) (vl : Nat → List Value) (hn : n ≤ 1000000000) (hA : 0 < n → AL = some ⟨g, oL, none⟩) (h5 : ∀ i, i < n → (vl i).length = 6)
    (hc : ∀ i, i < n → ∀ j, j < 6 → w.cell? ⟨g, oL + (6 * i + j), none⟩ = (vl i)[j]?)
    (call : ∀ i W, i < n → Below w.heap.size w W → Calls Tryz.prog 94 #[.agg (vl i).toArray, .pointer (some ⟨dd, 0, none⟩)] W fun e w' => e = .returned (.bool (p i)) ∧ Below W.heap.size W w') :
    Calls Tryz.prog 104 #[.slice AL n cL, .func (.func 94) #[] #[.pointer (some ⟨dd, 0, none⟩)]] w fun e w' => ∃ j : Int, e = .returned (.int .i64 j) ∧ decide (0 ≤ j) = (List.range n).any p ∧ Below w.heap.size w w' := by
  replace call := Lib.hid call
  replace hc := Lib.hid hc
  replace h5 := Lib.hid h5
  replace hA := Lib.hid hA
  go_enter Tryz.func104, Tryz.ntmps104
  go_wp2
  go_loopw [5, 8] (fun _ s8 wr => ∃ k : Nat, k ≤ n ∧ s8 = .int .i64 k ∧ (∀ i, i < k → p i = false) ∧ Below w.heap.size w wr) (fun _ s8 _ => n - (RowKit.intOf s8).toNat)
  case atStart => exact ⟨0, by omega, rfl, fun i hi => by omega, Below.refl _ _⟩
  case round =>
    obtain ⟨k, hk, rfl, hP, hB⟩ := hrel
    by_cases hkn : k < n
    · have hA := hA.out (by omega)
      subst hA
      have h5k := h5.out k hkn
      have hck := hc.out k hkn
      have cl := call.out k wr hkn hB
      obtain ⟨us, hus⟩ : ∃ us, us = vl k := ⟨_, rfl⟩
      rw [← hus] at h5k hck cl
      · obtain ⟨c0, c1, c2, c3, c4, c5, rfl⟩ := six_list us h5k
        have w0 : w.cell? ⟨g, oL + k * 6, none⟩ = some c0 := by have := hck 0 (by omega); rw [Nat.mul_comm, Nat.add_zero] at this; exact this
        have w1 : w.cell? ⟨g, oL + k * 6 + 1, none⟩ = some c1 := by have := hck 1 (by omega); rw [Nat.mul_comm, ← Nat.add_assoc] at this; exact this
        have w2 : w.cell? ⟨g, oL + k * 6 + 2, none⟩ = some c2 := by have := hck 2 (by omega); rw [Nat.mul_comm, ← Nat.add_assoc] at this; exact this
        have w3 : w.cell? ⟨g, oL + k * 6 + 3, none⟩ = some c3 := by have := hck 3 (by omega); rw [Nat.mul_comm, ← Nat.add_assoc] at this; exact this
        have w4 : w.cell? ⟨g, oL + k * 6 + 4, none⟩ = some c4 := by have := hck 4 (by omega); rw [Nat.mul_comm, ← Nat.add_assoc] at this; exact this
        have w5 : w.cell? ⟨g, oL + k * 6 + 5, none⟩ = some c5 := by have := hck 5 (by omega); rw [Nat.mul_comm, ← Nat.add_assoc] at this; exact this
        have x5 := (hB.cell (cell_lt w5)).trans w5
        have x0 := (hB.cell (cell_lt w0)).trans w0
        have x1 := (hB.cell (cell_lt w1)).trans w1
        have x2 := (hB.cell (cell_lt w2)).trans w2
        have x3 := (hB.cell (cell_lt w3)).trans w3
        have x4 := (hB.cell (cell_lt w4)).trans w4
        clear w0 w1 w2 w3 w4 w5 hck hus h5k
        cases hp : p k with
        | true =>
          rw [hp] at cl
          have hT : (List.range n).any p = true := List.any_eq_true.2 ⟨k, List.mem_range.2 hkn, hp⟩
          replace hT := Lib.hid hT
          replace hB := Lib.hid hB
          replace hP := Lib.hid hP
          clear hp
          go_wp2_with (go_at_call 94; (with_reducible refine cl.mono ?_); rintro e w1 ⟨rfl, hB1⟩; replace hB1 := Lib.hid hB1)
          go_ret
          exact ⟨k, rfl, by rw [hT.out]; simp, bthen hB.out hB1.out⟩
        | false =>
          rw [hp] at cl
          have hP2 : ∀ i, i < k + 1 → p i = false := fun i hi => by
            by_cases h : i = k
            · subst h; exact hp
            · exact hP i (by omega)
          replace hP2 := Lib.hid hP2
          replace hB := Lib.hid hB
          clear hP hp
          go_wp2_with (go_at_call 94; (with_reducible refine cl.mono ?_); rintro e w1 ⟨rfl, hB1⟩; replace hB1 := Lib.hid hB1)
          go_roundw
          case rel => exact ⟨k + 1, by omega, by go_num, hP2.out, bthen hB.out hB1.out⟩
          case measure => simp [RowKit.intOf]; omega
    · obtain rfl : k = n := by omega
      have hT : (List.range k).any p = false := by
        rw [List.any_eq_false]
        intro i hi
        rw [hP i (List.mem_range.1 hi)]; decide
      replace hT := Lib.hid hT
      replace hB := Lib.hid hB
      replace hP := Lib.hid hP
      go_wp2
      go_ret
      exact ⟨-1, rfl, by rw [hT.out]; rfl, hB.out⟩
set_option maxHeartbeats 2000000 in
theorem cnt_obj (w : World) (AL : Option Addr) (g oL n cL dd : Nat) (p : Nat → Bool) (vl : Nat → List Value) (hn : n ≤ 1000000000) (hA : 0 < n → AL = some ⟨g, oL, none⟩) (h5 : ∀ i, i < n → (vl i).length = 5)
    (hc : ∀ i, i < n → ∀ j, j < 5 → w.cell? ⟨g, oL + (5 * i + j), none⟩ = (vl i)[j]?)
    (call : ∀ i W, i < n → Below w.heap.size w W → Calls Tryz.prog 89 #[.agg (vl i).toArray, .pointer (some ⟨dd, 0, none⟩)] W fun e w' => e = .returned (.bool (p i)) ∧ Below W.heap.size W w') :
    Calls Tryz.prog 88 #[.slice AL n cL, .func (.func 89) #[] #[.pointer (some ⟨dd, 0, none⟩)]] w fun e w' => e = .returned (.bool ((List.range n).any p)) ∧ Below w.heap.size w w' := by
  have ci := idx_obj w AL g oL n cL dd p vl hn hA h5 hc call
  obtain ⟨z, hz⟩ : ∃ z, (List.range n).any p = z := ⟨_, rfl⟩
  rw [hz] at ci ⊢
  clear hz call hc h5 hA
  go_enter Tryz.func88, Tryz.ntmps88
  go_wp2_with (go_at_call 117; (with_reducible refine ci.mono ?_); rintro e w1 ⟨j, rfl, hj, hB1⟩; replace hB1 := Lib.hid hB1; replace hj := Lib.hid hj)
  all_goals go_ret
  all_goals refine ⟨?_, hB1.out⟩
  all_goals (rw [← hj.out]; simp_all)
set_option maxHeartbeats 2000000 in
theorem cnt_ent (w : World) (AL : Option Addr) (g oL n cL dd : Nat) (p : Nat → Bool) (vl : Nat → List Value) (hn : n ≤ 1000000000) (hA : 0 < n → AL = some ⟨g, oL, none⟩) (h5 : ∀ i, i < n → (vl i).length = 6)
    (hc : ∀ i, i < n → ∀ j, j < 6 → w.cell? ⟨g, oL + (6 * i + j), none⟩ = (vl i)[j]?)
    (call : ∀ i W, i < n → Below w.heap.size w W → Calls Tryz.prog 94 #[.agg (vl i).toArray, .pointer (some ⟨dd, 0, none⟩)] W fun e w' => e = .returned (.bool (p i)) ∧ Below W.heap.size W w') :
    Calls Tryz.prog 93 #[.slice AL n cL, .func (.func 94) #[] #[.pointer (some ⟨dd, 0, none⟩)]] w fun e w' => e = .returned (.bool ((List.range n).any p)) ∧ Below w.heap.size w w' := by
  have ci := idx_ent w AL g oL n cL dd p vl hn hA h5 hc call
  obtain ⟨z, hz⟩ : ∃ z, (List.range n).any p = z := ⟨_, rfl⟩
  rw [hz] at ci ⊢
  clear hz call hc h5 hA
  go_enter Tryz.func93, Tryz.ntmps93
  go_wp2_with (go_at_call 104; (with_reducible refine ci.mono ?_); rintro e w1 ⟨j, rfl, hj, hB1⟩; replace hB1 := Lib.hid hB1; replace hj := Lib.hid hj)
  all_goals go_ret
  all_goals refine ⟨?_, hB1.out⟩
  all_goals (rw [← hj.out]; simp_all)
end Go.Proofs.YthacnnmlephkhaaGreatDoor

/- May an object be? By the program. No condition. -/
namespace Go.Proofs.YthacnnmlephkhaaGreatDoor
open Go Go.RowKit Go.Wk
/-- what stands in an object: the program's answer, at so many in one another -/
def InnerC (dep : Nat) : Prop := ∀ (o : Ob) (vs : List Value) (w : World), ObAt w o vs → o.bulk ≤ 1048576 → Calls Tryz.prog 90 #[.agg vs.toArray, .int .i64 (dep : Int)] w fun e w' => e = .returned (.bool (o.kind != 8 && o.may dep)) ∧ Below w.heap.size w w'
def MayC (dep : Nat) : Prop := ∀ (o : Ob) (vs : List Value) (w : World), ObAt w o vs → o.bulk ≤ 1048576 → Calls Tryz.prog 58 #[.agg vs.toArray, .int .i64 (dep : Int)] w fun e w' => e = .returned (.bool (o.may dep)) ∧ Below w.heap.size w w'
theorem ob_vals {w : World} {o : Ob} {vs : List Value} (h : ObAt w o vs) : ∃ v1 v2 v3 v4, vs = [.int .i64 o.kind, v1, v2, v3, v4] := by
  cases h with
  | mk k n b l d A AL AD c cL cD gL oL gD oD vl vd => exact ⟨_, _, _, _, rfl⟩
set_option maxHeartbeats 2000000 in
theorem cos_inner (dep : Nat) (hd : dep ≤ 28) (hm : MayC dep) : InnerC dep := by
  intro o vs w h hb
  have hb0 : ∀ ob, Below w.heap.size w (w.alloc ob) := fun ob => (Below.refl _ _).alloc (Nat.le_refl _) _
  have cm := fun ob => hm o vs (w.alloc ob) (h.kept (hb0 ob)) hb
  obtain ⟨v1, v2, v3, v4, rfl⟩ := ob_vals h
  obtain ⟨k, hk⟩ : ∃ k, o.kind = k := ⟨_, rfl⟩
  rw [hk] at cm ⊢
  obtain ⟨z, hz⟩ : ∃ z, o.may dep = z := ⟨_, rfl⟩
  rw [hz] at cm ⊢
  obtain ⟨y, hy⟩ : ∃ y, (k != 8) = y := ⟨_, rfl⟩
  rw [hy]
  replace hb0 := Lib.hid hb0
  clear hz hk h hb hm
  cases y
  all_goals
    go_enter Tryz.func90, Tryz.ntmps90
    go_wp2_with (go_at_call 58; (with_reducible refine (cm _).mono ?_); rintro e w1 ⟨rfl, hB1⟩; replace hB1 := Lib.hid hB1)
    go_ret
    refine ⟨by simp, ?_⟩
    first | exact hb0.out _ | exact bthen (hb0.out _) hB1.out
set_option maxHeartbeats 2000000 in
theorem may_clo (dep : Nat) (hd : dep ≤ 28) (hi : InnerC dep) (dd : Nat) (o : Ob) (vs : List Value) (w : World) (h : ObAt w o vs) (hb : o.bulk ≤ 1048576) (hD : w.cell? ⟨dd, 0, none⟩ = some (.int .i64 ((dep : Int) + 1))) :
    Calls Tryz.prog 89 #[.agg vs.toArray, .pointer (some ⟨dd, 0, none⟩)] w fun e w' => e = .returned (.bool (!(o.kind != 8 && o.may dep))) ∧ Below w.heap.size w w' := by
  have hb0 : ∀ ob, Below w.heap.size w (w.alloc ob) := fun ob => (Below.refl _ _).alloc (Nat.le_refl _) _
  have cm := fun ob => hi o vs (w.alloc ob) (h.kept (hb0 ob)) hb
  have hlt := cell_lt hD
  obtain ⟨v1, v2, v3, v4, rfl⟩ := ob_vals h
  obtain ⟨z, hz⟩ : ∃ z, (o.kind != 8 && o.may dep) = z := ⟨_, rfl⟩
  rw [hz] at cm ⊢
  obtain ⟨k, hk⟩ : ∃ k, o.kind = k := ⟨_, rfl⟩
  rw [hk] at cm ⊢
  replace hb0 := Lib.hid hb0
  clear hz hk h hb hi
  go_enter Tryz.func89, Tryz.ntmps89
  go_wp2_with (go_at_call 90; (with_reducible refine (cm _).mono ?_); rintro e w1 ⟨rfl, hB1⟩; replace hB1 := Lib.hid hB1)
  go_ret
  exact ⟨rfl, bthen (hb0.out _) hB1.out⟩
set_option maxHeartbeats 4000000 in
theorem may_clo2 (dep : Nat) (hd : dep ≤ 28) (hi : InnerC dep) (dd : Nat) (S : ByteArray) (o : Ob) (vs : List Value) (w : World) (h : ObAt w o vs) (hb : o.bulk ≤ 1048576) (hD : w.cell? ⟨dd, 0, none⟩ = some (.int .i64 ((dep : Int) + 1))) :
    Calls Tryz.prog 94 #[.agg (.string S :: vs).toArray, .pointer (some ⟨dd, 0, none⟩)] w fun e w' => e = .returned (.bool (!(nameOk S.data.toList && o.kind != 0 && (o.kind != 8 && o.may dep)))) ∧ Below w.heap.size w w' := by
  have hb0 : ∀ ob, Below w.heap.size w (w.alloc ob) := fun ob => (Below.refl _ _).alloc (Nat.le_refl _) _
  have cm := fun ob => hi o vs (w.alloc ob) (h.kept (hb0 ob)) hb
  have cn := fun w => cos_name S w
  have hlt := cell_lt hD
  obtain ⟨v1, v2, v3, v4, rfl⟩ := ob_vals h
  obtain ⟨z, hz⟩ : ∃ z, (o.kind != 8 && o.may dep) = z := ⟨_, rfl⟩
  rw [hz] at cm ⊢
  obtain ⟨k, hk⟩ : ∃ k, o.kind = k := ⟨_, rfl⟩
  rw [hk] at cm ⊢
  obtain ⟨y, hy⟩ : ∃ y, (k == 0) = y := ⟨_, rfl⟩
  have hy2 : (k != 0) = !y := by rw [← hy]; rfl
  rw [hy2]
  obtain ⟨x, hx⟩ : ∃ x, nameOk S.data.toList = x := ⟨_, rfl⟩
  rw [hx] at cn ⊢
  replace hb0 := Lib.hid hb0
  clear hz hk h hb hi hx hy2
  cases x <;> cases y
  all_goals
    go_enter Tryz.func94, Tryz.ntmps94
    go_wp2_with (first
      | (go_at_call 87; (with_reducible refine (cn _).mono ?_); rintro e w1 ⟨rfl, rfl⟩)
      | (go_at_call 90; (with_reducible refine (cm _).mono ?_); rintro e w1 ⟨rfl, hB1⟩; replace hB1 := Lib.hid hB1))
    go_ret
    refine ⟨by simp, ?_⟩
    first | exact hb0.out _ | exact bthen (hb0.out _) hB1.out
end Go.Proofs.YthacnnmlephkhaaGreatDoor

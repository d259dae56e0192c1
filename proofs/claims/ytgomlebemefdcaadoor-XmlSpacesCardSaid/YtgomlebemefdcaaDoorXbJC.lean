/- Walks and laws, joined: part C. No condition. -/
import Derived.Test.YtgomlebemefdcaaDoorXbJB
import Derived.Deep.DeepCutAuto
import Derived.Maps.AppendAt
set_option linter.unusedSimpArgs false
set_option linter.unusedVariables false
/- A drawn region with a forced tail, one operation of which may come late: behind the tail's first. No condition. -/
namespace Go.Wk
open Go
section
variable {P : Program} {ops : Array Oper} {Q : Exit → Act → World → Prop}
theorem wpAny_late (mk : (Nat → Value) → Act) {R : World → Prop} {Keeps : World → World → Prop} {Good : Nat → Value → World → Prop} (n q : Nat) (hn : n + 1 < ops.size) (hq : q < n) (o oq : Oper) (l : List Oper) (hln : n + (o :: l).length = ops.size) (hl : ∀ j, (o :: l)[j]? = ops[n + j]?) (hoq : ops[q]? = some oq)
    (back : ((List.range ops.size).all fun i => (afters ops i).all fun j => decide (j < i)) = true)
    (chain : ((List.range ops.size).all fun j => Nat.ble j n || (afters ops j).contains (j - 1)) = true)
    (late : (afters ops (n + 1)).contains q = true)
    (wit : List Nat) (cover : ((List.range n).all fun i => Nat.beq i q || ((afters ops (wit.getD i 0)).contains i && Nat.ble (wit.getD i 0) n && !Nat.beq (wit.getD i 0) q)) = true)
    (mono : ∀ i v w w', Good i v w → Keeps w w' → Good i v w')
    (step : ∀ i, i < n → ∀ x w, R w → (∀ j ∈ afters ops i, Good j (x j) w) → wpOp P ops Q i (fun a' w' => ∃ v, a' = mk (upd x i v) ∧ R w' ∧ Keeps w w' ∧ Good i v w') (mk x) w)
    (fin : ∀ x w, R w → (∀ i, i < n → Good i (x i) w) → wpList P ops Q (o :: l) (mk x) w)
    (fin2 : ∀ x w, R w → (∀ i, i < n → i ≠ q → Good i (x i) w) → wpList P ops Q (o :: oq :: l) (mk x) w) :
    ∀ (fuel : Nat) (listed : Array Bool) (x : Nat → Value) (w : World), listed.toList.count false ≤ fuel → listed.size = ops.size → R w → (∀ i, i < n → listed.getD i false = true → Good i (x i) w) →
      (∀ i, n ≤ i → i < ops.size → listed.getD i false = false) → (∀ i, i < ops.size → listed.getD i false = true → ∀ j ∈ afters ops i, listed.getD j false = true) → wpAny P .any ops Q fuel listed (mk x) w := by
  intro fuel
  induction fuel with
  | zero =>
    intro listed x w hc hs hR hG hl0 hd
    exact (count_none (i := n) (by omega) (hl0 n (Nat.le_refl _) (by omega)) hc).elim
  | succ fuel ih =>
    intro listed x w hc hs hR hG hl0 hd
    refine ⟨fun hr => absurd (all_listed back hs hr n (by omega)) (by rw [hl0 n (Nat.le_refl _) (by omega)]; simp), fun i hi => ?_⟩
    have hi0 := hi
    obtain ⟨hi', h1, haft⟩ := ready_after hi
    rcases Nat.lt_or_ge i n with hin | hin
    · refine wpOp_mono ?_ (step i hin x w hR fun j hj => hG j (by have := afters_lt (n := 0) back i j hi' hj; omega) (haft j hj))
      rintro a' w' ⟨v, rfl, hR', hK, hg⟩
      refine ih _ _ _ (count_up (by omega) h1 hc) (by simpa using hs) hR' ?_ ?_ ?_
      · intro j hj hlj
        rw [getD_set _ _ _ _ (by omega)] at hlj
        unfold upd
        by_cases hji : j = i
        · subst hji; simpa using hg
        · rw [if_neg hji] at hlj ⊢
          exact mono _ _ _ _ (hG j hj hlj) hK
      · intro j hj hj2
        rw [getD_set _ _ _ _ (by omega), if_neg (by omega)]; exact hl0 j hj hj2
      · intro k hk hkl j hj
        rw [getD_set _ _ _ _ (by omega)] at hkl ⊢
        by_cases hji : j = i
        · rw [if_pos hji]
        · rw [if_neg hji]
          by_cases hki : k = i
          · subst hki; exact haft j hj
          · rw [if_neg hki] at hkl; exact hd k hk hkl j hj
    · have hi2 : i = n := by
        rcases Nat.lt_or_ge n i with h3 | h3
        · exfalso
          have hch := List.all_eq_true.1 chain i (List.mem_range.2 hi')
          rw [Bool.or_eq_true] at hch
          rcases hch with hch | hch
          · have := Nat.le_of_ble_eq_true hch; omega
          · have := haft _ (List.contains_iff_mem.1 hch)
            rw [hl0 (i - 1) (by omega) (by omega)] at this; cases this
        · omega
      subst hi2
      have hothers : ∀ m k, k < i → i ≤ k + m → k ≠ q → listed.getD k false = true := by
        intro m
        induction m with
        | zero => intro k hk hm; omega
        | succ m ihm =>
          intro k hk hm hkq
          have hcv := List.all_eq_true.1 cover k (List.mem_range.2 hk)
          rw [Bool.or_eq_true, Bool.and_eq_true, Bool.and_eq_true] at hcv
          rcases hcv with hcv | hcv
          · exact absurd (Nat.eq_of_beq_eq_true hcv) hkq
          obtain ⟨j, hjj⟩ : ∃ j, j = wit.getD k 0 := ⟨_, rfl⟩
          rw [← hjj] at hcv
          have hjk := List.contains_iff_mem.1 hcv.1.1
          have hjn := Nat.le_of_ble_eq_true hcv.1.2
          have hjq : j ≠ q := fun e => by
            have h5 := hcv.2
            subst e
            simp at h5
          have hlt := afters_lt (n := 0) back j k (by omega) hjk
          by_cases hji : j = i
          · subst hji; exact haft k hjk
          · exact hd j (by omega) (ihm j (by omega) (by omega) hjq) k hjk
      by_cases hqd : listed.getD q false = true
      · have hall : ∀ k, k < i → listed.getD k false = true := fun k hk => by
          by_cases hkq : k = q
          · subst hkq; exact hqd
          · exact hothers i k hk (by omega) hkq
        have htail := fin x w hR fun k hk => hG k hk (hall k hk)
        have hfin := wpAny_tail (P := P) (Q := Q) i back chain (o :: l) i (fuel + 1) listed (mk x) w (Nat.le_refl _) hln hl hs hc (fun p hp => ⟨fun h => by
            rcases Nat.lt_or_ge p i with h' | h'
            · exact h'
            · have h2 := hl0 p h' hp; rw [h2] at h; exact absurd h (by simp)
          , fun h => hall p h⟩) htail
        exact hfin.2 i hi0
      · have hqf : listed.getD q false = false := by simpa using hqd
        have htail := fin2 x w hR fun k hk hkq => hG k hk (hothers i k hk (by omega) hkq)
        have ho : ops[i]? = some o := by have := hl 0; simpa using this.symm
        -- behind the late one
        have hlast : ∀ (listed2 : Array Bool) (f2 : Nat) (a' : Act) (w' : World), listed2.size = ops.size → listed2.toList.count false ≤ f2 → (∀ p, p < ops.size → (listed2.getD p false = true ↔ p < i + 1)) → wpList P ops Q l a' w' → wpAny P .any ops Q f2 listed2 a' w' := fun listed2 f2 a' w' hs2 hc2 hL2 hw2 =>
          wpAny_tail (P := P) (Q := Q) i back chain l (i + 1) f2 listed2 a' w' (by omega) (by simp only [List.length_cons] at hln; omega) (fun j => by have := hl (j + 1); rw [List.getElem?_cons_succ] at this; rw [this]; congr 1; omega) hs2 hc2 hL2 hw2
        have hmid : ∀ a' w', wpList P ops Q (oq :: l) a' w' → wpAny P .any ops Q fuel (listed.setIfInBounds i true) a' w' := by
          intro a' w' hw
          have hc1 : (listed.setIfInBounds i true).toList.count false ≤ fuel := count_up (by omega) h1 hc
          have hs1 : (listed.setIfInBounds i true).size = ops.size := by simpa using hs
          have hq1 : (listed.setIfInBounds i true).getD q false = false := by rw [getD_set _ _ _ _ (by omega), if_neg (by omega)]; exact hqf
          cases fuel with
          | zero => exact (count_none (i := q) (by omega) hq1 hc1).elim
          | succ fuel =>
            refine ⟨fun hr => absurd (all_listed back hs1 hr q (by omega)) (by rw [hq1]; simp), fun j hj => ?_⟩
            obtain ⟨hj', hj1, hjaft⟩ := ready_after hj
            have hjf : (listed.setIfInBounds i true).getD j false = false := by
              have hjl : j < (listed.setIfInBounds i true).size := by omega
              simp only [Array.getD_eq_getD_getElem?, Array.getElem?_eq_getElem hjl, Option.getD_some] at hj1 ⊢
              exact hj1
            rw [getD_set _ _ _ _ (by omega)] at hjf
            have hji : j ≠ i := fun e => by rw [if_pos e] at hjf; cases hjf
            rw [if_neg hji] at hjf
            have hjq : j = q := by
              rcases Nat.lt_or_ge j i with h3 | h3
              · by_cases hh : j = q
                · exact hh
                · rw [hothers i j h3 (by omega) hh] at hjf; cases hjf
              · exfalso
                by_cases h4 : j = i + 1
                · subst h4
                  have := hjaft q (List.contains_iff_mem.1 late)
                  rw [hq1] at this; cases this
                · have hch := List.all_eq_true.1 chain j (List.mem_range.2 hj')
                  rw [Bool.or_eq_true] at hch
                  rcases hch with hch | hch
                  · have := Nat.le_of_ble_eq_true hch; omega
                  · have := hjaft _ (List.contains_iff_mem.1 hch)
                    rw [getD_set _ _ _ _ (by omega), if_neg (by omega), hl0 (j - 1) (by omega) (by omega)] at this; cases this
            subst hjq
            have hnext : ∀ a2 w2, wpList P ops Q l a2 w2 → wpAny P .any ops Q fuel ((listed.setIfInBounds i true).setIfInBounds j true) a2 w2 := fun a2 w2 h =>
              hlast _ fuel a2 w2 (by simpa using hs) (count_up (by omega) hj1 hc1) (fun p hp => by
                rw [getD_set _ _ _ _ (by omega), getD_set _ _ _ _ (by omega)]
                by_cases hpj : p = j
                · rw [if_pos hpj]; simp; omega
                · rw [if_neg hpj]
                  by_cases hpi : p = i
                  · rw [if_pos hpi]; simp; omega
                  · rw [if_neg hpi]
                    rcases Nat.lt_or_ge p i with h5 | h5
                    · rw [hothers i p h5 (by omega) hpj]; simp; omega
                    · rw [hl0 p h5 hp]; simp; omega) h
            unfold wpOp
            simp only [hoq]
            unfold wpList at hw
            split
            · rename_i hwt
              rw [if_pos hwt] at hw
              rcases hw with hw | hw
              · exact .inl (Oper.wp_mono hnext hw)
              · exact .inr hw
            · rename_i hwt
              rw [if_neg hwt] at hw
              exact hnext _ _ hw
        unfold wpOp
        simp only [ho]
        unfold wpList at htail
        split
        · rename_i hwt
          rw [if_pos hwt] at htail
          rcases htail with hw | hw
          · exact .inl (Oper.wp_mono hmid hw)
          · exact .inr hw
        · rename_i hwt
          rw [if_neg hwt] at htail
          exact hmid _ _ htail
end
theorem wp_lin_late {P : Program} {ops : Array Oper} {Q : Exit → Act → World → Prop} {id : Nat} {tm : List Value} {df : List Deferred} {w0 : World} (hm : P.follows .mixedOrders = true) (ss : List (Option Nat))
    (R : World → Prop) (Keeps : World → World → Prop) (G : Nat → Value → World → Prop)
    (h0 : fillL tm ss (oldX tm ss) = tm)
    (back : ((List.range ops.size).all fun i => (afters ops i).all fun j => decide (j < i)) = true)
    (n q : Nat) (o oq : Oper) (l : List Oper) (hdr : ops.toList.drop n = o :: l) (hoq : ops[q]? = some oq) (hn : n + 1 < ops.size) (hq : q < n)
    (chain : ((List.range ops.size).all fun j => Nat.ble j n || (afters ops j).contains (j - 1)) = true)
    (late : (afters ops (n + 1)).contains q = true)
    (wit : List Nat) (cover : ((List.range n).all fun i => Nat.beq i q || ((afters ops (wit.getD i 0)).contains i && Nat.ble (wit.getD i 0) n && !Nat.beq (wit.getD i 0) q)) = true)
    (hR : R w0.drew)
    (mono : ∀ i v w w', G i v w → Keeps w w' → G i v w')
    (step : Steps (Step P ops Q (fun x => { tmps := (fillL tm ss x).toArray, defers := df }) R Keeps G) n)
    (done : ∀ l', (l' = o :: l ∨ l' = o :: oq :: l) → ∀ x w, R w → (∀ i, i < n → (i = q → l' = o :: l) → G i (x i) w) → ∀ fr, fr = fillL tm ss x → wpList P ops Q l' { tmps := fr.toArray, defers := df } w) :
    (Code.region id ops true).wp P Q { tmps := tm.toArray, defers := df } w0 := by
  have e0 : ({ tmps := tm.toArray, defers := df } : Act) = (fun x => ({ tmps := (fillL tm ss x).toArray, defers := df } : Act)) (oldX tm ss) := by simp only [h0]
  rw [e0]
  refine wp_region_any hm (wpAny_late (fun x => { tmps := (fillL tm ss x).toArray, defers := df }) n q hn hq o oq l (by rw [← hdr]; simp; omega) (fun j => by rw [← hdr, List.getElem?_drop]; simp) hoq back chain late wit cover mono (fun i hi => each_all step.each i hi) (fun x w hR hG => done _ (.inl rfl) x w hR (fun i hi _ => hG i hi) _ rfl) (fun x w hR hG => done _ (.inr rfl) x w hR (fun i hi h => hG i hi fun e => by
      have h6 := congrArg List.length (h e); simp at h6) _ rfl) _ _ _ _ ?_ (by simp) hR ?_ ?_ ?_)
  · simp
  · intro i hi hl
    have : i < ops.size := by omega
    simp [Array.getD_eq_getD_getElem?, this] at hl
  · intro i hi hi2
    simp [Array.getD_eq_getD_getElem?, hi2]
  · intro i hi hl
    simp [Array.getD_eq_getD_getElem?, hi] at hl
end Go.Wk

/- What attributes say is bound. No condition. -/
namespace Go.Proofs.YtgomlebemefdcaaDoor
open Go Go.RowKit Go.Wk Go.Xt Go.Xe
theorem RS.setB {w : World} {L R c p many : Nat} {bv : Value} {A : Option Addr} {bs : List UInt8} (h : RS w L R bv A c bs p many) (u : Value) : RS (w.setCell ⟨R, 2, none⟩ u) L R u A c bs p many := by
  have hc := h.cur
  have hne : ∀ o, (⟨R, 2, none⟩ : Addr) ≠ ⟨L, o, none⟩ := fun o e => h.ne (by cases e; rfl)
  refine ⟨⟨hc.ne, Save.refl _ _, ?_, ?_, ?_, ⟨hc.byt.1, fun h0 => ?_⟩, hc.le, hc.small⟩, h.rdr.set_ 2 _, h.ne, h.neA, h.cap⟩
  · rw [World.cell?_setCell_other _ _ _ _ (hne 0)]; exact hc.cb
  · rw [World.cell?_setCell_other _ _ _ _ (hne 1)]; exact hc.ca
  · rw [World.frozen?_setCell]; exact hc.fr
  · obtain ⟨b, o, rfl, hcell⟩ := hc.byt.2 h0
    have hb : b ≠ R := h.neA h0 _ rfl
    refine ⟨b, o, rfl, fun i hi => ?_⟩
    rw [World.cell?_setCell_other _ _ _ _ (fun e => hb (congrArg Addr.block e).symm)]
    exact hcell i hi
theorem bindsOf_snoc (l : List (List UInt8 × List UInt8 × List UInt8)) (a : List UInt8 × List UInt8 × List UInt8) : ∀ B, bindsOf (l ++ [a]) B = (if a.1 = [120, 109, 108, 110, 115] then bindsOf l B ++ [(a.2.1, a.2.2)] else if a.1 = [] ∧ a.2.1 = [120, 109, 108, 110, 115] then bindsOf l B ++ [([], a.2.2)] else bindsOf l B) := by
  induction l with
  | nil => intro B; rfl
  | cons x l ih => intro B; exact ih _
set_option maxRecDepth 100000 in
theorem bind_info : ∃ i, Tryd.prog.info? 129 = some i ∧ i.zero = some (.agg #[.string ⟨#[]⟩, .string ⟨#[]⟩]) ∧ i.size = 2 ∧ i.bytes = 32 := ⟨_, rfl, by kernel_rfl, by kernel_rfl, by kernel_rfl⟩
set_option maxHeartbeats 1000000 in
set_option maxRecDepth 100000 in
theorem xml_saysN {w : World} (P N V : ByteArray) (hP : (P.toList == [120, 109, 108, 110, 115]) = false) (b : Bool) (hb : (P.toList.isEmpty && (N.toList == [120, 109, 108, 110, 115])) = b) :
    Calls Tryd.prog 68 #[.agg #[.string P, .string N, .string V]] w fun e w' => e = .returned (.bool b) ∧ Below w.heap.size w w' := by
  by_cases c0 : P.toList = []
  · have c1 : P.toList.isEmpty = true := by rw [c0]; rfl
    rw [c1, Bool.true_and] at hb
    cases b
    all_goals
      go_enter Tryd.func68, Tryd.ntmps68
      go_wp2
      go_ret
      exact ⟨rfl, (Below.refl _ _).alloc (Nat.le_refl _) _⟩
  · have c1 : P.toList.isEmpty = false := by simpa using c0
    rw [c1, Bool.false_and] at hb
    subst hb
    go_enter Tryd.func68, Tryd.ntmps68
    go_wp2
    go_ret
    exact ⟨rfl, (Below.refl _ _).alloc (Nat.le_refl _) _⟩
/-- what the operations yield that lay what is bound -/
def GB8 (H R X : Nat) (bv : Value) (NA VA : ByteArray) : Nat → Value → World → Prop := fun j v w => match j with
  | 0 | 1 | 2 => v = .pointer (some ⟨R, 0, none⟩)
  | 3 => v = .pointer (some ⟨R, 2, none⟩)
  | 4 => v = bv
  | 5 => v = .pointer (some ⟨X, 1, none⟩)
  | 6 => v = .string NA
  | 7 => v = .pointer (some ⟨X, 2, none⟩)
  | 8 => v = .string VA
  | 9 => v = .agg #[.string NA, .string VA]
  | 10 => ∃ h, v = .slice (some ⟨h, 0, none⟩) 1 1 ∧ H ≤ h ∧ Blk w h 129 #[.string NA, .string VA]
  | _ => True
theorem GB8_mono {H R X : Nat} {bv : Value} {NA VA : ByteArray} (i : Nat) (v : Value) (w w' : World) (h : GB8 H R X bv NA VA i v w) (hk : Below w.heap.size w w') : GB8 H R X bv NA VA i v w' := by
  unfold GB8 at h ⊢
  split at h <;> first
    | exact h
    | (obtain ⟨h, e, h1, h2⟩ := h; exact ⟨h, e, h1, h2.below hk h2.lt⟩)
/-- likewise where the name in front is none -/
def GB10 (H R X : Nat) (bv : Value) (VA : ByteArray) : Nat → Value → World → Prop := fun j v w => match j with
  | 0 | 1 | 2 => v = .pointer (some ⟨R, 0, none⟩)
  | 3 => v = .pointer (some ⟨R, 2, none⟩)
  | 4 => v = bv
  | 5 => v = .pointer (some ⟨X, 2, none⟩)
  | 6 => v = .string VA
  | 7 => v = .agg #[.string ⟨#[]⟩, .string VA]
  | 8 => ∃ h, v = .slice (some ⟨h, 0, none⟩) 1 1 ∧ H ≤ h ∧ Blk w h 129 #[.string ⟨#[]⟩, .string VA]
  | _ => True
theorem GB10_mono {H R X : Nat} {bv : Value} {VA : ByteArray} (i : Nat) (v : Value) (w w' : World) (h : GB10 H R X bv VA i v w) (hk : Below w.heap.size w w') : GB10 H R X bv VA i v w' := by
  unfold GB10 at h ⊢
  split at h <;> first
    | exact h
    | (obtain ⟨h, e, h1, h2⟩ := h; exact ⟨h, e, h1, h2.below hk h2.lt⟩)
theorem two_at {w : World} {h t : Nat} {v0 v1 : Value} (hb : Blk w h t #[v0, v1]) : ∀ j u, [v0, v1][j]? = some u → w.cell? ((⟨h, 0, none⟩ : Addr).add j) = some u := by
  intro j u hj
  rw [Lib.add_plain, Nat.zero_add, hb.cell j, ← hj]
  match j with
  | 0 => rfl
  | 1 => rfl
  | _ + 2 => rfl
theorem two_one (a0 a1 : ByteArray) : ∀ u ∈ [Value.string a0, .string a1], u.oneCell' = true := by
  intro u hu
  simp at hu
  rcases hu with rfl | rfl <;> rfl
theorem own_farB {w : World} {B e s n : Nat} {v u : Value} {xs : List Value} {p : Addr} (h : w.ownsRow B e s v n xs) (hp : p.block < B) : (w.setCell p u).ownsRow B e s v n xs := by
  refine ⟨h.1, ?_⟩
  rcases h.2 with h2 | ⟨g, cap, cur, e1, hB, hh, rest⟩
  · exact .inl h2
  · exact .inr ⟨g, cap, cur, e1, hB, (Below.heap_setCell w p u g (by omega)).trans hh, rest⟩
set_option maxHeartbeats 8000000 in
set_option maxRecDepth 100000 in
theorem xml_boundP {w : World} {L R c p many B0 : Nat} {bv : Value} {A : Option Addr} {bs : List UInt8} {B : List (List UInt8 × List UInt8)} {l : List (List UInt8 × List UInt8 × List UInt8)} (al : Option Addr) (cap : Nat) (h : RS w L R bv A c bs p many) (hb : Bnd w B0 bv B) (hLB : L < B0) (hRB : R < B0) (hB0 : B0 ≤ w.heap.size) (hAB : 0 < bs.length → ∀ x, A = some x → x.block < B0)
    (hl2 : l.length ≤ 2) (hlc : l.length ≤ cap) (hBm : B.length ≤ 1000)
    (row : ∀ i (hi : i < l.length), ∃ g, al = some ⟨g, 0, none⟩ ∧ g ≠ L ∧ g ≠ R ∧ bv.ownBlock ≠ some g ∧ w.cell? ⟨g, 3 * i, none⟩ = some (str l[i].1) ∧ w.cell? ⟨g, 3 * i + 1, none⟩ = some (str l[i].2.1) ∧ w.cell? ⟨g, 3 * i + 2, none⟩ = some (str l[i].2.2))
    (hdis : ∀ i j (hi : i < l.length) (hj : j < l.length), i < j → l[i].1 ≠ l[j].1 ∨ l[i].2.1 ≠ l[j].2.1) (hok : ∀ a ∈ l, a.1 = [120, 109, 108, 110, 115] → a.2.2 ≠ []) :
    Calls Tryd.prog 66 #[.pointer (some ⟨R, 0, none⟩), .slice al l.length cap] w fun e w' => e = .returned (.int .i64 0) ∧ ∃ bv', RS w' L R bv' A c bs p many ∧ Bnd w' B0 bv' (bindsOf l B) ∧ FrX L R bv bv' w w' := by
  obtain ⟨n, hn⟩ : ∃ n, n = l.length := ⟨_, rfl⟩
  obtain ⟨i0, hi0, hz0, hz1, hz2⟩ := bind_info
  replace hi0 := Lib.hid hi0
  replace hz0 := Lib.hid hz0
  replace hz1 := Lib.hid hz1
  replace hz2 := Lib.hid hz2
  rw [← hn] at hl2 hlc ⊢
  have hAlt := Lib.hid h.A_lt
  have hLlt := h.cur.L_lt
  have hRlt := h.rdr.lt
  replace hAB := Lib.hid hAB
  replace hn := Lib.hid hn
  replace h := Lib.hid h
  replace hb := Lib.hid hb
  replace row := Lib.hid row
  replace hdis := Lib.hid hdis
  replace hok := Lib.hid hok
  go_enter Tryd.func66, Tryd.ntmps66
  go_wp2
  go_loopw [10] (fun s10 wr => ∃ (i : Nat) (bv1 : Value), i ≤ n ∧ s10 = .int .i64 i ∧ RS wr L R bv1 A c bs p many ∧ Bnd wr B0 bv1 (bindsOf (l.take i) B) ∧ FrX L R bv bv1 w wr ∧ (bindsOf (l.take i) B).length ≤ 1000 + i) (fun s10 _ => n - (RowKit.intOf s10).toNat)
  case atStart => exact ⟨0, bv, Nat.zero_le _, rfl, h.out, by rw [List.take_zero]; exact hb.out, FrX.of_fr (Fr.refl _ _ _), by rw [List.take_zero]; exact hBm⟩
  case round =>
    obtain ⟨i, bv1, hi, rfl, hS, hB, hF, hBl⟩ := hrel
    by_cases hin : i < n
    · have hil : i < l.length := by rw [← hn.out]; exact hin
      obtain ⟨g, rfl, hgL, hgR, hgX, k0, k1, k2⟩ := row.out i hil
      obtain ⟨a, ha⟩ : ∃ a, a = l[i] := ⟨_, rfl⟩
      rw [← ha] at k0 k1 k2
      obtain ⟨pre, nm, v⟩ := a
      obtain ⟨PA, hPA⟩ : ∃ N : ByteArray, str pre = .string N := ⟨_, rfl⟩
      obtain ⟨NA, hNA⟩ : ∃ N : ByteArray, str nm = .string N := ⟨_, rfl⟩
      obtain ⟨VA, hVA⟩ : ∃ N : ByteArray, str v = .string N := ⟨_, rfl⟩
      have lPA := toList_str _ _ hPA
      have lNA := toList_str _ _ hNA
      have lVA := toList_str _ _ hVA
      rw [hPA] at k0
      rw [hNA] at k1
      rw [hVA] at k2
      have lg : g < w.heap.size := cell_lt k0
      have hgb := hF.block g lg hgL hgR hgX
      have e0 : wr.cell? ⟨g, i * 3, none⟩ = some (.string PA) := by rw [Nat.mul_comm]; exact (World.cell?_of_block hgb).trans k0
      have e1 : wr.cell? ⟨g, i * 3 + 1, none⟩ = some (.string NA) := by rw [Nat.mul_comm]; exact (World.cell?_of_block hgb).trans k1
      have e2 : wr.cell? ⟨g, i * 3 + 2, none⟩ = some (.string VA) := by rw [Nat.mul_comm]; exact (World.cell?_of_block hgb).trans k2
      have hlt : decide ((i : Int) < (n : Int)) = true := by simp; omega
      have hsz := hF.size
      have hgr : g < wr.heap.size := by omega
      -- is there one ahead
      have kc : Calls Tryd.prog 75 #[.slice (some ⟨g, 0, none⟩) i cap, .func (.func 76) #[] #[.pointer (some ⟨wr.heap.size, 0, none⟩)]] (wr.alloc (.cells #[.string PA, .string NA, .string VA] 118)) fun e w' => e = .returned (.bool false) ∧ Below wr.heap.size wr w' ∧ Blk w' wr.heap.size 118 #[.string PA, .string NA, .string VA] := by
        have hx := Blk.new wr 118 #[.string PA, .string NA, .string VA]
        have hbw : Below wr.heap.size wr (wr.alloc (.cells #[.string PA, .string NA, .string VA] 118)) := (Below.refl _ _).alloc (Nat.le_refl _) _
        have fin : ∀ e w', (e = .returned (.bool false) ∧ Below (wr.alloc (.cells #[.string PA, .string NA, .string VA] 118)).heap.size (wr.alloc (.cells #[.string PA, .string NA, .string VA] 118)) w') → e = Ending.returned (.bool false) ∧ Below wr.heap.size wr w' ∧ Blk w' wr.heap.size 118 #[.string PA, .string NA, .string VA] := fun e w' k => ⟨k.1, hbw.trans (k.2.mono (by rw [World.size_alloc]; omega)), hx.below k.2 hx.lt⟩
        have hi2 : i = 0 ∨ i = 1 := by omega
        rcases hi2 with rfl | rfl
        · exact (cont_nil _ _ _).mono fun e w' k => fin e w' ⟨k.1, k.2 ▸ Below.refl _ _⟩
        · obtain ⟨g', hgg, _, _, _, m0, m1, m2⟩ := row.out 0 (by omega)
          have hgg : g' = g := by injection hgg with hgg; injection hgg with hgg _; exact hgg.symm
          subst hgg
          have hd := hdis.out 0 1 (by omega) hil (by omega)
          rw [← ha] at hd
          have far : ∀ o, (wr.alloc (.cells #[.string PA, .string NA, .string VA] 118)).cell? ⟨g', o, none⟩ = w.cell? ⟨g', o, none⟩ := fun o => (World.cell?_of_block (Below.heap_alloc _ _ _ hgr)).trans (World.cell?_of_block hgb)
          refine (cont_one g' cap wr.heap.size (by omega) ⟨l[0].1.toArray⟩ ⟨l[0].2.1.toArray⟩ ⟨l[0].2.2.toArray⟩ PA NA ((far _).trans m0) ((far _).trans m1) ((far _).trans m2) (hx.cell 0) (hx.cell 1) ?_).mono fin
          rw [lPA, lNA, ByteArray.toList_eq, ByteArray.toList_eq]
          exact hd
      have hRr := hS.rdr.lt
      have hLr := hS.cur.L_lt
      have htk : l.take (i + 1) = l.take i ++ [(pre, nm, v)] := by rw [List.take_succ_eq_append_getElem hil, ← ha]
      have hsn := bindsOf_snoc (l.take i) (pre, nm, v) B
      rw [← htk] at hsn
      have hokv := hok.out (pre, nm, v) (by rw [ha]; exact List.getElem_mem _)
      obtain ⟨BB, hBB⟩ : ∃ b, b = bindsOf (l.take i) B := ⟨_, rfl⟩
      rw [← hBB] at hsn hB hBl
      obtain ⟨bva, bvc, rfl⟩ := sl_of hB
      replace kc := Lib.hid kc
      replace htk := Lib.hid htk
      replace hBB := Lib.hid hBB
      replace hF := Lib.hid hF
      replace hS := Lib.hid hS
      replace hB := Lib.hid hB
      replace ha := Lib.hid ha
      replace hgb := Lib.hid hgb
      replace hPA := Lib.hid hPA
      replace hNA := Lib.hid hNA
      replace hVA := Lib.hid hVA
      clear k0 k1 k2 hgL hgR hgX
      by_cases cx : pre = [120, 109, 108, 110, 115]
      · have hv := hokv cx
        have tP : (PA.toList == [120, 109, 108, 110, 115]) = true := by rw [lPA]; simpa using cx
        have tV : VA.toList.isEmpty = false := by rw [lVA]; simpa using hv
        have tV2 : ¬ VA.toList = [] := by rw [lVA]; exact hv
        rw [if_pos cx] at hsn
        replace hsn := Lib.hid hsn
        clear hokv lPA lNA lVA cx hv
        have k1 := kc.out
        go_wp2_with (first
          | (go_at_call 75; (with_reducible refine k1.mono ?_); rintro e w2 ⟨rfl, b2, x2⟩; have x20 := x2.cell 0; have x21 := x2.cell 1; have x22 := x2.cell 2; have h2 := hS.out.below b2; have c22 := h2.rdr.cell 2; have f22 := h2.rdr.frozen 2; replace b2 := Lib.hid b2; replace x2 := Lib.hid x2; replace h2 := Lib.hid h2))
        have l2R : R < w2.heap.size := h2.out.rdr.lt
        have l2X : wr.heap.size < w2.heap.size := x2.out.lt
        refine wp_lin_late (by kernel_rfl) [none, none, none, none, none, none, none, none, none, none, none, none, none, none, none, none, none, none, none, none, none, none, none, none, none, none, none, none, none, none, none, none, none, none, none, some 0, some 1, some 2, some 3, some 4, some 5, some 6, some 7, some 8, some 9, some 10, none, none, none, none, none, none, none, none, none, none, none, none, none, none, none, none, none, none, none] (fun w' => Below w2.heap.size w2 w') (fun w' w'' => Below w'.heap.size w' w'') (GB8 w2.heap.size R wr.heap.size (.slice bva BB.length bvc) NA VA) (by rfl) (by kernel_rfl) 11 0 _ _ _ rfl rfl (by decide) (by decide) (by kernel_rfl) (by kernel_rfl) [0, 2, 3, 4, 11, 6, 9, 8, 9, 10, 11, 0] (by kernel_rfl) ?hR ?mono (.cons 10 (step_of [9] rfl (by kernel_rfl) ?s10) (.cons 9 (step_of [6, 8] rfl (by kernel_rfl) ?s9) (.cons 8 (step_of [7] rfl (by kernel_rfl) ?s8) (.cons 7 (step_of [] rfl (by kernel_rfl) ?s7) (.cons 6 (step_of [5] rfl (by kernel_rfl) ?s6) (.cons 5 (step_of [] rfl (by kernel_rfl) ?s5) (.cons 4 (step_of [3] rfl (by kernel_rfl) ?s4) (.cons 3 (step_of [2] rfl (by kernel_rfl) ?s3) (.cons 2 (step_of [1] rfl (by kernel_rfl) ?s2) (.cons 1 (step_of [] rfl (by kernel_rfl) ?s1) (.cons 0 (step_of [] rfl (by kernel_rfl) ?s0) (.nil)))))))))))) ?done
        case hR => exact (Below.refl _ _).drew
        case mono => exact GB8_mono
        case done =>
          intro l' hl' x w' hR hG fr hfr
          have g4 := hG 4 (by omega) (fun e => absurd e (by omega))
          have g10 := hG 10 (by omega) (fun e => absurd e (by omega))
          simp only [GB8] at g4 g10
          obtain ⟨hh, e10, hh1, hblk⟩ := g10
          simp only [fillL] at hfr
          rw [g4, e10] at hfr
          rcases hl' with rfl | rfl
          all_goals
            (try (have g0 := hG 0 (by omega) (fun _ => rfl); simp only [GB8] at g0; rw [g0] at hfr; clear g0))
            subst hfr
            clear hG
            have hW' := h2.out.below hR
            have hrw : Below wr.heap.size wr w' := b2.out.trans (hR.mono b2.out.size)
            have hO := own_belowB hB.out hrw
            have hmx : BB.length + 1 ≤ maxLen := by unfold maxLen; omega
            have hby : (BB.length + 1) * 32 ≤ 140737488355328 := by omega
            have hsr := hrw.size
            have hbase : B0 ≤ w'.heap.size := by omega
            refine wpList_append_own_at _ rfl (.tmp 39) (.tmp 45) 66 rfl B0 129 i0 _ 2 32 Tryd.underlying66 hi0.out hz0.out hz1.out hz2.out rfl (by decide) (.slice bva BB.length bvc) BB.length (bndV BB) rfl hO ⟨hh, 0, none⟩ 1 1 [.string NA, .string VA] rfl rfl (two_at hblk) (two_one _ _) hmx hby hbase ?_
            intro v5 w5 hown5 hg5 _ hat5
            obtain ⟨a5, cp5, rfl⟩ := sl_of hown5
            have bb5 : Below B0 w' w5 := (Below.refl B0 w').grown hg5 hbase (fun k hk => (hO.lt k hk).1)
            have h5 := hW'.belowB bb5 hLB hRB hAB.out
            have c52 := h5.rdr.cell 2
            have f52 := h5.rdr.frozen 2
            have c50 := h5.rdr.cell 0
            have h6 := h5.setB (.slice a5 (BB.length + 1) cp5)
            have hown6 := own_farB (p := ⟨R, 2, none⟩) (u := .slice a5 (BB.length + 1) cp5) hown5 hRB
            have hs5 := hg5.size
            have hz6 : (w5.setCell ⟨R, 2, none⟩ (.slice a5 (BB.length + 1) cp5)).heap.size = w5.heap.size := by simp [World.setCell]
            have hF6 : FrX L R (.slice bva BB.length bvc) (.slice a5 (BB.length + 1) cp5) wr (w5.setCell ⟨R, 2, none⟩ (.slice a5 (BB.length + 1) cp5)) :=
              ⟨hg5.os.trans hrw.os, hg5.tape.trans hrw.tape, hg5.output.trans hrw.output, by omega, fun k k1 k2 k3 k4 => (Below.heap_setCell _ _ _ _ k3).trans ((hg5.block k (by omega) (fun e => k4 e.symm)).trans (hrw.block k k1)), by
                rcases hat5 with e | e
                · exact .inl e
                · exact .inr fun k hk => by rw [e] at hk; injection hk with hk; omega⟩
            have hvals : [Value.string NA, .string VA] = [str nm, str v] := by rw [hNA.out, hVA.out]
            rw [hvals, ← bndV_app] at hown6
            have hlen6 : (BB ++ [(nm, v)]).length = BB.length + 1 := by simp
            replace hown6 := Lib.hid hown6
            replace h6 := Lib.hid h6
            replace hF6 := Lib.hid hF6
            replace h5 := Lib.hid h5
            replace hown5 := Lib.hid hown5
            replace hg5 := Lib.hid hg5
            replace hat5 := Lib.hid hat5
            replace hR := Lib.hid hR
            replace hW' := Lib.hid hW'
            replace hO := Lib.hid hO
            replace bb5 := Lib.hid bb5
            replace hrw := Lib.hid hrw
            replace hlen6 := Lib.hid hlen6
            replace hvals := Lib.hid hvals
            replace hblk := Lib.hid hblk
            clear hmx hby hbase hz6 hs5 x20 x21 x22 c22 f22 e0 e1 e2 k1
            go_wp2
            go_roundw
            case rel => exact ⟨i + 1, .slice a5 (BB.length + 1) cp5, by omega, by go_num, h6.out, by rw [hsn.out]; unfold Bnd; rw [hlen6.out]; exact hown6.out, hF.out.trans hF6.out, by rw [hsn.out, hlen6.out]; omega⟩
            case measure => simp [RowKit.intOf]; omega
        all_goals
          intro x w' hR hd K hK
          simp only [All, GB8] at hd
          have z1 := (h2.out.below hR).rdr.cell 2
          have z0 := (h2.out.below hR).rdr.cell 0
          have zx := x2.out.below hR x2.out.lt
          have zx1 := zx.cell 1
          have zx2 := zx.cell 2
          simp (config := {decide := true}) only [upd, GB8, fillL, if_true, if_false] at hK ⊢
          repeat (obtain ⟨_, hd⟩ := hd)
          (try simp only [*] at hK ⊢)
          go_simp
          first
            | (have hK2 := hK _ _ ⟨hR, Below.refl _ _, rfl⟩; exact hK2)
            | (have hK2 := hK _ _ ⟨hR.alloc hR.size _, (Below.refl _ _).alloc (Nat.le_refl _) _, _, rfl, hR.size, Blk.new w' 129 _⟩; exact hK2)
            | skip

      · have tP : (PA.toList == [120, 109, 108, 110, 115]) = false := by rw [lPA]; simpa using cx
        rw [if_neg cx] at hsn
        by_cases cy : pre = [] ∧ nm = [120, 109, 108, 110, 115]
        · rw [if_pos cy] at hsn
          have k2 := fun (ww : World) => xml_saysN (w := ww) PA NA VA tP true (by rw [lPA, lNA, cy.1, cy.2]; rfl)
          replace hsn := Lib.hid hsn
          clear hokv lPA lNA lVA cx cy
          have k1 := kc.out
          go_wp2_with (first
            | (go_at_call 75; (with_reducible refine k1.mono ?_); rintro e w2 ⟨rfl, b2, x2⟩; have x20 := x2.cell 0; have x21 := x2.cell 1; have x22 := x2.cell 2; replace b2 := Lib.hid b2; replace x2 := Lib.hid x2)
            | (go_at_call 68; (with_reducible refine (k2 _).mono ?_); rintro e w3 ⟨rfl, b3⟩; have b4 := b2.out.trans (b3.mono b2.out.size); have x3 := x2.out.below b3 x2.out.lt; have x30 := x3.cell 0; have x31 := x3.cell 1; have x32 := x3.cell 2; have h3 := hS.out.below b4; replace b3 := Lib.hid b3; replace b4 := Lib.hid b4; replace x3 := Lib.hid x3; replace h3 := Lib.hid h3))
          have l3R : R < w3.heap.size := h3.out.rdr.lt
          have l3X : wr.heap.size < w3.heap.size := x3.out.lt
          refine wp_lin_late (by kernel_rfl) [none, none, none, none, none, none, none, none, none, none, none, none, none, none, none, none, none, none, none, none, none, none, none, none, none, none, none, none, none, none, none, none, none, none, none, none, none, none, none, none, none, none, none, none, none, none, none, none, none, none, none, none, some 0, some 1, some 2, some 3, some 4, some 5, some 6, some 7, some 8, none, none, none, none] (fun w' => Below w3.heap.size w3 w') (fun w' w'' => Below w'.heap.size w' w'') (GB10 w3.heap.size R wr.heap.size (.slice bva BB.length bvc) VA) (by rfl) (by kernel_rfl) 9 0 _ _ _ rfl rfl (by decide) (by decide) (by kernel_rfl) (by kernel_rfl) [0, 2, 3, 4, 9, 6, 7, 8, 9, 0] (by kernel_rfl) ?hR2 ?mono2 (.cons 8 (step_of [7] rfl (by kernel_rfl) ?r8) (.cons 7 (step_of [6] rfl (by kernel_rfl) ?r7) (.cons 6 (step_of [5] rfl (by kernel_rfl) ?r6) (.cons 5 (step_of [] rfl (by kernel_rfl) ?r5) (.cons 4 (step_of [3] rfl (by kernel_rfl) ?r4) (.cons 3 (step_of [2] rfl (by kernel_rfl) ?r3) (.cons 2 (step_of [1] rfl (by kernel_rfl) ?r2) (.cons 1 (step_of [] rfl (by kernel_rfl) ?r1) (.cons 0 (step_of [] rfl (by kernel_rfl) ?r0) (.nil)))))))))) ?done2
          case hR2 => exact (Below.refl _ _).drew
          case mono2 => exact GB10_mono
          case done2 =>
            intro l' hl' x w' hR hG fr hfr
            have g4 := hG 4 (by omega) (fun e => absurd e (by omega))
            have g10 := hG 8 (by omega) (fun e => absurd e (by omega))
            simp only [GB10] at g4 g10
            obtain ⟨hh, e10, hh1, hblk⟩ := g10
            simp only [fillL] at hfr
            rw [g4, e10] at hfr
            rcases hl' with rfl | rfl
            all_goals
              (try (have g0 := hG 0 (by omega) (fun _ => rfl); simp only [GB10] at g0; rw [g0] at hfr; clear g0))
              subst hfr
              clear hG
              have hW' := h3.out.below hR
              have hrw : Below wr.heap.size wr w' := b4.out.trans (hR.mono b4.out.size)
              have hO := own_belowB hB.out hrw
              have hmx : BB.length + 1 ≤ maxLen := by unfold maxLen; omega
              have hby : (BB.length + 1) * 32 ≤ 140737488355328 := by omega
              have hsr := hrw.size
              have hbase : B0 ≤ w'.heap.size := by omega
              refine wpList_append_own_at _ rfl (.tmp 56) (.tmp 60) 66 rfl B0 129 i0 _ 2 32 Tryd.underlying66 hi0.out hz0.out hz1.out hz2.out rfl (by decide) (.slice bva BB.length bvc) BB.length (bndV BB) rfl hO ⟨hh, 0, none⟩ 1 1 [.string ⟨#[]⟩, .string VA] rfl rfl (two_at hblk) (two_one _ _) hmx hby hbase ?_
              intro v5 w5 hown5 hg5 _ hat5
              obtain ⟨a5, cp5, rfl⟩ := sl_of hown5
              have bb5 : Below B0 w' w5 := (Below.refl B0 w').grown hg5 hbase (fun k hk => (hO.lt k hk).1)
              have h5 := hW'.belowB bb5 hLB hRB hAB.out
              have c52 := h5.rdr.cell 2
              have f52 := h5.rdr.frozen 2
              have c50 := h5.rdr.cell 0
              have h6 := h5.setB (.slice a5 (BB.length + 1) cp5)
              have hown6 := own_farB (p := ⟨R, 2, none⟩) (u := .slice a5 (BB.length + 1) cp5) hown5 hRB
              have hs5 := hg5.size
              have hz6 : (w5.setCell ⟨R, 2, none⟩ (.slice a5 (BB.length + 1) cp5)).heap.size = w5.heap.size := by simp [World.setCell]
              have hF6 : FrX L R (.slice bva BB.length bvc) (.slice a5 (BB.length + 1) cp5) wr (w5.setCell ⟨R, 2, none⟩ (.slice a5 (BB.length + 1) cp5)) :=
                ⟨hg5.os.trans hrw.os, hg5.tape.trans hrw.tape, hg5.output.trans hrw.output, by omega, fun k k1 k2 k3 k4 => (Below.heap_setCell _ _ _ _ k3).trans ((hg5.block k (by omega) (fun e => k4 e.symm)).trans (hrw.block k k1)), by
                  rcases hat5 with e | e
                  · exact .inl e
                  · exact .inr fun k hk => by rw [e] at hk; injection hk with hk; omega⟩
              have hvals : [Value.string ⟨#[]⟩, .string VA] = [str [], str v] := by rw [hVA.out]; rfl
              rw [hvals, ← bndV_app] at hown6
              have hlen6 : (BB ++ [([], v)]).length = BB.length + 1 := by simp
              replace hown6 := Lib.hid hown6
              replace h6 := Lib.hid h6
              replace hF6 := Lib.hid hF6
              replace h5 := Lib.hid h5
              replace hown5 := Lib.hid hown5
              replace hg5 := Lib.hid hg5
              replace hat5 := Lib.hid hat5
              replace hR := Lib.hid hR
              replace hW' := Lib.hid hW'
              replace hO := Lib.hid hO
              replace bb5 := Lib.hid bb5
              replace hrw := Lib.hid hrw
              replace hlen6 := Lib.hid hlen6
              replace hvals := Lib.hid hvals
              replace hblk := Lib.hid hblk
              clear hmx hby hbase hz6 hs5 x20 x21 x22 x30 x31 x32 e0 e1 e2 k1 k2
              go_wp2
              go_roundw
              case rel => exact ⟨i + 1, .slice a5 (BB.length + 1) cp5, by omega, by go_num, h6.out, by rw [hsn.out]; unfold Bnd; rw [hlen6.out]; exact hown6.out, hF.out.trans hF6.out, by rw [hsn.out, hlen6.out]; omega⟩
              case measure => simp [RowKit.intOf]; omega
          all_goals
            intro x w' hR hd K hK
            simp only [All, GB10] at hd
            have z1 := (h3.out.below hR).rdr.cell 2
            have z0 := (h3.out.below hR).rdr.cell 0
            have zx := x3.out.below hR x3.out.lt
            have zx1 := zx.cell 1
            have zx2 := zx.cell 2
            simp (config := {decide := true}) only [upd, GB10, fillL, if_true, if_false] at hK ⊢
            repeat (obtain ⟨_, hd⟩ := hd)
            (try simp only [*] at hK ⊢)
            go_simp
            first
              | (have hK2 := hK _ _ ⟨hR, Below.refl _ _, rfl⟩; exact hK2)
              | (have hK2 := hK _ _ ⟨hR.alloc hR.size _, (Below.refl _ _).alloc (Nat.le_refl _) _, _, rfl, hR.size, Blk.new w' 129 _⟩; exact hK2)
              | skip

        · rw [if_neg cy] at hsn
          have k2 := fun (ww : World) => xml_saysN (w := ww) PA NA VA tP false (by
            rw [lPA, lNA]
            by_cases c0 : pre = []
            · have c1 : ¬ nm = [120, 109, 108, 110, 115] := fun e => cy ⟨c0, e⟩
              rw [c0]; simpa using c1
            · have : pre.isEmpty = false := by simpa using c0
              rw [this]; rfl)
          replace hsn := Lib.hid hsn
          clear hokv lPA lNA lVA cx cy
          have k1 := kc.out
          go_wp2_with (first
            | (go_at_call 75; (with_reducible refine k1.mono ?_); rintro e w2 ⟨rfl, b2, x2⟩; have x20 := x2.cell 0; have x21 := x2.cell 1; have x22 := x2.cell 2; replace b2 := Lib.hid b2; replace x2 := Lib.hid x2)
            | (go_at_call 68; (with_reducible refine (k2 _).mono ?_); rintro e w3 ⟨rfl, b3⟩; have b4 := b2.out.trans (b3.mono b2.out.size); have h3 := hS.out.below b4; replace b3 := Lib.hid b3; replace b4 := Lib.hid b4; replace h3 := Lib.hid h3))
          go_roundw
          case rel => exact ⟨i + 1, .slice bva BB.length bvc, by omega, by go_num, h3.out, by rw [hsn.out]; exact own_belowB hB.out b4.out, hF.out.trans (FrX.of_fr (Fr.of_below b4.out)), by rw [hsn.out]; omega⟩
          case measure => simp [RowKit.intOf]; omega
    · have hni : i = n := by omega
      subst hni
      have hlt : decide ((i : Int) < (i : Int)) = false := by simp
      rw [hn.out, List.take_length] at hB
      replace hF := Lib.hid hF
      replace hS := Lib.hid hS
      replace hB := Lib.hid hB
      go_wp2
      go_ret
      exact ⟨rfl, bv1, hS.out, hB.out, hF.out⟩
end Go.Proofs.YtgomlebemefdcaaDoor

/- The node: parts. No condition. -/
namespace Go.Proofs.YtgomlebemefdcaaDoor
open Go Go.RowKit Go.Wk Go.Xt Go.Xe
abbrev z5 : Array Value := #[.string ⟨#[]⟩, .string ⟨#[]⟩, .string ⟨#[]⟩, .slice none 0 0, .slice none 0 0]
def put5 (W : World) (g : Nat) (v0 v1 v2 v3 v4 : Value) : World := ((((W.setCell ⟨g, 0, none⟩ v0).setCell ⟨g, 1, none⟩ v1).setCell ⟨g, 2, none⟩ v2).setCell ⟨g, 3, none⟩ v3).setCell ⟨g, 4, none⟩ v4
theorem put5_save (W : World) (g : Nat) (v0 v1 v2 v3 v4 : Value) : Save g W (put5 W g v0 v1 v2 v3 v4) := (((((Save.refl g W).store 0 v0).store 1 v1).store 2 v2).store 3 v3).store 4 v4
theorem put5_blk {W : World} {g : Nat} {t : TypeId} {u0 u1 u2 u3 u4 : Value} (h : Blk W g t #[u0, u1, u2, u3, u4]) (v0 v1 v2 v3 v4 : Value) : Blk (put5 W g v0 v1 v2 v3 v4) g t #[v0, v1, v2, v3, v4] := ((((h.set_ 0 v0).set_ 1 v1).set_ 2 v2).set_ 3 v3).set_ 4 v4
set_option maxHeartbeats 1000000 in
set_option maxRecDepth 100000 in
theorem idx2_nil {w : World} (A : Option Addr) (c : Nat) (f : Value) :
    Calls Tryd.prog 77 #[.slice A 0 c, f] w fun e w' => e = .returned (.int .i64 (-1)) ∧ w = w' := by
  go_enter Tryd.func77, Tryd.ntmps77
  go_wp2
  refine wp_loop_rounds 1 ?_; rw [rounds_succ]
  go_wp2
  go_ret
  exact ⟨rfl, rfl⟩
set_option maxHeartbeats 1000000 in
set_option maxRecDepth 100000 in
theorem cont2_nil {w : World} (A : Option Addr) (c : Nat) (f : Value) :
    Calls Tryd.prog 69 #[.slice A 0 c, f] w fun e w' => e = .returned (.bool false) ∧ w = w' := by
  have ci := fun (w : World) => idx2_nil (w := w) A c f
  go_enter Tryd.func69, Tryd.ntmps69
  go_wp2_with (go_at_call 77; (with_reducible refine (ci _).mono ?_); rintro e w1 ⟨rfl, rfl⟩)
  go_ret
  exact ⟨rfl, rfl⟩
set_option maxRecDepth 100000 in
theorem attr_info : ∃ i, Tryd.prog.info? 34 = some i ∧ i.zero = some (.agg #[.string ⟨#[]⟩, .string ⟨#[]⟩, .string ⟨#[]⟩]) ∧ i.size = 3 ∧ i.bytes = 48 := ⟨_, rfl, by kernel_rfl, by kernel_rfl, by kernel_rfl⟩
set_option maxRecDepth 100000 in
theorem own_at {w w' : World} {B e s n cap : Nat} {a : Option Addr} {xs : List Value} {k : Nat} (h : w.ownsRow B e s (.slice a n cap) n xs) (hn : 0 < n) (hat : (Value.slice a n cap).ownBlock = none ∨ (Value.slice a n cap).ownBlock = some k) : a = some ⟨k, 0, none⟩ ∧ k < w.heap.size ∧ (w'.heap[k]? = w.heap[k]? → w'.ownsRow 0 e s (.slice a n cap) n xs) := by
  rcases h.2 with ⟨e1, h0⟩ | ⟨g, cap', cur, e1, hB, hh, rest⟩
  · omega
  · cases e1
    rcases hat with h1 | h1
    · cases h1
    · cases h1
      refine ⟨rfl, ?_, fun hk => ⟨h.1, .inr ⟨_, _, cur, rfl, Nat.zero_le _, hk.trans hh, rest⟩⟩⟩
      rcases Nat.lt_or_ge g w.heap.size with h' | h'
      · exact h'
      · rw [Array.getElem?_eq_none h'] at hh; cases hh
theorem three_new (w : World) (v0 v1 v2 : Value) (t : TypeId) : ∀ j u, [v0, v1, v2][j]? = some u → (w.alloc (.cells #[v0, v1, v2] t)).cell? ((⟨w.heap.size, 0, none⟩ : Addr).add j) = some u := by
  intro j u hj
  rw [Lib.add_plain, alloc_cell, ← hj]
  match j with
  | 0 => rfl
  | 1 => rfl
  | 2 => rfl
  | _ + 3 => rfl
set_option maxHeartbeats 4000000 in
set_option maxRecDepth 100000 in
set_option maxHeartbeats 1000000 in
set_option maxRecDepth 100000 in
theorem xml_saysY {w : World} (P N V : ByteArray) (hP : (P.toList == [120, 109, 108, 110, 115]) = true) :
    Calls Tryd.prog 68 #[.agg #[.string P, .string N, .string V]] w fun e w' => e = .returned (.bool true) ∧ Below w.heap.size w w' := by
  go_enter Tryd.func68, Tryd.ntmps68
  go_wp2
  go_ret
  exact ⟨rfl, (Below.refl _ _).alloc (Nat.le_refl _) _⟩
/-- says it of a prefix -/
def saysB (a : List UInt8 × List UInt8 × List UInt8) : Bool := a.1 == [120, 109, 108, 110, 115] || (a.1.isEmpty && (a.2.1 == [120, 109, 108, 110, 115]))
theorem xml_saysA {w : World} (P N V : ByteArray) (a : List UInt8 × List UInt8 × List UInt8) (h0 : P.toList = a.1) (h1 : N.toList = a.2.1) (b : Bool) (hb : saysB a = b) :
    Calls Tryd.prog 68 #[.agg #[.string P, .string N, .string V]] w fun e w' => e = .returned (.bool b) ∧ Below w.heap.size w w' := by
  unfold saysB at hb
  cases hP : (P.toList == [120, 109, 108, 110, 115]) with
  | true =>
    rw [h0] at hP
    rw [hP, Bool.true_or] at hb
    subst hb
    exact xml_saysY P N V (by rw [h0]; exact hP)
  | false =>
    refine xml_saysN P N V hP b ?_
    rw [h0] at hP ⊢
    rw [h1]
    rw [hP, Bool.false_or] at hb
    exact hb
end Go.Proofs.YtgomlebemefdcaaDoor

/- The node: its attributes say what is bound, but for one at most, the last. No condition. -/
namespace Go.Proofs.YtgomlebemefdcaaDoor
open Go Go.RowKit Go.Wk Go.Xt Go.Xe
/-- the attributes of a node: none, or one with what its prefix says -/
def AtW (w : World) (lo : Nat) (bv : Value) (so : List UInt8) (o : List (List UInt8 × List UInt8 × List UInt8)) (av : Value) : Prop :=
  match o with
  | [] => av = .slice none 0 0
  | [a] => ∃ g cp, av = .slice (some ⟨g, 0, none⟩) 1 cp ∧ lo ≤ g ∧ bv.ownBlock ≠ some g ∧ w.cell? ⟨g, 0, none⟩ = some (str so) ∧ w.cell? ⟨g, 1, none⟩ = some (str a.2.1) ∧ w.cell? ⟨g, 2, none⟩ = some (str a.2.2)
  | _ => False
theorem own_save {w w' : World} {B e s n g : Nat} {v : Value} {xs : List Value} (h : w.ownsRow B e s v n xs) (hs : Save g w w') (hg : v.ownBlock ≠ some g) : w'.ownsRow B e s v n xs := by
  have hlt := h.lt
  refine ⟨h.1, ?_⟩
  rcases h.2 with h2 | ⟨g', cap, cur, e1, hB, hh, rest⟩
  · exact .inl h2
  · subst e1
    have hl := (hlt g' rfl).2
    exact .inr ⟨g', cap, cur, rfl, hB, (hs.block g' hl (fun e => hg (by rw [← e]; rfl))).trans hh, rest⟩
theorem AtW.save {w w' : World} {lo lo' g : Nat} {bv : Value} {so : List UInt8} {o : List (List UInt8 × List UInt8 × List UInt8)} {av : Value} (h : AtW w lo bv so o av) (hs : Save g w w') (h1 : g < lo) (h2 : lo' ≤ lo) : AtW w' lo' bv so o av := by
  unfold AtW at h ⊢
  split at h
  · exact h
  · obtain ⟨q, cp, e, a1, a2, c0, c1, c2⟩ := h
    have hb := hs.block q (cell_lt c0) (by omega)
    exact ⟨q, cp, e, by omega, a2, (World.cell?_of_block hb).trans c0, (World.cell?_of_block hb).trans c1, (World.cell?_of_block hb).trans c2⟩
  · exact h
set_option maxHeartbeats 8000000 in
set_option maxRecDepth 100000 in
theorem xml_nodeP {w : World} {L R c p many B0 : Nat} {bv : Value} {A : Option Addr} {bs pre nm sp so : List UInt8} {B E B1 B2 : List (List UInt8 × List UInt8)} {l ls o : List (List UInt8 × List UInt8 × List UInt8)} (al : Option Addr) (cap : Nat) (h : RS w L R bv A c bs p many) (hb : Bnd w B0 bv B) (hLB : L < B0) (hRB : R < B0) (hB0 : B0 ≤ w.heap.size) (hAB : 0 < bs.length → ∀ x, A = some x → x.block < B0)
    (hl2 : l.length ≤ 2) (hlc : l.length ≤ cap) (hBm : B.length ≤ 1000)
    (row : ∀ i (hi : i < l.length), ∃ g, al = some ⟨g, 0, none⟩ ∧ g ≠ L ∧ g ≠ R ∧ bv.ownBlock ≠ some g ∧ w.cell? ⟨g, 3 * i, none⟩ = some (str l[i].1) ∧ w.cell? ⟨g, 3 * i + 1, none⟩ = some (str l[i].2.1) ∧ w.cell? ⟨g, 3 * i + 2, none⟩ = some (str l[i].2.2))
    (hdis : ∀ i j (hi : i < l.length) (hj : j < l.length), i < j → l[i].1 ≠ l[j].1 ∨ l[i].2.1 ≠ l[j].2.1) (hok : ∀ a ∈ l, a.1 = [120, 109, 108, 110, 115] → a.2.2 ≠ [])
    (hE : bindsOf l B = E) (hEm : E.length ≤ 100000) (hsp : E = B1 ++ (pre, sp) :: B2) (h2 : ∀ b ∈ B2, b.1 ≠ pre) (hx : pre ≠ [120, 109, 108])
    (hlo : l = ls ++ o) (hls : ∀ a ∈ ls, saysB a = true) (ho : o.length ≤ 1)
    (hos : ∀ a ∈ o, saysB a = false ∧ a.1 ≠ [] ∧ a.1 ≠ [120, 109, 108] ∧ ∃ C1 C2, E = C1 ++ (a.1, so) :: C2 ∧ ∀ b ∈ C2, b.1 ≠ a.1) :
    Calls Tryd.prog 62 #[.pointer (some ⟨R, 0, none⟩), str pre, str nm, .slice al l.length cap] w fun e w' => ∃ bv' av, e = .returned (.tuple #[.agg #[str sp, str nm, .string ⟨#[]⟩, av, .slice none 0 0], .int .i64 0]) ∧ RS w' L R bv' A c bs p many ∧ Bnd w' B0 bv' E ∧ FrX L R bv bv' w w' ∧ AtW w' w.heap.size bv' so o av := by
  obtain ⟨n, hn⟩ : ∃ n, n = l.length := ⟨_, rfl⟩
  obtain ⟨w0, hw0⟩ : ∃ w0, w0 = w.alloc (.cells z5 27) := ⟨_, rfl⟩
  have hb0 : Below w.heap.size w w0 := hw0 ▸ (Below.refl _ _).alloc (Nat.le_refl _) _
  have hx0 : Blk w0 w.heap.size 27 z5 := hw0 ▸ Blk.new w 27 z5
  have hsz0 := hb0.size
  have hrl := fun i (hi : i < l.length) => row i hi
  have cb := xml_boundP al cap (h.below hb0) (own_belowB hb hb0) hLB hRB (by omega) hAB hl2 hlc hBm (fun i hi => by
    obtain ⟨g, e, a1, a2, a3, k0, k1, k2⟩ := row i hi
    have lg := cell_lt k0
    exact ⟨g, e, a1, a2, a3, (World.cell?_of_block (hb0.block g lg)).trans k0, (World.cell?_of_block (hb0.block g lg)).trans k1, (World.cell?_of_block (hb0.block g lg)).trans k2⟩) hdis hok
  rw [hE, ← hn] at cb
  have cs := fun (w1 : World) (bv1 : Value) (h1 : RS w1 L R bv1 A c bs p many) (k1 : Bnd w1 B0 bv1 E) => xml_spaceP h1 k1 hsp h2 hx hEm
  obtain ⟨PR, hPR⟩ : ∃ N : ByteArray, str pre = .string N := ⟨_, rfl⟩
  obtain ⟨NR, hNR⟩ : ∃ N : ByteArray, str nm = .string N := ⟨_, rfl⟩
  obtain ⟨SR, hSR⟩ : ∃ N : ByteArray, str sp = .string N := ⟨_, rfl⟩
  rw [hPR, hNR, hSR]
  rw [hPR, hSR] at cs
  rw [← hn] at hl2 hlc ⊢
  have hLlt := h.cur.L_lt
  have hRlt := h.rdr.lt
  replace hAB := Lib.hid hAB
  replace hn := Lib.hid hn
  replace h := Lib.hid h
  replace hb := Lib.hid hb
  replace row := Lib.hid row
  replace hdis := Lib.hid hdis
  replace hok := Lib.hid hok
  replace hE := Lib.hid hE
  replace hsp := Lib.hid hsp
  replace hls := Lib.hid hls
  replace hos := Lib.hid hos
  replace hlo := Lib.hid hlo
  replace hb0 := Lib.hid hb0
  replace hx0 := Lib.hid hx0
  replace cs := Lib.hid cs
  replace hw0 := Lib.hid hw0
  clear hrl h2 hx hPR hNR hSR
  have hw1 := hw0.out
  subst hw1
  go_enter Tryd.func62, Tryd.ntmps62
  go_wp2_with (first
    | (go_at_call 66; (with_reducible refine cb.mono ?_); rintro e w1 ⟨rfl, bv1, h1, k1, f1⟩; have c1 := cs.out w1 bv1 h1 k1; replace h1 := Lib.hid h1; replace k1 := Lib.hid k1; replace f1 := Lib.hid f1)
    | (go_at_call 67; (with_reducible refine c1.mono ?_); rintro e w2 ⟨rfl, rfl⟩))
  obtain ⟨w2, hw2⟩ : ∃ w2, w2 = w1.alloc (.cells #[.string SR, .string NR, .string ⟨#[]⟩, .slice none 0 0, .slice none 0 0] 27) := ⟨_, rfl⟩
  have hx2 : Blk w2 w1.heap.size 27 #[.string SR, .string NR, .string ⟨#[]⟩, .slice none 0 0, .slice none 0 0] := hw2 ▸ Blk.new w1 27 _
  have hb2 : Below w1.heap.size w1 w2 := hw2 ▸ (Below.refl _ _).alloc (Nat.le_refl _) _
  rw [← hw2]
  have h3 := h1.out.below hb2
  have k3 := own_belowB k1.out hb2
  have hln : ls.length + o.length = n := by rw [hn.out, hlo.out, List.length_append]
  replace hx2 := Lib.hid hx2
  replace hb2 := Lib.hid hb2
  replace h3 := Lib.hid h3
  replace k3 := Lib.hid k3
  clear hw2
  have hown : bv.ownBlock ≠ some w.heap.size := fun e => by have := (hb.out.lt _ e).2; omega
  have hxr : Blk w1 w.heap.size 27 z5 := (f1.out.block w.heap.size (by rw [World.size_alloc]; omega) (by omega) (by omega) hown).trans hx0.out
  have hzr : w.heap.size < w1.heap.size := hxr.lt
  replace hxr := Lib.hid hxr
  clear hown
  go_loopw [12, 35] (fun s12 s35 wr => ∃ (i : Nat) (av : Value), i ≤ n ∧ s12 = .int .i64 0 ∧ s35 = .int .i64 i ∧ RS wr L R bv1 A c bs p many ∧ Bnd wr B0 bv1 E ∧ Below w1.heap.size w1 wr ∧ Blk wr w1.heap.size 27 #[.string SR, .string NR, .string ⟨#[]⟩, av, .slice none 0 0] ∧ (i ≤ ls.length → av = .slice none 0 0) ∧ (i = n → AtW wr w1.heap.size bv1 so o av)) (fun _ s35 _ => n - (RowKit.intOf s35).toNat)
  case atStart =>
    refine ⟨0, .slice none 0 0, Nat.zero_le _, rfl, rfl, h3.out, k3.out, hb2.out, hx2.out, fun _ => rfl, fun e => ?_⟩
    have : o = [] := List.eq_nil_of_length_eq_zero (by omega)
    subst this
    rfl
  case round =>
    obtain ⟨i, av, hi, rfl, rfl, hS, hB, hL, hX, hav, hat⟩ := hrel
    by_cases hin : i < n
    · have hil : i < l.length := by rw [← hn.out]; exact hin
      obtain ⟨g, rfl, hgL, hgR, hgX, q0, q1, q2⟩ := row.out i hil
      obtain ⟨a, ha⟩ : ∃ a, a = l[i] := ⟨_, rfl⟩
      rw [← ha] at q0 q1 q2
      obtain ⟨PA, hPA⟩ : ∃ N : ByteArray, str a.1 = .string N := ⟨_, rfl⟩
      obtain ⟨NA, hNA⟩ : ∃ N : ByteArray, str a.2.1 = .string N := ⟨_, rfl⟩
      obtain ⟨VA, hVA⟩ : ∃ N : ByteArray, str a.2.2 = .string N := ⟨_, rfl⟩
      have lPA := toList_str _ _ hPA
      have lNA := toList_str _ _ hNA
      have lVA := toList_str _ _ hVA
      rw [hPA] at q0
      rw [hNA] at q1
      rw [hVA] at q2
      have lg : g < w.heap.size := cell_lt q0
      have hgb : wr.heap[g]? = w.heap[g]? := (hL.block g (by omega)).trans ((f1.out.block g (by rw [World.size_alloc]; omega) hgL hgR hgX).trans (hb0.out.block g lg))
      have e0 : wr.cell? ⟨g, i * 3, none⟩ = some (.string PA) := by rw [Nat.mul_comm]; exact (World.cell?_of_block hgb).trans q0
      have e1 : wr.cell? ⟨g, i * 3 + 1, none⟩ = some (.string NA) := by rw [Nat.mul_comm]; exact (World.cell?_of_block hgb).trans q1
      have e2 : wr.cell? ⟨g, i * 3 + 2, none⟩ = some (.string VA) := by rw [Nat.mul_comm]; exact (World.cell?_of_block hgb).trans q2
      have hlt : decide ((i : Int) < (n : Int)) = true := by simp; omega
      have hgr : g < wr.heap.size := by have := hL.size; omega
      have hwr := hX.lt
      have hbn : Below wr.heap.size wr (wr.alloc (.cells #[.string PA, .string NA, .string VA] 118)) := (Below.refl _ _).alloc (Nat.le_refl _) _
      have kd : ∀ b, saysB a = b → Calls Tryd.prog 68 #[.agg #[.string PA, .string NA, .string VA]] (wr.alloc (.cells #[.string PA, .string NA, .string VA] 118)) fun e w' => e = .returned (.bool b) ∧ Below wr.heap.size wr w' ∧ Blk w' wr.heap.size 118 #[.string PA, .string NA, .string VA] := fun b hb =>
        (xml_saysA PA NA VA a lPA lNA b hb).mono fun e w' k => ⟨k.1, hbn.trans (k.2.mono (by rw [World.size_alloc]; omega)), (Blk.new wr 118 _).below k.2 (by rw [World.size_alloc]; omega)⟩
      replace hgb := Lib.hid hgb
      replace hL := Lib.hid hL
      replace hS := Lib.hid hS
      replace hB := Lib.hid hB
      replace hX := Lib.hid hX
      replace hav := Lib.hid hav
      replace hPA := Lib.hid hPA
      replace hNA := Lib.hid hNA
      replace hVA := Lib.hid hVA
      replace hbn := Lib.hid hbn
      clear q0 q1 q2 hgL hgR hgX hat
      by_cases cs1 : i < ls.length
      · have hsy : saysB a = true := hls.out a (by rw [ha]; simp only [hlo.out]; rw [List.getElem_append_left cs1]; exact List.getElem_mem _)
        have kd1 := kd true hsy
        replace ha := Lib.hid ha
        clear kd lPA lNA lVA
        go_wp2_with (go_at_call 68; (with_reducible refine kd1.mono ?_); rintro e w3 ⟨rfl, b3, x3⟩; replace b3 := Lib.hid b3; replace x3 := Lib.hid x3)
        go_roundw
        case rel =>
          have hl3 := hL.out.size
          exact ⟨i + 1, av, by omega, rfl, by go_num, hS.out.below b3.out, own_belowB hB.out b3.out, hL.out.trans (b3.out.mono hl3), hX.out.below b3.out hwr, fun h5 => hav.out (by omega), fun h5 => by
            have ho0 : o = [] := List.eq_nil_of_length_eq_zero (by omega)
            rw [hav.out (by omega), ho0]; rfl⟩
        case measure => simp [RowKit.intOf]; omega
      · obtain ⟨rfl, hi2⟩ : o = [a] ∧ i = ls.length := by
          have h6 : o.length = 1 := by omega
          have h7 : i = ls.length := by omega
          refine ⟨?_, h7⟩
          obtain ⟨y, rfl⟩ := List.length_eq_one_iff.1 h6
          congr 1
          rw [ha]; simp only [hlo.out]
          rw [List.getElem_append_right (by omega)]
          simp [h7]
        obtain ⟨hs0, hne, hnx, C1, C2, hC, hC2⟩ := hos.out a (by simp)
        have hav0 := hav.out (by omega)
        subst hav0
        have kd1 := kd false hs0
        obtain ⟨SO, hSO⟩ : ∃ N : ByteArray, str so = .string N := ⟨_, rfl⟩
        have c67 := fun (W : World) (hW : Below wr.heap.size wr W) => xml_spaceP (hS.out.below hW) (own_belowB hB.out hW) hC hC2 hnx hEm
        rw [hPA.out, hSO] at c67
        have tP : PA.toList.isEmpty = false := by rw [lPA]; simpa using hne
        have tP2 : ¬ PA.toList = [] := by rw [lPA]; exact hne
        have cc := fun (w : World) A c f => cont2_nil (w := w) A c f
        obtain ⟨i0, hi0, hz0, hz1, hz2⟩ := attr_info
        replace hi0 := Lib.hid hi0
        replace hz0 := Lib.hid hz0
        replace hz1 := Lib.hid hz1
        replace hz2 := Lib.hid hz2
        replace ha := Lib.hid ha
        replace c67 := Lib.hid c67
        replace hSO := Lib.hid hSO
        replace hC := Lib.hid hC
        have hin1 : i + 1 = n := by simp at hln; omega
        replace hin1 := Lib.hid hin1
        replace hi2 := Lib.hid hi2
        replace hln := Lib.hid hln
        clear cs1
        clear kd lPA lNA lVA hC2 hnx hne hs0
        go_wp2_with (first
          | (go_at_call 68; (with_reducible refine kd1.mono ?_); rintro e w3 ⟨rfl, b3, x3⟩; have x30 := x3.cell 0; have x31 := x3.cell 1; have x32 := x3.cell 2; have X3 := hX.out.below b3 hwr; have X30 := X3.cell 0; have X31 := X3.cell 1; have X32 := X3.cell 2; have X33 := X3.cell 3; have X34 := X3.cell 4; have F33 := X3.frozen 3; have hl3 : wr.heap.size < w3.heap.size := x3.lt; have hl4 : w1.heap.size < w3.heap.size := X3.lt; have c1 := c67.out _ (b3.alloc b3.size (.cells #[.string ⟨#[]⟩, .string NA, .string VA] 34)); replace b3 := Lib.hid b3; replace x3 := Lib.hid x3; replace X3 := Lib.hid X3)
          | (go_at_call 67; (with_reducible refine c1.mono ?_); rintro e w4 ⟨rfl, rfl⟩)
          | (go_at_call 69; (with_reducible refine (cc _ _ _ _).mono ?_); rintro e w5 ⟨rfl, rfl⟩)
          | (at_builtin; refine wpList_append_own_at _ rfl (.tmp 67) (.tmp 69) 24 rfl w1.heap.size 34 i0 _ 3 48 Tryd.underlying24 hi0.out hz0.out hz1.out hz2.out rfl (by decide) (.slice none 0 0) 0 [] rfl (World.ownsRow_nil _ _ _ _) ⟨w3.heap.size + 1, 0, none⟩ 1 1 [.string SO, .string NA, .string VA] rfl rfl (by have := three_new (w3.alloc (.cells #[.string SO, .string NA, .string VA] 34)) (.string SO) (.string NA) (.string VA) 34; rw [World.size_alloc] at this; exact this) (three_one _ _ _) (by decide) (by decide) (by simp; omega) ?_; intro v5 w5 hown5 hg5 _ hat5; generalize hstop : wpList _ _ _ _ _ _ = G))
        subst hstop
        have b5 : Below w3.heap.size w3 w5 := (((Below.refl _ _).alloc (Nat.le_refl _) _).alloc (by rw [World.size_alloc]; omega) _).grown hg5 (by rw [World.size_alloc, World.size_alloc]; omega) (fun g hg => by simp [Value.ownBlock] at hg)
        have X5 := X3.out.below b5 hl4
        have X53 := X5.cell 3
        have F53 := X5.frozen 3
        have hl5 := X5.lt
        obtain ⟨a5, cp5, rfl⟩ := sl_of hown5
        have hz2 : ((w3.alloc (.cells #[.string SO, .string NA, .string VA] 34)).alloc (.cells #[.string SO, .string NA, .string VA] 34)).heap.size = w3.heap.size + 2 := by rw [World.size_alloc, World.size_alloc]
        rw [hz2] at hat5
        obtain ⟨rfl, hk5, hU5⟩ := own_at (w' := w5.setCell ⟨w1.heap.size, 3, none⟩ (.slice a5 1 cp5)) hown5 (by omega) (by simpa [Value.ownBlock] using hat5)
        have hown6 := hU5 (Below.heap_setCell _ _ _ _ (by show w3.heap.size + 2 ≠ w1.heap.size; omega))
        have b6 : Below wr.heap.size wr w5 := b3.out.trans (b5.mono (Nat.le_of_lt hl3))
        replace b5 := Lib.hid b5
        replace b6 := Lib.hid b6
        replace X5 := Lib.hid X5
        replace hown5 := Lib.hid hown5
        replace hown6 := Lib.hid hown6
        replace hU5 := Lib.hid hU5
        replace hg5 := Lib.hid hg5
        replace hat5 := Lib.hid hat5
        replace hz2 := Lib.hid hz2
        clear x30 x31 x32 X30 X31 X32 X33 X34 F33
        go_wp2
        go_roundw
        case rel =>
          have hl3' := hL.out.size
          have hs6 := b6.out.size
          have b7 : Below w1.heap.size wr (w5.setCell ⟨w1.heap.size, 3, none⟩ (.slice (some ⟨w3.heap.size + 2, 0, none⟩) 1 cp5)) := (b6.out.mono hl3').setCell (p := ⟨w1.heap.size, 3, none⟩) (Nat.le_refl _) _
          have hX7 := X5.out.set_ 3 (.slice (some ⟨w3.heap.size + 2, 0, none⟩) 1 cp5)
          refine ⟨i + 1, _, by have := hin1.out; omega, rfl, by go_num, hS.out.belowB (b7.mono (by omega)) hLB hRB hAB.out, ?_, hL.out.trans b7, hX7, fun h5 => by have := hi2.out; omega, fun _ => ?_⟩
          · exact own_belowB k1.out (hL.out.trans b7)
          · exact ⟨w3.heap.size + 2, cp5, rfl, by omega, fun e => by have := (k1.out.lt _ e).2; omega, (hown6.out.cellAt 0 (by omega)).trans (by rw [hSO.out]; rfl), (hown6.out.cellAt 1 (by omega)).trans (by rw [hNA.out]; rfl), (hown6.out.cellAt 2 (by omega)).trans (by rw [hVA.out]; rfl)⟩
        case measure => simp [RowKit.intOf]; omega
    · have hni : i = n := by omega
      subst hni
      have hlt : decide ((i : Int) < (i : Int)) = false := by simp
      have hA := hat rfl
      obtain ⟨a, m, cp, rfl⟩ : ∃ a m cp, av = .slice a m cp := by
        unfold AtW at hA
        split at hA
        · exact ⟨_, _, _, hA⟩
        · obtain ⟨g, cp, e, _⟩ := hA; exact ⟨_, _, _, e⟩
        · exact hA.elim
      have n5 := hxr.out.below hL hzr
      have x50 := hX.cell 0
      have x51 := hX.cell 1
      have x52 := hX.cell 2
      have x53 := hX.cell 3
      have x54 := hX.cell 4
      have y50 := n5.frozen 0
      have y51 := n5.frozen 1
      have y52 := n5.frozen 2
      have y53 := n5.frozen 3
      have y54 := n5.frozen 4
      have m50 := n5.cell 0
      have m51 := n5.cell 1
      have m52 := n5.cell 2
      have m53 := n5.cell 3
      have m54 := n5.cell 4
      have hne : ¬ w.heap.size = w1.heap.size := by omega
      have hne2 : ¬ w1.heap.size = w.heap.size := by omega
      replace n5 := Lib.hid n5
      replace hX := Lib.hid hX
      replace hL := Lib.hid hL
      replace hS := Lib.hid hS
      replace hB := Lib.hid hB
      replace hA := Lib.hid hA
      clear hat hav
      go_wp2
      have hV := put5_blk n5.out (.string SR) (.string NR) (.string ⟨#[]⟩) (.slice a m cp) (.slice none 0 0)
      have hSV := put5_save wr w.heap.size (.string SR) (.string NR) (.string ⟨#[]⟩) (.slice a m cp) (.slice none 0 0)
      unfold put5 at hV hSV
      obtain ⟨U, hU⟩ : ∃ U, U = (((((wr.setCell ⟨w.heap.size, 0, none⟩ (.string SR)).setCell ⟨w.heap.size, 1, none⟩ (.string NR)).setCell ⟨w.heap.size, 2, none⟩ (.string ⟨#[]⟩)).setCell ⟨w.heap.size, 3, none⟩ (.slice a m cp)).setCell ⟨w.heap.size, 4, none⟩ (.slice none 0 0)) := ⟨_, rfl⟩
      rw [← hU] at hV hSV ⊢
      have r0 := hV.cell 0
      have r1 := hV.cell 1
      have r2 := hV.cell 2
      have r3 := hV.cell 3
      have r4 := hV.cell 4
      have hsU := hL.out.size
      have hBU : Below w.heap.size wr U := hSV.below (Nat.le_refl _) (by omega)
      have hown : bv1.ownBlock ≠ some w.heap.size := fun e => by
        rcases f1.out.own with h5 | h5
        · rw [h5] at e; have := (hb.out.lt _ e).2; omega
        · have := h5 _ e; rw [World.size_alloc] at this; omega
      have hFX : FrX L R bv bv1 w U := ⟨hSV.os.trans (hL.out.os.trans (f1.out.os.trans hb0.out.os)), hSV.tape.trans (hL.out.tape.trans (f1.out.tape.trans hb0.out.tape)), hSV.output.trans (hL.out.output.trans (f1.out.output.trans hb0.out.output)), by have := hSV.size; omega, fun k q1 q2 q3 q4 =>
          (hBU.block k q1).trans ((hL.out.block k (by omega)).trans ((f1.out.block k (by rw [World.size_alloc]; omega) q2 q3 q4).trans (hb0.out.block k q1))), by
            rcases f1.out.own with h5 | h5
            · exact .inl h5
            · exact .inr fun k e => by have := h5 k e; rw [World.size_alloc] at this; omega⟩
      refine bodyPost_ret (v := .tuple #[.agg #[.string SR, .string NR, .string ⟨#[]⟩, .slice a m cp, .slice none 0 0], .int .i64 0]) (by simp [results, Tryd.results62, go_sem, r0, r1, r2, r3, r4]) rfl ⟨bv1, _, rfl, hS.out.belowB (hBU.mono hB0) hLB hRB hAB.out, own_save hB.out hSV hown, hFX, hA.out.save hSV hzr (Nat.le_of_lt hzr)⟩
end Go.Proofs.YtgomlebemefdcaaDoor

/- The mark at the head of an element: parts. No condition. -/
namespace Go.Proofs.YtgomlebemefdcaaDoor
open Go Go.RowKit Go.Wk Go.Xt Go.Xe
theorem RS.bump {w : World} {L R c p many : Nat} {bv : Value} {A : Option Addr} {bs : List UInt8} (h : RS w L R bv A c bs p many) : RS (w.setCell ⟨R, 1, none⟩ (.int .i64 ((many : Int) + 1))) L R bv A c bs p (many + 1) := by
  have hc := h.cur
  have hL := hc.L_lt
  have hne : ∀ o, (⟨R, 1, none⟩ : Addr) ≠ ⟨L, o, none⟩ := fun o e => h.ne (by cases e; rfl)
  refine ⟨⟨hc.ne, Save.refl _ _, ?_, ?_, ?_, ⟨hc.byt.1, fun h0 => ?_⟩, hc.le, hc.small⟩, ?_, h.ne, h.neA, h.cap⟩
  · rw [World.cell?_setCell_other _ _ _ _ (hne 0)]; exact hc.cb
  · rw [World.cell?_setCell_other _ _ _ _ (hne 1)]; exact hc.ca
  · rw [World.frozen?_setCell]; exact hc.fr
  · obtain ⟨b, o, rfl, hcell⟩ := hc.byt.2 h0
    have hb : b ≠ R := h.neA h0 _ rfl
    refine ⟨b, o, rfl, fun i hi => ?_⟩
    rw [World.cell?_setCell_other _ _ _ _ (fun e => hb (congrArg Addr.block e).symm)]
    exact hcell i hi
  · have := h.rdr.set_ 1 (.int .i64 ((many : Int) + 1))
    rw [show ((many + 1 : Nat) : Int) = (many : Int) + 1 by omega]
    exact this
theorem Fr.bump {L R : Nat} (w : World) (u : Value) : Fr L R w (w.setCell ⟨R, 1, none⟩ u) := (Fr.refl L R w).store 1 u
theorem apV_at (l : List (List UInt8 × List UInt8 × List UInt8)) : ∀ i (hi : i < l.length), (apV l)[3 * i]? = some (str l[i].1) ∧ (apV l)[3 * i + 1]? = some (str l[i].2.1) ∧ (apV l)[3 * i + 2]? = some (str l[i].2.2) := by
  induction l with
  | nil => intro i hi; simp at hi
  | cons a l ih =>
    intro i hi
    have e : apV (a :: l) = str a.1 :: str a.2.1 :: str a.2.2 :: apV l := by simp [apV]
    rw [e]
    cases i with
    | zero => exact ⟨rfl, rfl, rfl⟩
    | succ i =>
      have := ih i (by simpa using hi)
      rw [show 3 * (i + 1) = 3 * i + 1 + 1 + 1 by omega]
      simpa using this
theorem ap_rows {w : World} {lo cap : Nat} {a : Option Addr} {l : List (List UInt8 × List UInt8 × List UInt8)} (h : w.ownsRow lo 118 3 (.slice a l.length cap) l.length (apV l)) : ∀ i (hi : i < l.length), ∃ g, a = some ⟨g, 0, none⟩ ∧ lo ≤ g ∧ w.cell? ⟨g, 3 * i, none⟩ = some (str l[i].1) ∧ w.cell? ⟨g, 3 * i + 1, none⟩ = some (str l[i].2.1) ∧ w.cell? ⟨g, 3 * i + 2, none⟩ = some (str l[i].2.2) := by
  intro i hi
  have hlt := h.lt
  rcases h.2 with ⟨e, h0⟩ | ⟨g, cap', cur, e, _⟩
  · omega
  · cases e
    have hb := apV_at l i hi
    exact ⟨g, rfl, (hlt g rfl).1, (h.cellAt (3 * i) (by omega)).trans hb.1, (h.cellAt (3 * i + 1) (by omega)).trans hb.2.1, (h.cellAt (3 * i + 2) (by omega)).trans hb.2.2⟩
theorem ap_cap {w : World} {lo cap : Nat} {a : Option Addr} {l : List (List UInt8 × List UInt8 × List UInt8)} (h : w.ownsRow lo 118 3 (.slice a l.length cap) l.length (apV l)) : l.length ≤ cap := by
  rcases h.2 with ⟨e, h0⟩ | ⟨g, cap', cur, e, rest⟩
  · omega
  · cases e
    simp_all
/-- a mark: its name with one in front, its attributes, closed or not -/
inductive MarkP : List UInt8 → List UInt8 → List UInt8 → List (List UInt8 × List UInt8 × List UInt8) → Bool → List UInt8 → Prop
  | «open» (r pre nm r1 r2 : List UInt8) (l : List (List UInt8 × List UInt8 × List UInt8)) : FullN r pre nm r1 → AttsP r1 l (62 :: r2) → MarkP (60 :: r) pre nm l false r2
  | shut (r pre nm r1 r2 : List UInt8) (l : List (List UInt8 × List UInt8 × List UInt8)) : FullN r pre nm r1 → AttsP r1 l (47 :: 62 :: r2) → MarkP (60 :: r) pre nm l true r2
/-- what a mark's attributes say: what is bound behind it, what its name's prefix says, and its one attribute left -/
structure Says (B E : List (List UInt8 × List UInt8)) (pre sp so : List UInt8) (l o : List (List UInt8 × List UInt8 × List UInt8)) : Prop where
  two : l.length ≤ 2
  small : B.length ≤ 1000
  dis : ∀ i j (hi : i < l.length) (hj : j < l.length), i < j → l[i].1 ≠ l[j].1 ∨ l[i].2.1 ≠ l[j].2.1
  ok : ∀ a ∈ l, a.1 = [120, 109, 108, 110, 115] → a.2.2 ≠ []
  new : bindsOf l B = E
  newSmall : E.length ≤ 100000
  sp : ∃ B1 B2, E = B1 ++ (pre, sp) :: B2 ∧ ∀ b ∈ B2, b.1 ≠ pre
  pre : pre ≠ [120, 109, 108]
  parts : ∃ ls, l = ls ++ o ∧ ∀ a ∈ ls, saysB a = true
  one : o.length ≤ 1
  so : ∀ a ∈ o, saysB a = false ∧ a.1 ≠ [] ∧ a.1 ≠ [120, 109, 108] ∧ ∃ C1 C2, E = C1 ++ (a.1, so) :: C2 ∧ ∀ b ∈ C2, b.1 ≠ a.1
theorem node_says {w : World} {L R c p many B0 lo : Nat} {bv : Value} {A : Option Addr} {bs pre nm sp so : List UInt8} {B E : List (List UInt8 × List UInt8)} {l o : List (List UInt8 × List UInt8 × List UInt8)} (al : Option Addr) (cap : Nat) (hS : Says B E pre sp so l o) (h : RS w L R bv A c bs p many) (hb : Bnd w B0 bv B) (hLB : L < B0) (hRB : R < B0) (hB0 : B0 ≤ w.heap.size) (hAB : 0 < bs.length → ∀ x, A = some x → x.block < B0)
    (hown : w.ownsRow lo 118 3 (.slice al l.length cap) l.length (apV l)) (hL : L < lo) (hR : R < lo) (hX : ∀ k, bv.ownBlock = some k → k < lo) :
    Calls Tryd.prog 62 #[.pointer (some ⟨R, 0, none⟩), str pre, str nm, .slice al l.length cap] w fun e w' => ∃ bv' av, e = .returned (.tuple #[.agg #[str sp, str nm, .string ⟨#[]⟩, av, .slice none 0 0], .int .i64 0]) ∧ RS w' L R bv' A c bs p many ∧ Bnd w' B0 bv' E ∧ FrX L R bv bv' w w' ∧ AtW w' w.heap.size bv' so o av := by
  obtain ⟨B1, B2, e1, e2⟩ := hS.sp
  obtain ⟨ls, e3, e4⟩ := hS.parts
  exact xml_nodeP al cap h hb hLB hRB hB0 hAB hS.two (ap_cap hown) hS.small (fun i hi => by
    obtain ⟨g, e, hg, c0, c1, c2⟩ := ap_rows hown i hi
    exact ⟨g, e, by omega, by omega, fun e5 => by have := hX g e5; omega, c0, c1, c2⟩) hS.dis hS.ok hS.new hS.newSmall e1 e2 hS.pre e3 e4 hS.one hS.so
end Go.Proofs.YtgomlebemefdcaaDoor

/- The mark at the head of an element. No condition. -/
namespace Go.Proofs.YtgomlebemefdcaaDoor
open Go Go.RowKit Go.Wk Go.Xt Go.Xe
/-- what a mark gives -/
def MarkR (w : World) (L R B0 : Nat) (bv : Value) (A : Option Addr) (c : Nat) (bs : List UInt8) (many : Nat) (E : List (List UInt8 × List UInt8)) (pre nm sp so : List UInt8) (o : List (List UInt8 × List UInt8 × List UInt8)) (closed : Bool) (r : List UInt8) (e : Ending) (w' : World) : Prop :=
  ∃ bv' av, e = .returned (.tuple #[str pre, str nm, .bool closed, .agg #[str sp, str nm, .string ⟨#[]⟩, av, .slice none 0 0], .int .i64 0]) ∧ (∃ q, RS w' L R bv' A c bs q (many + 1) ∧ Rest bs q r) ∧ Bnd w' B0 bv' E ∧ FrX L R bv bv' w w' ∧ AtW w' w.heap.size bv' so o av
set_option maxHeartbeats 8000000 in
set_option maxRecDepth 100000 in
theorem xml_markP {w : World} {L R c p many B0 : Nat} {bv : Value} {A : Option Addr} {bs r r' pre nm sp so : List UInt8} {B E : List (List UInt8 × List UInt8)} {l o : List (List UInt8 × List UInt8 × List UInt8)} {closed : Bool} (d : Nat) (hd0 : 0 < d) (hd : d ≤ 1000) (hm : many < 4000) (hS : Says B E pre sp so l o) (h : RS w L R bv A c bs p many) (hr : Rest bs p r) (hM : MarkP r pre nm l closed r')
    (hb : Bnd w B0 bv B) (hLB : L < B0) (hRB : R < B0) (hB0 : B0 ≤ w.heap.size) (hAB : 0 < bs.length → ∀ x, A = some x → x.block < B0) :
    Calls Tryd.prog 51 #[.pointer (some ⟨R, 0, none⟩), .int .i64 d] w (MarkR w L R B0 bv A c bs many E pre nm sp so o closed r') := by
  obtain ⟨PR, hPR⟩ : ∃ N : ByteArray, str pre = .string N := ⟨_, rfl⟩
  obtain ⟨NR, hNR⟩ : ∃ N : ByteArray, str nm = .string N := ⟨_, rfl⟩
  obtain ⟨SR, hSR⟩ : ∃ N : ByteArray, str sp = .string N := ⟨_, rfl⟩
  have hb0 : Below w.heap.size w (w.alloc (.cells z5 27)) := (Below.refl _ _).alloc (Nat.le_refl _) _
  have h0 := h.below hb0
  have hnew := Blk.new w 27 z5
  have c0 := h0.rdr.cell 0
  have hRlt := h.rdr.lt
  have hLlt := h.cur.L_lt
  have hAlt := Lib.hid h.A_lt
  have hdz : ((d : Int) == 0) = false := by simp; omega
  have hmm : ¬ (4000 : Int) < (many : Int) + 1 := by omega
  cases hM with
  | «open» r0 _ _ r1 r2 _ hF hA =>
    have m1 : Calls Tryd.prog 54 #[.pointer (some ⟨L, 0, none⟩), .string ⟨#[60]⟩] _ fun e w' => e = .returned (.bool true) ∧ RS w' L R bv A c bs (p + 1) many ∧ Fr L R _ w' := rs_yes h0 ⟨#[60]⟩ r0 (by decide) (by decide) hr.eq
    have hr1 : Rest bs (p + 1) r0 := hr.app (s := [60])
    have cf := fun w1 (h1 : RS w1 L R bv A c bs (p + 1) many) => xml_fullN h1 hr1 hF
    rw [hPR, hNR] at cf
    have ca := fun w2 q (h2 : RS w2 L R bv A c bs q (many + 1)) (hq : Rest bs q r1) => xml_attrsP h2 hq hA
    have m2 : ∀ w3 q, RS w3 L R bv A c bs q (many + 1) → Rest bs q (62 :: r') → Calls Tryd.prog 54 #[.pointer (some ⟨L, 0, none⟩), .string ⟨#[47]⟩] w3 fun e w' => e = .returned (.bool false) ∧ RS w' L R bv A c bs q (many + 1) ∧ Fr L R w3 w' := fun w3 q h3 hq => rs_no h3 ⟨#[47]⟩ (by decide) (by decide) (by rw [hq.eq]; simp [List.cons_prefix_cons])
    have m3 : ∀ w3 q, RS w3 L R bv A c bs q (many + 1) → Rest bs q (62 :: r') → Calls Tryd.prog 54 #[.pointer (some ⟨L, 0, none⟩), .string ⟨#[62]⟩] w3 fun e w' => e = .returned (.bool true) ∧ RS w' L R bv A c bs (q + 1) (many + 1) ∧ Fr L R w3 w' := fun w3 q h3 hq => rs_yes h3 ⟨#[62]⟩ r' (by decide) (by decide) hq.eq
    have hownlt := fun k (e : bv.ownBlock = some k) => (hb.lt k e).2
    have cn := fun (w5 : World) (q lo : Nat) (al : Option Addr) (cap : Nat) (h5 : RS w5 L R bv A c bs q (many + 1)) (k5 : Bnd w5 B0 bv B) (hz : w.heap.size ≤ w5.heap.size) (hlo : w.heap.size ≤ lo) (hown : w5.ownsRow lo 118 3 (.slice al l.length cap) l.length (apV l)) => node_says (nm := nm) al cap hS h5 k5 hLB hRB (by omega) hAB hown (by omega) (by omega) (fun k e => by have := hownlt k e; omega)
    rw [hPR, hNR, hSR] at cn
    replace cf := Lib.hid cf
    replace ca := Lib.hid ca
    replace m2 := Lib.hid m2
    replace m3 := Lib.hid m3
    replace cn := Lib.hid cn
    have h0f := Lib.hid (Fr.refl L R (w.alloc (.cells z5 27)))
    replace h0 := Lib.hid h0
    replace hnew := Lib.hid hnew
    replace hb0 := Lib.hid hb0
    replace hb := Lib.hid hb
    replace hS := Lib.hid hS
    replace hAB := Lib.hid hAB
    replace hownlt := Lib.hid hownlt
    clear hF hA h hr hr1
    obtain ⟨n, hn⟩ : ∃ n, n = l.length := ⟨_, rfl⟩
    replace hn := Lib.hid hn
    unfold MarkR
    rw [hPR, hNR, hSR]
    go_enter Tryd.func51, Tryd.ntmps51
    go_wp2_with (first
      | (go_at_call 54; (with_reducible refine m1.mono ?_); rintro e w1 ⟨rfl, h1, f1⟩; have k2 := cf.out w1 h1; replace f1 := Lib.hid f1; replace h1 := Lib.hid h1; clear m1)
      | (go_at_call 53; (with_reducible refine k2.mono ?_); rintro e w2 ⟨rfl, ⟨⟨q, h2, hq⟩, f2⟩⟩; have c21 := h2.rdr.cell 1; have f21 := h2.rdr.frozen 1; have h2b := h2.bump; have k3 := ca.out _ q h2b hq; replace f2 := Lib.hid f2; replace h2 := Lib.hid h2; replace h2b := Lib.hid h2b; replace hq := Lib.hid hq)
      | (go_at_call 61; (with_reducible refine k3.mono ?_); rintro e w3 ⟨al, cap, rfl, hown3, ⟨⟨q3, h3, hq3⟩, f3⟩⟩; have c3 := h3.rdr.cell 0; have k4 := m2.out w3 q3 h3 hq3; replace f3 := Lib.hid f3; replace h3 := Lib.hid h3; replace hq3 := Lib.hid hq3; replace hown3 := Lib.hid hown3)
      | (go_at_call 54; (with_reducible refine k4.mono ?_); rintro e w4 ⟨rfl, h4, f4⟩; have c4 := h4.rdr.cell 0; have k5 := m3.out w4 q3 h4 hq3.out; replace f4 := Lib.hid f4; replace h4 := Lib.hid h4; clear k4)
      | (go_at_call 54; (with_reducible refine k5.mono ?_); rintro e w5 ⟨rfl, h5, f5⟩; replace f5 := Lib.hid f5; replace h5 := Lib.hid h5; clear k5))
    have F5 : Fr L R _ w5 := (((h0f.out.trans (f1.out.trans f2.out)).trans (Fr.bump w2 (.int .i64 ((many : Int) + 1)))).trans f3.out).trans (f4.out.trans f5.out)
    have hz5 := F5.size
    rw [World.size_alloc] at hz5
    have hz2 := ((h0f.out.trans (f1.out.trans f2.out)).trans (Fr.bump w2 (.int .i64 ((many : Int) + 1)))).size
    rw [World.size_alloc] at hz2
    have k5 : Bnd w5 B0 bv B := own_fr (own_fr hb.out (Fr.of_below hb0.out) hLB hRB) F5 hLB hRB
    have own5 := own_fr hown3.out (f4.out.trans f5.out) (by omega) (by omega)
    have k6 := cn.out w5 _ _ al cap h5.out k5 (by omega) (by omega) own5
    replace F5 := Lib.hid F5
    replace k5 := Lib.hid k5
    replace own5 := Lib.hid own5
    go_at_call 62
    refine k6.mono ?_
    rintro e w6 ⟨bv6, av, rfl, h6, q6, f6, t6⟩
    obtain ⟨a1, n1, c1, rfl⟩ : ∃ a m cp, av = .slice a m cp := by
      unfold AtW at t6
      split at t6
      · exact ⟨_, _, _, t6⟩
      · obtain ⟨g, cp, e, _⟩ := t6; exact ⟨_, _, _, e⟩
      · exact t6.elim
    have hbw : bv.ownBlock ≠ some w.heap.size := fun e => by have := hownlt.out _ e; omega
    have hz5' : Blk w5 w.heap.size 27 z5 := (F5.out.block w.heap.size (by simp) (by omega) (by omega)).trans hnew.out
    have hz7 : Blk w6 w.heap.size 27 z5 := (f6.block w.heap.size (by omega) (by omega) (by omega) hbw).trans hz5'
    have hz7 := hz7.alloc (.cells #[.string SR, .string NR, .string ⟨#[]⟩, .slice a1 n1 c1, .slice none 0 0] 27)
    have hz8 := Blk.new w6 27 #[.string SR, .string NR, .string ⟨#[]⟩, .slice a1 n1 c1, .slice none 0 0]
    have hw67 : Below w6.heap.size w6 (w6.alloc (.cells #[.string SR, .string NR, .string ⟨#[]⟩, .slice a1 n1 c1, .slice none 0 0] 27)) := (Below.refl _ _).alloc (Nat.le_refl _) _
    have hs6 := f6.size
    have hWs : (w6.alloc (.cells #[.string SR, .string NR, .string ⟨#[]⟩, .slice a1 n1 c1, .slice none 0 0] 27)).heap.size = w6.heap.size + 1 := World.size_alloc _ _
    replace h6 := Lib.hid h6
    replace q6 := Lib.hid q6
    replace f6 := Lib.hid f6
    replace t6 := Lib.hid t6
    go_wp2
    obtain ⟨W, hW⟩ : ∃ W, W = w6.alloc (.cells #[.string SR, .string NR, .string ⟨#[]⟩, .slice a1 n1 c1, .slice none 0 0] 27) := ⟨_, rfl⟩
    rw [← hW] at hz7 hz8 hw67 hWs ⊢
    obtain ⟨g8, hg8⟩ : ∃ g, g = w6.heap.size := ⟨_, rfl⟩
    obtain ⟨g7, hg7⟩ : ∃ g, g = w.heap.size := ⟨_, rfl⟩
    rw [← hg8] at hz8 ⊢
    rw [← hg7] at hz7 ⊢
    have a0 := hz7.cell 0
    have a1' := hz7.cell 1
    have a2 := hz7.cell 2
    have a3 := hz7.cell 3
    have a4 := hz7.cell 4
    have e0 := hz8.cell 0
    have e1 := hz8.cell 1
    have e2 := hz8.cell 2
    have e3 := hz8.cell 3
    have e4 := hz8.cell 4
    have z0 := hz7.frozen 0
    have z1 := hz7.frozen 1
    have z2 := hz7.frozen 2
    have z3 := hz7.frozen 3
    have z4 := hz7.frozen 4
    replace hz7 := Lib.hid hz7
    replace hz8 := Lib.hid hz8
    replace hW := Lib.hid hW
    replace hw67 := Lib.hid hw67
    replace hg7 := Lib.hid hg7
    replace hg8 := Lib.hid hg8
    go_region
    have hV := (((((hz7.out.set_ 0 (.string SR)).set_ 1 (.string NR)).set_ 2 (.string ⟨#[]⟩)).set_ 3 (.slice a1 n1 c1)).set_ 4 (.slice none 0 0)).drew
    have hSV0 : Save g7 W ((((((W.setCell ⟨g7, 0, none⟩ (.string SR)).setCell ⟨g7, 1, none⟩ (.string NR)).setCell ⟨g7, 2, none⟩ (.string ⟨#[]⟩)).setCell ⟨g7, 3, none⟩ (.slice a1 n1 c1)).setCell ⟨g7, 4, none⟩ (.slice none 0 0)).drew) := (put5_save W g7 (.string SR) (.string NR) (.string ⟨#[]⟩) (.slice a1 n1 c1) (.slice none 0 0)).drawn 1
    have hSV := Lib.hid hSV0
    clear hSV0
    replace hWs := Lib.hid hWs
    generalize ((((((W.setCell ⟨g7, 0, none⟩ (.string SR)).setCell ⟨g7, 1, none⟩ (.string NR)).setCell ⟨g7, 2, none⟩ (.string ⟨#[]⟩)).setCell ⟨g7, 3, none⟩ (.slice a1 n1 c1)).setCell ⟨g7, 4, none⟩ (.slice none 0 0)).drew) = V at *
    have r0 := hV.cell 0
    have r1 := hV.cell 1
    have r2 := hV.cell 2
    have r3 := hV.cell 3
    have r4 := hV.cell 4
    clear a0 a1' a2 a3 a4 e0 e1 e2 e3 e4 z0 z1 z2 z3 z4 hV
    go_wp2
    have hBV : Below w.heap.size W V := hSV.out.below (by rw [hg7.out]; exact Nat.le_refl _) (by have := hWs.out; omega)
    have hB7 : Below w.heap.size w6 V := (hw67.out.mono (by omega)).trans hBV
    have hown6 : bv6.ownBlock ≠ some g7 := fun e => by
      rcases f6.out.own with h5' | h5'
      · rw [h5', hg7.out] at e; exact hbw e
      · have := h5' _ e; rw [hg7.out] at this; omega
    refine bodyPost_ret (v := .tuple #[.string PR, .string NR, .bool false, .agg #[.string SR, .string NR, .string ⟨#[]⟩, .slice a1 n1 c1, .slice none 0 0], .int .i64 0]) (by simp [results, Tryd.results51, go_sem, r0, r1, r2, r3, r4]) rfl ⟨bv6, _, rfl, ⟨q3 + 1, h6.out.belowB (hB7.mono hB0) hLB hRB hAB.out, hq3.out.app (s := [62])⟩, ?_, ?_, ?_⟩
    · exact own_save (own_belowB q6.out hw67.out) hSV.out hown6
    · have X6 := (FrX.of_fr (bv := bv) ((Fr.of_below hb0.out).trans F5.out)).trans f6.out
      exact ⟨hB7.os.trans X6.os, hB7.tape.trans X6.tape, hB7.output.trans X6.output, by have := hB7.size; omega, fun k x1 x2 x3 x4 => (hB7.block k x1).trans (X6.block k x1 x2 x3 x4), X6.own⟩
    · have hS6 : Save g7 w6 V := ⟨hSV.out.os.trans hw67.out.os, hSV.out.tape.trans hw67.out.tape, hSV.out.output.trans hw67.out.output, Nat.le_trans hw67.out.size hSV.out.size, fun k x1 x2 => (hSV.out.block k (by have := hw67.out.size; omega) x2).trans (hw67.out.block k x1)⟩
      exact t6.out.save hS6 (by rw [hg7.out]; omega) (by omega)
  | shut r0 _ _ r1 r2 _ hF hA =>
    have m1 : Calls Tryd.prog 54 #[.pointer (some ⟨L, 0, none⟩), .string ⟨#[60]⟩] _ fun e w' => e = .returned (.bool true) ∧ RS w' L R bv A c bs (p + 1) many ∧ Fr L R _ w' := rs_yes h0 ⟨#[60]⟩ r0 (by decide) (by decide) hr.eq
    have hr1 : Rest bs (p + 1) r0 := hr.app (s := [60])
    have cf := fun w1 (h1 : RS w1 L R bv A c bs (p + 1) many) => xml_fullN h1 hr1 hF
    rw [hPR, hNR] at cf
    have ca := fun w2 q (h2 : RS w2 L R bv A c bs q (many + 1)) (hq : Rest bs q r1) => xml_attrsP h2 hq hA
    have m2 : ∀ w3 q, RS w3 L R bv A c bs q (many + 1) → Rest bs q (47 :: 62 :: r') → Calls Tryd.prog 54 #[.pointer (some ⟨L, 0, none⟩), .string ⟨#[47]⟩] w3 fun e w' => e = .returned (.bool true) ∧ RS w' L R bv A c bs (q + 1) (many + 1) ∧ Fr L R w3 w' := fun w3 q h3 hq => rs_yes h3 ⟨#[47]⟩ (62 :: r') (by decide) (by decide) hq.eq
    have m3 : ∀ w3 q, RS w3 L R bv A c bs q (many + 1) → Rest bs q (62 :: r') → Calls Tryd.prog 54 #[.pointer (some ⟨L, 0, none⟩), .string ⟨#[62]⟩] w3 fun e w' => e = .returned (.bool true) ∧ RS w' L R bv A c bs (q + 1) (many + 1) ∧ Fr L R w3 w' := fun w3 q h3 hq => rs_yes h3 ⟨#[62]⟩ r' (by decide) (by decide) hq.eq
    have hownlt := fun k (e : bv.ownBlock = some k) => (hb.lt k e).2
    have cn := fun (w5 : World) (q lo : Nat) (al : Option Addr) (cap : Nat) (h5 : RS w5 L R bv A c bs q (many + 1)) (k5 : Bnd w5 B0 bv B) (hz : w.heap.size ≤ w5.heap.size) (hlo : w.heap.size ≤ lo) (hown : w5.ownsRow lo 118 3 (.slice al l.length cap) l.length (apV l)) => node_says (nm := nm) al cap hS h5 k5 hLB hRB (by omega) hAB hown (by omega) (by omega) (fun k e => by have := hownlt k e; omega)
    rw [hPR, hNR, hSR] at cn
    replace cf := Lib.hid cf
    replace ca := Lib.hid ca
    replace m2 := Lib.hid m2
    replace m3 := Lib.hid m3
    replace cn := Lib.hid cn
    have h0f := Lib.hid (Fr.refl L R (w.alloc (.cells z5 27)))
    replace h0 := Lib.hid h0
    replace hnew := Lib.hid hnew
    replace hb0 := Lib.hid hb0
    replace hb := Lib.hid hb
    replace hS := Lib.hid hS
    replace hAB := Lib.hid hAB
    replace hownlt := Lib.hid hownlt
    clear hF hA h hr hr1
    obtain ⟨n, hn⟩ : ∃ n, n = l.length := ⟨_, rfl⟩
    replace hn := Lib.hid hn
    unfold MarkR
    rw [hPR, hNR, hSR]
    go_enter Tryd.func51, Tryd.ntmps51
    go_wp2_with (first
      | (go_at_call 54; (with_reducible refine m1.mono ?_); rintro e w1 ⟨rfl, h1, f1⟩; have k2 := cf.out w1 h1; replace f1 := Lib.hid f1; replace h1 := Lib.hid h1; clear m1)
      | (go_at_call 53; (with_reducible refine k2.mono ?_); rintro e w2 ⟨rfl, ⟨⟨q, h2, hq⟩, f2⟩⟩; have c21 := h2.rdr.cell 1; have f21 := h2.rdr.frozen 1; have h2b := h2.bump; have k3 := ca.out _ q h2b hq; replace f2 := Lib.hid f2; replace h2 := Lib.hid h2; replace h2b := Lib.hid h2b; replace hq := Lib.hid hq)
      | (go_at_call 61; (with_reducible refine k3.mono ?_); rintro e w3 ⟨al, cap, rfl, hown3, ⟨⟨q3, h3, hq3⟩, f3⟩⟩; have c3 := h3.rdr.cell 0; have k4 := m2.out w3 q3 h3 hq3; replace f3 := Lib.hid f3; replace h3 := Lib.hid h3; replace hq3 := Lib.hid hq3; replace hown3 := Lib.hid hown3)
      | (go_at_call 54; (with_reducible refine k4.mono ?_); rintro e w4 ⟨rfl, h4, f4⟩; have c4 := h4.rdr.cell 0; have hq4 := hq3.out.app (s := [47]); have k5 := m3.out w4 (q3 + 1) h4 hq4; replace hq4 := Lib.hid hq4; replace f4 := Lib.hid f4; replace h4 := Lib.hid h4; clear k4)
      | (go_at_call 54; (with_reducible refine k5.mono ?_); rintro e w5 ⟨rfl, h5, f5⟩; replace f5 := Lib.hid f5; replace h5 := Lib.hid h5; clear k5))
    have F5 : Fr L R _ w5 := (((h0f.out.trans (f1.out.trans f2.out)).trans (Fr.bump w2 (.int .i64 ((many : Int) + 1)))).trans f3.out).trans (f4.out.trans f5.out)
    have hz5 := F5.size
    rw [World.size_alloc] at hz5
    have hz2 := ((h0f.out.trans (f1.out.trans f2.out)).trans (Fr.bump w2 (.int .i64 ((many : Int) + 1)))).size
    rw [World.size_alloc] at hz2
    have k5 : Bnd w5 B0 bv B := own_fr (own_fr hb.out (Fr.of_below hb0.out) hLB hRB) F5 hLB hRB
    have own5 := own_fr hown3.out (f4.out.trans f5.out) (by omega) (by omega)
    have k6 := cn.out w5 _ _ al cap h5.out k5 (by omega) (by omega) own5
    replace F5 := Lib.hid F5
    replace k5 := Lib.hid k5
    replace own5 := Lib.hid own5
    go_at_call 62
    refine k6.mono ?_
    rintro e w6 ⟨bv6, av, rfl, h6, q6, f6, t6⟩
    obtain ⟨a1, n1, c1, rfl⟩ : ∃ a m cp, av = .slice a m cp := by
      unfold AtW at t6
      split at t6
      · exact ⟨_, _, _, t6⟩
      · obtain ⟨g, cp, e, _⟩ := t6; exact ⟨_, _, _, e⟩
      · exact t6.elim
    have hbw : bv.ownBlock ≠ some w.heap.size := fun e => by have := hownlt.out _ e; omega
    have hz5' : Blk w5 w.heap.size 27 z5 := (F5.out.block w.heap.size (by simp) (by omega) (by omega)).trans hnew.out
    have hz7 : Blk w6 w.heap.size 27 z5 := (f6.block w.heap.size (by omega) (by omega) (by omega) hbw).trans hz5'
    have hz7 := hz7.alloc (.cells #[.string SR, .string NR, .string ⟨#[]⟩, .slice a1 n1 c1, .slice none 0 0] 27)
    have hz8 := Blk.new w6 27 #[.string SR, .string NR, .string ⟨#[]⟩, .slice a1 n1 c1, .slice none 0 0]
    have hw67 : Below w6.heap.size w6 (w6.alloc (.cells #[.string SR, .string NR, .string ⟨#[]⟩, .slice a1 n1 c1, .slice none 0 0] 27)) := (Below.refl _ _).alloc (Nat.le_refl _) _
    have hs6 := f6.size
    have hWs : (w6.alloc (.cells #[.string SR, .string NR, .string ⟨#[]⟩, .slice a1 n1 c1, .slice none 0 0] 27)).heap.size = w6.heap.size + 1 := World.size_alloc _ _
    replace h6 := Lib.hid h6
    replace q6 := Lib.hid q6
    replace f6 := Lib.hid f6
    replace t6 := Lib.hid t6
    go_wp2
    obtain ⟨W, hW⟩ : ∃ W, W = w6.alloc (.cells #[.string SR, .string NR, .string ⟨#[]⟩, .slice a1 n1 c1, .slice none 0 0] 27) := ⟨_, rfl⟩
    rw [← hW] at hz7 hz8 hw67 hWs ⊢
    obtain ⟨g8, hg8⟩ : ∃ g, g = w6.heap.size := ⟨_, rfl⟩
    obtain ⟨g7, hg7⟩ : ∃ g, g = w.heap.size := ⟨_, rfl⟩
    rw [← hg8] at hz8 ⊢
    rw [← hg7] at hz7 ⊢
    have a0 := hz7.cell 0
    have a1' := hz7.cell 1
    have a2 := hz7.cell 2
    have a3 := hz7.cell 3
    have a4 := hz7.cell 4
    have e0 := hz8.cell 0
    have e1 := hz8.cell 1
    have e2 := hz8.cell 2
    have e3 := hz8.cell 3
    have e4 := hz8.cell 4
    have z0 := hz7.frozen 0
    have z1 := hz7.frozen 1
    have z2 := hz7.frozen 2
    have z3 := hz7.frozen 3
    have z4 := hz7.frozen 4
    replace hz7 := Lib.hid hz7
    replace hz8 := Lib.hid hz8
    replace hW := Lib.hid hW
    replace hw67 := Lib.hid hw67
    replace hg7 := Lib.hid hg7
    replace hg8 := Lib.hid hg8
    go_region
    have hV := (((((hz7.out.set_ 0 (.string SR)).set_ 1 (.string NR)).set_ 2 (.string ⟨#[]⟩)).set_ 3 (.slice a1 n1 c1)).set_ 4 (.slice none 0 0)).drew
    have hSV0 : Save g7 W ((((((W.setCell ⟨g7, 0, none⟩ (.string SR)).setCell ⟨g7, 1, none⟩ (.string NR)).setCell ⟨g7, 2, none⟩ (.string ⟨#[]⟩)).setCell ⟨g7, 3, none⟩ (.slice a1 n1 c1)).setCell ⟨g7, 4, none⟩ (.slice none 0 0)).drew) := (put5_save W g7 (.string SR) (.string NR) (.string ⟨#[]⟩) (.slice a1 n1 c1) (.slice none 0 0)).drawn 1
    have hSV := Lib.hid hSV0
    clear hSV0
    replace hWs := Lib.hid hWs
    generalize ((((((W.setCell ⟨g7, 0, none⟩ (.string SR)).setCell ⟨g7, 1, none⟩ (.string NR)).setCell ⟨g7, 2, none⟩ (.string ⟨#[]⟩)).setCell ⟨g7, 3, none⟩ (.slice a1 n1 c1)).setCell ⟨g7, 4, none⟩ (.slice none 0 0)).drew) = V at *
    have r0 := hV.cell 0
    have r1 := hV.cell 1
    have r2 := hV.cell 2
    have r3 := hV.cell 3
    have r4 := hV.cell 4
    clear a0 a1' a2 a3 a4 e0 e1 e2 e3 e4 z0 z1 z2 z3 z4 hV
    go_wp2
    have hBV : Below w.heap.size W V := hSV.out.below (by rw [hg7.out]; exact Nat.le_refl _) (by have := hWs.out; omega)
    have hB7 : Below w.heap.size w6 V := (hw67.out.mono (by omega)).trans hBV
    have hown6 : bv6.ownBlock ≠ some g7 := fun e => by
      rcases f6.out.own with h5' | h5'
      · rw [h5', hg7.out] at e; exact hbw e
      · have := h5' _ e; rw [hg7.out] at this; omega
    refine bodyPost_ret (v := .tuple #[.string PR, .string NR, .bool true, .agg #[.string SR, .string NR, .string ⟨#[]⟩, .slice a1 n1 c1, .slice none 0 0], .int .i64 0]) (by simp [results, Tryd.results51, go_sem, r0, r1, r2, r3, r4]) rfl ⟨bv6, _, rfl, ⟨q3 + 1 + 1, h6.out.belowB (hB7.mono hB0) hLB hRB hAB.out, hq4.out.app (s := [62])⟩, ?_, ?_, ?_⟩
    · exact own_save (own_belowB q6.out hw67.out) hSV.out hown6
    · have X6 := (FrX.of_fr (bv := bv) ((Fr.of_below hb0.out).trans F5.out)).trans f6.out
      exact ⟨hB7.os.trans X6.os, hB7.tape.trans X6.tape, hB7.output.trans X6.output, by have := hB7.size; omega, fun k x1 x2 x3 x4 => (hB7.block k x1).trans (X6.block k x1 x2 x3 x4), X6.own⟩
    · have hS6 : Save g7 w6 V := ⟨hSV.out.os.trans hw67.out.os, hSV.out.tape.trans hw67.out.tape, hSV.out.output.trans hw67.out.output, Nat.le_trans hw67.out.size hSV.out.size, fun k x1 x2 => (hSV.out.block k (by have := hw67.out.size; omega) x2).trans (hw67.out.block k x1)⟩
      exact t6.out.save hS6 (by rw [hg7.out]; omega) (by omega)
end Go.Proofs.YtgomlebemefdcaaDoor

/- Nodes in memory, with what their prefixes say. No condition. -/
namespace Go.Xe
/-- a node: what its prefix says, its name, its attributes, what lies in it; or a text -/
inductive Nx where
  | el (sp nm : List UInt8) (l : List (List UInt8 × List UInt8 × List UInt8)) (ks : List Nx)
  | tx (t : List UInt8)
end Go.Xe
namespace Go.Proofs.YtgomlebemefdcaaDoor
open Go Go.RowKit Go.Wk Go.Xt Go.Xe
/-- attributes in memory: none or one; in which block -/
def AtX (w : World) (l : List (List UInt8 × List UInt8 × List UInt8)) (v : Value) (b : List Nat) : Prop :=
  (l = [] ∧ v = .slice none 0 0 ∧ b = []) ∨ ∃ a g cap, l = [a] ∧ v = .slice (some ⟨g, 0, none⟩) 1 cap ∧ w.cell? ⟨g, 0, none⟩ = some (str a.1) ∧ w.cell? ⟨g, 1, none⟩ = some (str a.2.1) ∧ w.cell? ⟨g, 2, none⟩ = some (str a.2.2) ∧ b = [g]
mutual
inductive NxAt (w : World) : Nx → List Value → List Nat → Prop
  | el (sp nm : List UInt8) (l : List (List UInt8 × List UInt8 × List UInt8)) (ks : List Nx) (va vk : Value) (ba bk : List Nat) : AtX w l va ba → KxAt w ks vk bk → NxAt w (.el sp nm l ks) [str sp, str nm, str [], va, vk] (ba ++ bk)
  | tx (t : List UInt8) : NxAt w (.tx t) [str [], str [], str t, .slice none 0 0, .slice none 0 0] []
inductive KxAt (w : World) : List Nx → Value → List Nat → Prop
  | nil : KxAt w [] (.slice none 0 0) []
  | row (ks : List Nx) (g cap : Nat) (vs : List Value) (b : List Nat) : w.ownsRow 0 27 5 (.slice (some ⟨g, 0, none⟩) ks.length cap) ks.length vs → RxAt w ks vs b → KxAt w ks (.slice (some ⟨g, 0, none⟩) ks.length cap) (g :: b)
inductive RxAt (w : World) : List Nx → List Value → List Nat → Prop
  | nil : RxAt w [] [] []
  | cons (k : Nx) (ks : List Nx) (vs vss : List Value) (b bs : List Nat) : NxAt w k vs b → RxAt w ks vss bs → RxAt w (k :: ks) (vs ++ vss) (b ++ bs)
end
theorem own_sameX {w w' : World} {base e s n g cap : Nat} {xs : List Value} (h : w.ownsRow base e s (.slice (some ⟨g, 0, none⟩) n cap) n xs) (hg : w'.heap[g]? = w.heap[g]?) : w'.ownsRow base e s (.slice (some ⟨g, 0, none⟩) n cap) n xs := by
  refine ⟨h.1, ?_⟩
  rcases h.2 with ⟨h2, _⟩ | ⟨g', cap', cur, e1, hB, hh, rest⟩
  · cases h2
  · cases e1
    exact .inr ⟨g, cap, cur, rfl, hB, hg.trans hh, rest⟩
theorem AtX.keep {w w' : World} {l : List (List UInt8 × List UInt8 × List UInt8)} {v : Value} {b : List Nat} (h : AtX w l v b) (hk : ∀ k ∈ b, w'.heap[k]? = w.heap[k]?) : AtX w' l v b := by
  rcases h with h | ⟨a, g, cap, rfl, rfl, c0, c1, c2, rfl⟩
  · exact .inl h
  · have hb := hk g (by simp)
    exact .inr ⟨a, g, cap, rfl, rfl, (World.cell?_of_block hb).trans c0, (World.cell?_of_block hb).trans c1, (World.cell?_of_block hb).trans c2, rfl⟩
mutual
theorem NxAt.keep {w w' : World} {n : Nx} {vs : List Value} {b : List Nat} : NxAt w n vs b → (∀ k ∈ b, w'.heap[k]? = w.heap[k]?) → NxAt w' n vs b
  | .el sp nm l ks va vk ba bk h1 h2, hk => .el sp nm l ks va vk ba bk (h1.keep fun k h => hk k (by simp [h])) (KxAt.keep h2 fun k h => hk k (by simp [h]))
  | .tx t, _ => .tx t
theorem KxAt.keep {w w' : World} {ks : List Nx} {v : Value} {b : List Nat} : KxAt w ks v b → (∀ k ∈ b, w'.heap[k]? = w.heap[k]?) → KxAt w' ks v b
  | .nil, _ => .nil
  | .row ks g cap vs b h1 h2, hk => .row ks g cap vs b (own_sameX h1 (hk g (by simp))) (RxAt.keep h2 fun k h => hk k (by simp [h]))
theorem RxAt.keep {w w' : World} {ks : List Nx} {vs : List Value} {b : List Nat} : RxAt w ks vs b → (∀ k ∈ b, w'.heap[k]? = w.heap[k]?) → RxAt w' ks vs b
  | .nil, _ => .nil
  | .cons k ks vs vss b bs h1 h2, hk => .cons k ks vs vss b bs (NxAt.keep h1 fun k h => hk k (by simp [h])) (RxAt.keep h2 fun k h => hk k (by simp [h]))
end
theorem RxAt.snoc {w : World} {ks : List Nx} {vs : List Value} {b : List Nat} {k : Nx} {us : List Value} {bk : List Nat} (h : RxAt w ks vs b) (hk : NxAt w k us bk) : RxAt w (ks ++ [k]) (vs ++ us) (b ++ bk) := by
  induction ks generalizing vs b with
  | nil =>
    cases h
    have := RxAt.cons k [] us [] bk [] hk .nil
    simpa using this
  | cons x ks ih =>
    cases h with
    | cons _ _ vs1 vs2 b1 b2 h1 h2 =>
      have := RxAt.cons x (ks ++ [k]) vs1 (vs2 ++ us) b1 (b2 ++ bk) h1 (ih h2)
      simpa [List.append_assoc] using this
theorem NxAt.five {w : World} {n : Nx} {vs : List Value} {b : List Nat} (h : NxAt w n vs b) : vs.length = 5 := by
  cases h <;> rfl
theorem RxAt.len {w : World} {ks : List Nx} {vs : List Value} {b : List Nat} (h : RxAt w ks vs b) : vs.length = 5 * ks.length := by
  induction ks generalizing vs b with
  | nil => cases h; rfl
  | cons x ks ih =>
    cases h with
    | cons _ _ vs1 vs2 b1 b2 h1 h2 => have := h1.five; have := ih h2; simp; omega
/-- what a node's attributes are: out of AtW -/
def attsX (so : List UInt8) (o : List (List UInt8 × List UInt8 × List UInt8)) : List (List UInt8 × List UInt8 × List UInt8) := o.map fun a => (so, a.2.1, a.2.2)
theorem AtW.atX {w : World} {lo : Nat} {bv : Value} {so : List UInt8} {o : List (List UInt8 × List UInt8 × List UInt8)} {av : Value} (h : AtW w lo bv so o av) : ∃ b, AtX w (attsX so o) av b ∧ ∀ k ∈ b, lo ≤ k ∧ k < w.heap.size ∧ bv.ownBlock ≠ some k := by
  unfold AtW at h
  split at h
  · exact ⟨[], .inl ⟨rfl, h, rfl⟩, by simp⟩
  · rename_i a
    obtain ⟨g, cp, rfl, h1, h2, c0, c1, c2⟩ := h
    refine ⟨[g], .inr ⟨(so, a.2.1, a.2.2), g, cp, rfl, rfl, c0, c1, c2, rfl⟩, ?_⟩
    intro k hk
    simp at hk
    subst hk
    exact ⟨h1, cell_lt c0, h2⟩
  · exact h.elim
set_option maxRecDepth 100000 in
theorem node_info : ∃ i, Tryd.prog.info? 27 = some i ∧ i.zero = some (.agg #[.string ⟨#[]⟩, .string ⟨#[]⟩, .string ⟨#[]⟩, .slice none 0 0, .slice none 0 0]) ∧ i.size = 5 ∧ i.bytes = 96 := ⟨_, rfl, by kernel_rfl, by kernel_rfl, by kernel_rfl⟩
theorem FrX.tail {L R : Nat} {bv bv' : Value} {a b c : World} (h : FrX L R bv bv' a b) (k : Below a.heap.size b c) : FrX L R bv bv' a c :=
  ⟨k.os.trans h.os, k.tape.trans h.tape, k.output.trans h.output, Nat.le_trans h.size k.size, fun j h1 h2 h3 h4 => (k.block j h1).trans (h.block j h1 h2 h3 h4), h.own⟩
/-- nodes gathered: the row and what it names, beside the row of what is bound -/
structure KidsX (B : Nat) (w : World) (bv v : Value) (done : List Nx) (vs : List Value) (b : List Nat) : Prop where
  own : w.ownsRow B 27 5 v done.length vs
  row : RxAt w done vs b
  bd : ∀ k ∈ b, B ≤ k ∧ k < w.heap.size ∧ bv.ownBlock ≠ some k
  off : ∀ k ∈ b, v.ownBlock ≠ some k
  ne : ∀ k, v.ownBlock = some k → bv.ownBlock ≠ some k
theorem KidsX.nil (B : Nat) (w : World) (bv : Value) : KidsX B w bv (.slice none 0 0) [] [] [] := ⟨World.ownsRow_nil _ _ _ _, .nil, by simp, by simp, by simp [Value.ownBlock]⟩
theorem KidsX.frX {L R B : Nat} {w w' : World} {bv bv' v : Value} {done : List Nx} {vs : List Value} {b : List Nat} (h : KidsX B w bv v done vs b) (f : FrX L R bv bv' w w') (hL : L < B) (hR : R < B) : KidsX B w' bv' v done vs b := by
  have hlt := h.own.lt
  have nw : ∀ k, k < w.heap.size → bv.ownBlock ≠ some k → bv'.ownBlock ≠ some k := fun k hk hn e => by
    rcases f.own with h5 | h5
    · exact hn (by rw [← h5]; exact e)
    · have := h5 k e; omega
  refine ⟨?_, RxAt.keep h.row fun k hk => f.block k (h.bd k hk).2.1 (by have := (h.bd k hk).1; omega) (by have := (h.bd k hk).1; omega) (h.bd k hk).2.2, fun k hk => ⟨(h.bd k hk).1, Nat.lt_of_lt_of_le (h.bd k hk).2.1 f.size, nw k (h.bd k hk).2.1 (h.bd k hk).2.2⟩, h.off, fun k e => nw k (hlt k e).2 (h.ne k e)⟩
  refine ⟨h.own.1, ?_⟩
  rcases h.own.2 with h2 | ⟨g', cap, cur, e1, hB, hh, rest⟩
  · exact .inl h2
  · subst e1
    have hl := (hlt g' rfl).2
    exact .inr ⟨g', cap, cur, rfl, hB, (f.block g' hl (by omega) (by omega) (h.ne g' rfl)).trans hh, rest⟩
theorem KidsX.add {B : Nat} {w w2 : World} {o : Obj} {bv v v' : Value} {done : List Nx} {vs us : List Value} {b bk : List Nat} {k : Nx} (h : KidsX B w bv v done vs b) (hk : NxAt w k us bk) (hbk : ∀ j ∈ bk, B ≤ j ∧ j < w.heap.size ∧ bv.ownBlock ≠ some j) (hnk : ∀ j ∈ bk, v.ownBlock ≠ some j) (hbv : ∀ j, bv.ownBlock = some j → j < w.heap.size)
    (hown : w2.ownsRow B 27 5 v' (done.length + 1) (vs ++ us)) (hg : (w.alloc o).grownBy w2 v.ownBlock) (hat : v'.ownBlock = v.ownBlock ∨ v'.ownBlock = some (w.alloc o).heap.size) : KidsX B w2 bv v' (done ++ [k]) (vs ++ us) (b ++ bk) := by
  have keep : ∀ j, j < w.heap.size → v.ownBlock ≠ some j → w2.heap[j]? = w.heap[j]? := fun j hj hn => by
    have h1 : j < (w.alloc o).heap.size := by rw [World.size_alloc]; omega
    exact (hg.block j h1 (fun e => hn e.symm)).trans (Below.heap_alloc _ _ _ hj)
  have hsz : w.heap.size < w2.heap.size := by have := hg.size; rw [World.size_alloc] at this; omega
  refine ⟨by simpa using hown, (RxAt.keep h.row fun j hj => keep j (h.bd j hj).2.1 (h.off j hj)).snoc (hk.keep fun j hj => keep j (hbk j hj).2.1 (hnk j hj)), fun j hj => ?_, fun j hj => ?_, fun j e => ?_⟩
  · rcases List.mem_append.1 hj with h1 | h1
    · have := h.bd j h1; exact ⟨this.1, by omega, this.2.2⟩
    · have := hbk j h1; exact ⟨this.1, by omega, this.2.2⟩
  · have hlt : j < w.heap.size ∧ v.ownBlock ≠ some j := by
      rcases List.mem_append.1 hj with h1 | h1
      · exact ⟨(h.bd j h1).2.1, h.off j h1⟩
      · exact ⟨(hbk j h1).2.1, hnk j h1⟩
    rcases hat with e | e
    · rw [e]; exact hlt.2
    · rw [e, World.size_alloc]; intro e2; cases e2; omega
  · rcases hat with e2 | e2
    · rw [e2] at e; exact h.ne j e
    · rw [e2, World.size_alloc] at e
      cases e
      intro e3
      have := hbv _ e3
      omega
theorem KidsX.ks {B : Nat} {w : World} {bv v : Value} {done : List Nx} {vs : List Value} {b : List Nat} (h : KidsX B w bv v done vs b) : ∃ bk, KxAt w done v bk ∧ ∀ k ∈ bk, B ≤ k ∧ k < w.heap.size ∧ bv.ownBlock ≠ some k := by
  have hl := h.row.len
  have hne := h.ne
  rcases h.own.2 with ⟨rfl, h0⟩ | ⟨g, cap, cur, rfl, hB, hh, rest⟩
  · have : done = [] := List.eq_nil_of_length_eq_zero h0
    subst this
    exact ⟨[], .nil, by simp⟩
  · refine ⟨g :: b, .row done g cap vs b ⟨h.own.1, .inr ⟨g, cap, cur, rfl, Nat.zero_le _, hh, rest⟩⟩ h.row, fun k hk => ?_⟩
    rcases List.mem_cons.1 hk with rfl | hk
    · exact ⟨hB, (Array.getElem?_eq_some_iff.1 hh).1, hne _ rfl⟩
    · exact h.bd k hk
theorem five_one (a0 a1 a2 : ByteArray) (a3 a4 : Value) (h3 : a3.oneCell' = true) (h4 : a4.oneCell' = true) : ∀ u ∈ [Value.string a0, .string a1, .string a2, a3, a4], u.oneCell' = true := by
  intro u hu
  simp at hu
  rcases hu with rfl | rfl | rfl | rfl | rfl
  · rfl
  · rfl
  · rfl
  · exact h3
  · exact h4
theorem five_new (w : World) (v0 v1 v2 v3 v4 : Value) (t : TypeId) : ∀ j u, [v0, v1, v2, v3, v4][j]? = some u → (w.alloc (.cells #[v0, v1, v2, v3, v4] t)).cell? ((⟨w.heap.size, 0, none⟩ : Addr).add j) = some u := by
  intro j u hj
  rw [Lib.add_plain, alloc_cell, ← hj]
  match j with
  | 0 => rfl
  | 1 => rfl
  | 2 => rfl
  | 3 => rfl
  | 4 => rfl
  | _ + 5 => rfl
/-- so many of what is bound: the first ones -/
theorem Bnd.take {w : World} {B0 : Nat} {a : Option Addr} {n cap : Nat} {B E : List (List UInt8 × List UInt8)} (h : Bnd w B0 (.slice a n cap) (B ++ E)) : Bnd w B0 (.slice a B.length cap) B := by
  unfold Bnd at h ⊢
  have hl : ∀ X : List (List UInt8 × List UInt8), (bndV X).length = X.length * 2 := fun X => by
    induction X with
    | nil => rfl
    | cons x X ih => simp [bndV] at ih ⊢; omega
  refine ⟨hl B, ?_⟩
  rcases h.2 with ⟨e, h0⟩ | ⟨g, cap', cur, e, hB, hh, hn, hm, hs, ht⟩
  · cases e
    simp at h0
    simp [h0]
  · cases e
    refine .inr ⟨g, cap, cur, rfl, hB, hh, by simp at hn; omega, hm, hs, ?_⟩
    have e2 : bndV (B ++ E) = bndV B ++ bndV E := by simp [bndV]
    rw [e2] at ht
    have e3 := congrArg (List.take (B.length * 2)) ht
    rw [List.take_take, List.take_append_of_le_length (by rw [hl]; exact Nat.le_refl _), List.take_of_length_le (l := bndV B) (by rw [hl]; exact Nat.le_refl _)] at e3
    rw [← e3]
    congr 1
    simp
end Go.Proofs.YtgomlebemefdcaaDoor

/- The grammar of elements with names that have something in front, without texts; what reading them gives. No condition. -/
namespace Go.Proofs.YtgomlebemefdcaaDoor
open Go Go.RowKit Go.Wk Go.Xt Go.Xe
mutual
/-- an element: so many in one another, so many marks met, what is bound ahead -/
inductive ElemX : Nat → Nat → List (List UInt8 × List UInt8) → List UInt8 → Nx → Nat → List UInt8 → Prop
  | shut (d m : Nat) (B E : List (List UInt8 × List UInt8)) (r pre nm sp so : List UInt8) (l o : List (List UInt8 × List UInt8 × List UInt8)) (r1 : List UInt8) : m < 4000 → MarkP r pre nm l true r1 → Says B E pre sp so l o → ElemX (d + 1) m B r (.el sp nm (attsX so o) []) (m + 1) r1
  | «open» (d m m2 : Nat) (B E : List (List UInt8 × List UInt8)) (r pre nm sp so : List UInt8) (l o : List (List UInt8 × List UInt8 × List UInt8)) (r1 : List UInt8) (ks : List Nx) (r2 r3 r4 : List UInt8) : m < 4000 → MarkP r pre nm l false r1 → Says B E pre sp so l o → ContX (d + 1) (m + 1) E r1 ks m2 r2 → FullN r2 pre nm r3 → r3.drop (ws r3) = 62 :: r4 →
      ElemX (d + 1) m B r (.el sp nm (attsX so o) ks) m2 r4
/-- a content without texts -/
inductive ContX : Nat → Nat → List (List UInt8 × List UInt8) → List UInt8 → List Nx → Nat → List UInt8 → Prop
  | done (d m : Nat) (B : List (List UInt8 × List UInt8)) (r : List UInt8) : ContX d m B (60 :: 47 :: r) [] m r
  | elem (d m m1 m2 : Nat) (B : List (List UInt8 × List UInt8)) (r r2 : List UInt8) (k : Nx) (ks : List Nx) (r' : List UInt8) : Misc (60 :: r) false (60 :: r) → ¬ [60, 47] <+: 60 :: r → ElemX d m B (60 :: r) k m1 r2 → ContX (d + 1) m1 B r2 ks m2 r' → ContX (d + 1) m B (60 :: r) (k :: ks) m2 r'
end
theorem attsP_len {r r' : List UInt8} {l : List (List UInt8 × List UInt8 × List UInt8)} (h : AttsP r l r') : r'.length ≤ r.length := by
  induction h with
  | nil r c r' hx _ => have := congrArg List.length hx; simp at this; simp; omega
  | cons r c1 rc r1 r' a l h1 h2 h3 h4 h5 h6 ih => have a1 := congrArg List.length h2; have a2 := attP_len h5; simp at a1 a2 ⊢; omega
theorem markP_len {r r' pre nm : List UInt8} {l : List (List UInt8 × List UInt8 × List UInt8)} {cl : Bool} : MarkP r pre nm l cl r' → r'.length < r.length
  | .open _ _ _ _ _ _ h5 h6 => by have a1 := fullN_len h5; have a2 := attsP_len h6; simp at a2 ⊢; omega
  | .shut _ _ _ _ _ _ h5 h6 => by have a1 := fullN_len h5; have a2 := attsP_len h6; simp at a2 ⊢; omega
mutual
theorem elemX_len {d m m2 : Nat} {B : List (List UInt8 × List UInt8)} {r r' : List UInt8} {n : Nx} : ElemX d m B r n m2 r' → r'.length < r.length
  | .shut _ _ _ _ _ _ _ _ _ _ _ _ _ hM _ => markP_len hM
  | .open _ _ _ _ _ _ _ _ _ _ _ _ _ _ _ _ _ _ hM _ hC h3 h5 => by
    have a1 := markP_len hM
    have a2 := contX_len hC
    have a3 := fullN_len h3
    have a4 := congrArg List.length h5
    simp at a4
    omega
theorem contX_len {d m m2 : Nat} {B : List (List UInt8 × List UInt8)} {r r' : List UInt8} {ks : List Nx} : ContX d m B r ks m2 r' → r'.length ≤ r.length
  | .done _ _ _ _ => by simp; omega
  | .elem _ _ _ _ _ _ _ _ _ _ _ _ hE hC => by have a2 := elemX_len hE; have a3 := contX_len hC; omega
end
theorem bindsOf_app (l : List (List UInt8 × List UInt8 × List UInt8)) : ∀ B, ∃ E, bindsOf l B = B ++ E := by
  induction l with
  | nil => exact fun B => ⟨[], by simp [bindsOf]⟩
  | cons a l ih =>
    intro B
    unfold bindsOf
    split
    · obtain ⟨E, h⟩ := ih (B ++ [(a.2.1, a.2.2)])
      exact ⟨[(a.2.1, a.2.2)] ++ E, by rw [h]; simp⟩
    · split
      · obtain ⟨E, h⟩ := ih (B ++ [([], a.2.2)])
        exact ⟨[([], a.2.2)] ++ E, by rw [h]; simp⟩
      · exact ih B
/-- a row that no append to another row moved -/
theorem own_grown {w w' : World} {o : Obj} {B e s n : Nat} {v u : Value} {xs : List Value} (h : w.ownsRow B e s v n xs) (hg : (w.alloc o).grownBy w' u.ownBlock) (hne : ∀ k, u.ownBlock = some k → v.ownBlock ≠ some k) : w'.ownsRow B e s v n xs := by
  have hlt := h.lt
  refine ⟨h.1, ?_⟩
  rcases h.2 with h2 | ⟨g', cap, cur, e1, hB, hh, rest⟩
  · exact .inl h2
  · subst e1
    have hl := (hlt g' rfl).2
    refine .inr ⟨g', cap, cur, rfl, hB, ?_, rest⟩
    refine (hg.block g' (by rw [World.size_alloc]; omega) (fun e2 => hne g' e2.symm rfl)).trans ?_
    exact (Below.heap_alloc _ _ _ hl).trans hh
/-- what reading an element gives -/
def ElemQ (w : World) (L R B0 : Nat) (bv : Value) (A : Option Addr) (c : Nat) (bs : List UInt8) (B : List (List UInt8 × List UInt8)) (n : Nx) (m2 : Nat) (r' : List UInt8) (e : Ending) (w' : World) : Prop :=
  ∃ (S N : ByteArray) (a1 : Option Addr) (n1 c1 : Nat) (a2 : Option Addr) (n2 c2 : Nat) (bl : List Nat) (bv' : Value), e = .returned (.tuple #[.agg #[.string S, .string N, .string ⟨#[]⟩, .slice a1 n1 c1, .slice a2 n2 c2], .int .i64 0]) ∧
    NxAt w' n [.string S, .string N, .string ⟨#[]⟩, .slice a1 n1 c1, .slice a2 n2 c2] bl ∧ (∀ k ∈ bl, w.heap.size ≤ k ∧ k < w'.heap.size ∧ bv'.ownBlock ≠ some k) ∧ (∃ q, RS w' L R bv' A c bs q m2 ∧ Rest bs q r') ∧ Bnd w' B0 bv' B ∧ FrX L R bv bv' w w'
def ElemD (L R B0 : Nat) (A : Option Addr) (c : Nat) (bs : List UInt8) (d : Nat) : Prop :=
  ∀ w bv p m B r n m2 r', B0 ≤ w.heap.size → RS w L R bv A c bs p m → Bnd w B0 bv B → Rest bs p r → ElemX d m B r n m2 r' → Calls Tryd.prog 40 #[.pointer (some ⟨R, 0, none⟩), .int .i64 (d : Int)] w (ElemQ w L R B0 bv A c bs B n m2 r')
/-- what reading a content gives -/
def ContQ (w : World) (L R B0 : Nat) (bv : Value) (A : Option Addr) (c : Nat) (bs : List UInt8) (B : List (List UInt8 × List UInt8)) (ks : List Nx) (m2 : Nat) (r' : List UInt8) (e : Ending) (w' : World) : Prop :=
  ∃ (a : Option Addr) (n cp : Nat) (bk : List Nat) (bv' : Value), e = .returned (.tuple #[.slice a n cp, .int .i64 0]) ∧ KxAt w' ks (.slice a n cp) bk ∧ (∀ k ∈ bk, w.heap.size ≤ k ∧ k < w'.heap.size ∧ bv'.ownBlock ≠ some k) ∧ (∃ q, RS w' L R bv' A c bs q m2 ∧ Rest bs q r') ∧ Bnd w' B0 bv' B ∧ FrX L R bv bv' w w'
def ContM (w : World) (L R B0 : Nat) (bv : Value) (A : Option Addr) (c : Nat) (bs : List UInt8) (d : Nat) (B : List (List UInt8 × List UInt8)) (ks : List Nx) (m2 : Nat) (r' : List UInt8) (s6 s7 : Value) (wr : World) : Prop :=
  ∃ (q m1 : Nat) (bvr : Value) (r1 : List UInt8) (done rest : List Nx) (vs : List Value) (b : List Nat), Rest bs q r1 ∧ ContX (d + 1) m1 B r1 rest m2 r' ∧ done ++ rest = ks ∧ s7 = .string ⟨#[]⟩ ∧ KidsX w.heap.size wr bvr s6 done vs b ∧ done.length + r1.length ≤ bs.length ∧
    RS wr L R bvr A c bs q m1 ∧ Bnd wr B0 bvr B ∧ FrX L R bv bvr w wr
end Go.Proofs.YtgomlebemefdcaaDoor

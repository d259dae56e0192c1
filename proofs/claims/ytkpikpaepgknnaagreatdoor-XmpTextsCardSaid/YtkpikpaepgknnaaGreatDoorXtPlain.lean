/- A document's string as a text. No condition. -/
import Derived.Test.YtkpikpaepgknnaaGreatDoorXtWide
set_option linter.unusedVariables false
namespace Go.Proofs.YtkpikpaepgknnaaGreatDoor
open Go Go.RowKit Go.Wk Go.Xt Go.Lib
def preB (bs : List UInt8) : Bool := hasPrefix bs [254, 255]
theorem ints_of {w : World} {A : Option Addr} {bs : List UInt8} (h : Byt w A bs) : Lib.BytesIn w A bs.length (bs.map fun b => (b.toNat : Int)) := by
  by_cases h0 : 0 < bs.length
  · obtain ⟨b, o, rfl, hc⟩ := h.2 h0
    exact Lib.BytesIn.of_cells (fun i hi => by rw [Lib.add_plain, hc i hi]; simp [List.getD, hi])
  · obtain rfl : bs = [] := List.eq_nil_of_length_eq_zero (by omega)
    exact Lib.BytesIn.nil _ _ _
theorem bytesOf_back (bs : List UInt8) : bytesOf (bs.map fun b => (b.toNat : Int)) = bs := by
  unfold bytesOf
  rw [List.map_map]
  conv => rhs; rw [← List.map_id bs]
  apply List.map_congr_left
  intro b _
  simp
theorem prefix_byt {w : World} {A A2 : Option Addr} {bs ps : List UInt8} (c d : Nat) (h : Byt w A bs) (h2 : Byt w A2 ps) (hc : bs.length ≤ c) :
    Calls Tryz.prog 45 #[.slice A bs.length c, .slice A2 ps.length d] w fun e w' => e = .returned (.bool (hasPrefix bs ps)) ∧ w' = w := by
  have := Tryz.bytes_HasPrefix_all A A2 bs.length c ps.length d _ _ w (by simp) (by simp) hc (ints_of h) (ints_of h2)
  rw [bytesOf_back, bytesOf_back] at this
  exact this
def PlainR (R : Option (List UInt8)) (w : World) (e : Ending) (w' : World) : Prop := e = .returned (.tuple #[str (R.getD []), .bool R.isSome]) ∧ Below w.heap.size w w'
theorem plainS_pre (r : List UInt8) : plainS (254 :: 255 :: r) = wS 0 r := rfl
theorem plainS_not (bs : List UInt8) (h : hasPrefix bs [254, 255] = false) : plainS bs = lS bs := by
  unfold plainS
  split
  · simp [hasPrefix, List.isPrefixOf] at h
  · rfl
theorem pre_shape (bs : List UInt8) (h : hasPrefix bs [254, 255] = true) : ∃ r, bs = 254 :: 255 :: r := by
  unfold hasPrefix at h
  obtain ⟨r, hr⟩ := List.isPrefixOf_iff_prefix.1 h
  exact ⟨r, hr.symm⟩
theorem byt_two (W : World) (t : TypeId) : Byt (W.alloc (.cells #[.int .u8 254, .int .u8 255] t)) (some ⟨W.heap.size, 0, none⟩) [254, 255] := by
  refine ⟨by unfold maxLen; simp, fun _ => ⟨W.heap.size, 0, rfl, fun i hi => ?_⟩⟩
  rw [alloc_cell]
  match i, hi with
  | 0, _ => rfl
  | 1, _ => rfl
theorem okB_cases (c : UInt8) : okB c = (decide (32 ≤ (c.toNat : Int)) && decide ((c.toNat : Int) ≤ 126) || (c.toNat : Int) == 9 || (c.toNat : Int) == 10 || (c.toNat : Int) == 13 || decide (161 ≤ (c.toNat : Int))) := by
  unfold okB
  have e : ∀ n : UInt8, (c == n) = ((c.toNat : Int) == (n.toNat : Int)) := fun n => by
    rw [Bool.eq_iff_iff]; simp only [beq_iff_eq]
    exact ⟨fun h => by rw [h], fun h => UInt8.toNat_inj.1 (by omega)⟩
  rw [e 9, e 10, e 13]
  have e1 : decide (32 ≤ c.toNat ∧ c.toNat ≤ 126) = (decide (32 ≤ (c.toNat : Int)) && decide ((c.toNat : Int) ≤ 126)) := by
    rw [Bool.eq_iff_iff]; simp; omega
  have e2 : decide (161 ≤ c.toNat) = decide (161 ≤ (c.toNat : Int)) := by rw [Bool.eq_iff_iff]; simp; omega
  rw [e1, e2]; rfl
set_option maxHeartbeats 4000000 in
set_option maxRecDepth 100000 in
theorem xmp_Plain_wide {w : World} {A : Option Addr} (c : Nat) (r : List UInt8) (hb : Byt w A (254 :: 255 :: r)) (hc : r.length + 2 ≤ c) (hl : r.length ≤ 1000) (hT : Lib.Utf8Tabs 0 1 w) (h2 : 2 ≤ w.heap.size) :
    Calls Tryz.prog 20 #[.slice A (r.length + 2) c] w (PlainR (wS 0 r) w) := by
  have cp : Calls Tryz.prog 45 #[.slice A (r.length + 2) c, .slice (some ⟨w.heap.size, 0, none⟩) 2 2] (w.alloc (.cells #[.int .u8 254, .int .u8 255] 5)) fun e w' => e = .returned (.bool true) ∧ (w.alloc (.cells #[.int .u8 254, .int .u8 255] 5)) = w' := by
    have := prefix_byt c 2 (hb.below ((Below.refl w.heap.size w).alloc (Nat.le_refl _) (.cells #[.int .u8 254, .int .u8 255] 5))) (byt_two w 5) hc
    refine this.mono ?_
    rintro e w' ⟨rfl, rfl⟩
    exact ⟨by simp [hasPrefix, List.isPrefixOf], rfl⟩
  obtain ⟨b, o, rfl, hcell⟩ := hb.2 (by simp)
  have hb2 : ∀ p, (p = ⟨b, o + 2, none⟩ ∨ r.length = 0) → Byt w (some p) r := fun p hp => ⟨by unfold maxLen; omega, fun h0 => by
    rcases hp with rfl | h
    · exact ⟨b, o + 2, rfl, fun i hi => by
        have := hcell (i + 2) (by simp; omega)
        rw [Nat.add_assoc, Nat.add_comm 2 i]; simpa using this⟩
    · omega⟩
  replace hb := Lib.hid hb
  replace hb2 := Lib.hid hb2
  replace hT := Lib.hid hT
  clear hcell
  have hT1 := tabs_kept hT.out (((Below.refl w.heap.size w).alloc (Nat.le_refl _) (.cells #[.int .u8 254, .int .u8 255] 5)).block 0 (by omega)) (((Below.refl w.heap.size w).alloc (Nat.le_refl _) (.cells #[.int .u8 254, .int .u8 255] 5)).block 1 (by omega))
  have cw : ∀ p c', (p = ⟨b, o + 2, none⟩ ∨ r.length = 0) → Calls Tryz.prog 46 #[.slice (some p) r.length c'] (w.alloc (.cells #[.int .u8 254, .int .u8 255] 5)) (WideR (wS 0 r) (w.alloc (.cells #[.int .u8 254, .int .u8 255] 5))) := fun p c' hp =>
    xmp_wide c' ((hb2.out p hp).below ((Below.refl w.heap.size w).alloc (Nat.le_refl _) (.cells #[.int .u8 254, .int .u8 255] 5))) hl hT1 (by simp; omega)
  replace hT1 := Lib.hid hT1
  have hBw : Below w.heap.size w (w.alloc (.cells #[.int .u8 254, .int .u8 255] 5)) := (Below.refl _ _).alloc (Nat.le_refl _) _
  replace hBw := Lib.hid hBw
  generalize wS 0 r = R at *
  cases R with
  | none =>
    by_cases hcr : c = 2
    · have hr0 : r.length = 0 := by omega
      subst hcr
      have cw1 := cw ⟨b, o, none⟩ 0 (.inr hr0)
      rw [hr0] at cw1 cp ⊢
      clear cw hc hl
      replace hr0 := Lib.hid hr0
      go_enter Tryz.func20, Tryz.ntmps20
      go_wp2_with (first
        | (go_at_call 45; (with_reducible refine cp.mono ?_); rintro e w1 ⟨rfl, rfl⟩)
        | (go_at_call 46; (with_reducible refine cw1.mono ?_); rintro e w2 ⟨o', rfl, -, hb3⟩; replace hb3 := Lib.hid hb3; simp only [Option.isSome_none]))
      go_ret2
      exact ⟨rfl, bthen hBw.out hb3.out⟩
    · have cw1 := cw ⟨b, o + 2, none⟩ (c - 2) (.inl rfl)
      clear cw
      go_enter Tryz.func20, Tryz.ntmps20
      go_wp2_with (first
        | (go_at_call 45; (with_reducible refine cp.mono ?_); rintro e w1 ⟨rfl, rfl⟩)
        | (go_at_call 46; (with_reducible refine cw1.mono ?_); rintro e w2 ⟨o', rfl, -, hb3⟩; replace hb3 := Lib.hid hb3; simp only [Option.isSome_none]))
      go_ret2
      exact ⟨rfl, bthen hBw.out hb3.out⟩
  | some x =>
    by_cases hcr : c = 2
    · have hr0 : r.length = 0 := by omega
      subst hcr
      have cw1 := cw ⟨b, o, none⟩ 0 (.inr hr0)
      rw [hr0] at cw1 cp ⊢
      clear cw hc hl
      replace hr0 := Lib.hid hr0
      go_enter Tryz.func20, Tryz.ntmps20
      go_wp2_with (first
        | (go_at_call 45; (with_reducible refine cp.mono ?_); rintro e w1 ⟨rfl, rfl⟩)
        | (go_at_call 46; (with_reducible refine cw1.mono ?_); rintro e w2 ⟨o', rfl, ho, hb3⟩; replace hb3 := Lib.hid hb3; obtain rfl := ho x rfl; clear ho; simp only [Option.isSome_some]))
      go_ret2
      exact ⟨rfl, bthen hBw.out hb3.out⟩
    · have cw1 := cw ⟨b, o + 2, none⟩ (c - 2) (.inl rfl)
      clear cw
      go_enter Tryz.func20, Tryz.ntmps20
      go_wp2_with (first
        | (go_at_call 45; (with_reducible refine cp.mono ?_); rintro e w1 ⟨rfl, rfl⟩)
        | (go_at_call 46; (with_reducible refine cw1.mono ?_); rintro e w2 ⟨o', rfl, ho, hb3⟩; replace hb3 := Lib.hid hb3; obtain rfl := ho x rfl; clear ho; simp only [Option.isSome_some]))
      go_ret2
      exact ⟨rfl, bthen hBw.out hb3.out⟩
def LatL (R : Option (List UInt8)) (bs : List UInt8) (n0 : Nat) (w : World) (s6 s23 : Value) (wr : World) : Prop :=
  ∃ (k : Nat) (o : List UInt8), k ≤ bs.length ∧ s23 = .int .i64 k ∧ wr.ownsRow n0 5 1 s6 o.length (valsB o) ∧ o.length ≤ 4 * k ∧ R = (lS (bs.drop k)).map (o ++ ·) ∧ Below n0 w wr
theorem lS_yes {R : Option (List UInt8)} {o r : List UInt8} {c : UInt8} (h : R = (lS (c :: r)).map (o ++ ·)) (hc : okB c = true) : R = (lS r).map ((o ++ encU c.toNat) ++ ·) := by
  rw [h, lS, if_pos hc, map_app]
theorem lS_no {R : Option (List UInt8)} {o r : List UInt8} {c : UInt8} (h : R = (lS (c :: r)).map (o ++ ·)) (hc : okB c = false) : R = none := by
  rw [h, lS, hc]; rfl
set_option maxHeartbeats 4000000 in
set_option maxRecDepth 100000 in
theorem xmp_Plain_lat {w : World} {A : Option Addr} {bs : List UInt8} (c : Nat) (hb : Byt w A bs) (hc : bs.length ≤ c) (hl : bs.length ≤ 1000) (hp : hasPrefix bs [254, 255] = false) :
    Calls Tryz.prog 20 #[.slice A bs.length c] w (PlainR (lS bs) w) := by
  have cp : Calls Tryz.prog 45 #[.slice A bs.length c, .slice (some ⟨w.heap.size, 0, none⟩) 2 2] (w.alloc (.cells #[.int .u8 254, .int .u8 255] 5)) fun e w' => e = .returned (.bool false) ∧ (w.alloc (.cells #[.int .u8 254, .int .u8 255] 5)) = w' := by
    have := prefix_byt c 2 (hb.below ((Below.refl w.heap.size w).alloc (Nat.le_refl _) (.cells #[.int .u8 254, .int .u8 255] 5))) (byt_two w 5) hc
    refine this.mono ?_
    rintro e w' ⟨rfl, rfl⟩
    exact ⟨by rw [hp], rfl⟩
  have hBw : Below w.heap.size w (w.alloc (.cells #[.int .u8 254, .int .u8 255] 5)) := (Below.refl _ _).alloc (Nat.le_refl _) _
  obtain ⟨R, hR⟩ : ∃ R, R = lS bs := ⟨_, rfl⟩
  rw [← hR]
  replace hR := Lib.hid hR
  replace hp := Lib.hid hp
  replace hb := Lib.hid hb
  replace hBw := Lib.hid hBw
  obtain ⟨i0, hi0, hz0, hz1, hz2⟩ := byte_info
  go_enter Tryz.func20, Tryz.ntmps20
  go_wp2_with (go_at_call 45; (with_reducible refine cp.mono ?_); rintro e w1 ⟨rfl, rfl⟩)
  clear cp
  go_loopw [6, 23] (fun s6 s23 wr => LatL R bs w.heap.size w s6 s23 wr) (fun _ i _ => bs.length - (RowKit.intOf i).toNat)
  case atStart => exact ⟨0, [], Nat.zero_le _, rfl, ⟨by simp [valsB], .inl ⟨rfl, by simp⟩⟩, Nat.le_refl _, by rw [hR.out]; simp, hBw.out⟩
  case round =>
    obtain ⟨k, o, hk, rfl, hown, hol, hRk, hB⟩ := hrel
    by_cases hlt : k < bs.length
    · obtain ⟨b, off, rfl, hcell⟩ := (hb.out.below hB).2 (by omega)
      have hck := hcell k hlt
      have hu := u8_lt bs[k]
      have hu0 : (0 : Int) ≤ (bs[k].toNat : Int) := Int.natCast_nonneg _
      have hdr : bs.drop k = bs[k] :: bs.drop (k + 1) := List.drop_eq_getElem_cons hlt
      rw [hdr] at hRk
      have hok := okB_cases bs[k]
      have hn1 := Lib.hid (fun h => lS_yes hRk h)
      have hn2 := Lib.hid (fun h => lS_no hRk h)
      clear hdr hcell hb hRk
      generalize bs[k] = x at *
      obtain ⟨E, hEe⟩ : ∃ E, E = Utf8.encode (x.toNat : Int) := ⟨_, rfl⟩
      have hEn : Utf8.encode (x.toNat : Int) = E := hEe.symm
      have hv : validB (x.toNat : Int) = true := by
        unfold validB; simp only [Bool.or_eq_true, Bool.and_eq_true, decide_eq_true_eq]; omega
      have hle := enc_le x.toNat hv
      have hE : E.data.toList = encU x.toNat := by rw [hEe]; exact enc_data _
      have hEs : E.size = (encU x.toNat).length := by rw [← hE]; exact Array.length_toList.symm
      have hvl : valsB (encU x.toNat) = strCells E := by unfold valsB strCells; rw [hE]
      clear hEe hv
      generalize encU x.toNat = u at *
      generalize okB x = K at *
      generalize hZ : (x.toNat : Int) = Z at *
      replace hE := Lib.hid hE
      replace hvl := Lib.hid hvl
      replace hEs := Lib.hid hEs
      replace hok := Lib.hid hok
      have hsz := hB.size
      replace hB := Lib.hid hB
      have hcs : Z = 9 ∨ Z = 10 ∨ Z = 13 ∨ (32 ≤ Z ∧ Z ≤ 126) ∨ 161 ≤ Z ∨ (Z < 32 ∧ ¬ Z = 9 ∧ ¬ Z = 10 ∧ ¬ Z = 13) ∨ (126 < Z ∧ Z < 161) := by omega
      rcases hcs with rfl | rfl | rfl | ⟨h1, h2⟩ | h1 | ⟨h1, h2, h3, h4⟩ | ⟨h1, h2⟩
      · have hK : K = true := by rw [hok.out]; simp; try omega
        have hn := Lib.hid (hn1.out hK)
        replace hZ := Lib.hid hZ
        replace hK := Lib.hid hK
        clear hn1 hn2
        go_wp2_with (at_builtin; refine wpList_append_own_string _ rfl (.tmp 50) (.tmp 53) 25 9 rfl w.heap.size 5 i0 Tryz.underlying25 Tryz.underlying9 hi0 hz0 hz1 hz2 _ _ _ rfl hown E rfl (by have := hEs.out; unfold maxLen; omega) (by have := hEs.out; omega) hsz ?_; intro v5 w5 hown5 hg5 _; have hBw5 := hB.out.grown hg5 hsz (fun j hj => (hown.lt j hj).1))
        rw [hEs.out, ← hvl.out, ← valsB_app, ← List.length_append] at hown5
        exact ⟨⟨k + 1, o ++ u, by omega, by go_num, hown5, by rw [List.length_append]; omega, hn.out, hBw5⟩, by simp [RowKit.intOf]; omega⟩
      · have hK : K = true := by rw [hok.out]; simp; try omega
        have hn := Lib.hid (hn1.out hK)
        replace hZ := Lib.hid hZ
        replace hK := Lib.hid hK
        clear hn1 hn2
        go_wp2_with (at_builtin; refine wpList_append_own_string _ rfl (.tmp 50) (.tmp 53) 25 9 rfl w.heap.size 5 i0 Tryz.underlying25 Tryz.underlying9 hi0 hz0 hz1 hz2 _ _ _ rfl hown E rfl (by have := hEs.out; unfold maxLen; omega) (by have := hEs.out; omega) hsz ?_; intro v5 w5 hown5 hg5 _; have hBw5 := hB.out.grown hg5 hsz (fun j hj => (hown.lt j hj).1))
        rw [hEs.out, ← hvl.out, ← valsB_app, ← List.length_append] at hown5
        exact ⟨⟨k + 1, o ++ u, by omega, by go_num, hown5, by rw [List.length_append]; omega, hn.out, hBw5⟩, by simp [RowKit.intOf]; omega⟩
      · have hK : K = true := by rw [hok.out]; simp; try omega
        have hn := Lib.hid (hn1.out hK)
        replace hZ := Lib.hid hZ
        replace hK := Lib.hid hK
        clear hn1 hn2
        go_wp2_with (at_builtin; refine wpList_append_own_string _ rfl (.tmp 50) (.tmp 53) 25 9 rfl w.heap.size 5 i0 Tryz.underlying25 Tryz.underlying9 hi0 hz0 hz1 hz2 _ _ _ rfl hown E rfl (by have := hEs.out; unfold maxLen; omega) (by have := hEs.out; omega) hsz ?_; intro v5 w5 hown5 hg5 _; have hBw5 := hB.out.grown hg5 hsz (fun j hj => (hown.lt j hj).1))
        rw [hEs.out, ← hvl.out, ← valsB_app, ← List.length_append] at hown5
        exact ⟨⟨k + 1, o ++ u, by omega, by go_num, hown5, by rw [List.length_append]; omega, hn.out, hBw5⟩, by simp [RowKit.intOf]; omega⟩
      · have g1 : ¬ 126 < Z := by omega
        have hK : K = true := by rw [hok.out]; simp; try omega
        have hn := Lib.hid (hn1.out hK)
        replace hZ := Lib.hid hZ
        replace hK := Lib.hid hK
        clear hn1 hn2
        go_wp2_with (at_builtin; refine wpList_append_own_string _ rfl (.tmp 50) (.tmp 53) 25 9 rfl w.heap.size 5 i0 Tryz.underlying25 Tryz.underlying9 hi0 hz0 hz1 hz2 _ _ _ rfl hown E rfl (by have := hEs.out; unfold maxLen; omega) (by have := hEs.out; omega) hsz ?_; intro v5 w5 hown5 hg5 _; have hBw5 := hB.out.grown hg5 hsz (fun j hj => (hown.lt j hj).1))
        rw [hEs.out, ← hvl.out, ← valsB_app, ← List.length_append] at hown5
        exact ⟨⟨k + 1, o ++ u, by omega, by go_num, hown5, by rw [List.length_append]; omega, hn.out, hBw5⟩, by simp [RowKit.intOf]; omega⟩
      · have g1 : 32 ≤ Z := by omega
        have g2 : 126 < Z := by omega
        have g3 : (Z == 9) = false := by simp; omega
        have g4 : (Z == 10) = false := by simp; omega
        have g5 : (Z == 13) = false := by simp; omega
        have g6 : ¬ Z ≤ 126 := by omega
        have hK : K = true := by rw [hok.out]; simp; try omega
        have hn := Lib.hid (hn1.out hK)
        replace hZ := Lib.hid hZ
        replace hK := Lib.hid hK
        clear hn1 hn2
        go_wp2_with (at_builtin; refine wpList_append_own_string _ rfl (.tmp 50) (.tmp 53) 25 9 rfl w.heap.size 5 i0 Tryz.underlying25 Tryz.underlying9 hi0 hz0 hz1 hz2 _ _ _ rfl hown E rfl (by have := hEs.out; unfold maxLen; omega) (by have := hEs.out; omega) hsz ?_; intro v5 w5 hown5 hg5 _; have hBw5 := hB.out.grown hg5 hsz (fun j hj => (hown.lt j hj).1))
        rw [hEs.out, ← hvl.out, ← valsB_app, ← List.length_append] at hown5
        exact ⟨⟨k + 1, o ++ u, by omega, by go_num, hown5, by rw [List.length_append]; omega, hn.out, hBw5⟩, by simp [RowKit.intOf]; omega⟩
      · have g1 : ¬ 32 ≤ Z := by omega
        have g3 : (Z == 9) = false := by simp; omega
        have g4 : (Z == 10) = false := by simp; omega
        have g5 : (Z == 13) = false := by simp; omega
        have g2 : ¬ 161 ≤ Z := by omega
        have hK : K = false := by rw [hok.out]; simp; try omega
        have hn := Lib.hid (hn2.out hK)
        replace hZ := Lib.hid hZ
        replace hK := Lib.hid hK
        clear hn1 hn2
        go_wp2
        go_ret2
        exact ⟨by rw [hn.out]; rfl, hB.out⟩
      · have g1 : 32 ≤ Z := by omega
        have g2 : ¬ 161 ≤ Z := by omega
        have g3 : (Z == 9) = false := by simp; omega
        have g4 : (Z == 10) = false := by simp; omega
        have g5 : (Z == 13) = false := by simp; omega
        have g6 : ¬ Z ≤ 126 := by omega
        have hK : K = false := by rw [hok.out]; simp; try omega
        have hn := Lib.hid (hn2.out hK)
        replace hZ := Lib.hid hZ
        replace hK := Lib.hid hK
        clear hn1 hn2
        go_wp2
        go_ret2
        exact ⟨by rw [hn.out]; rfl, hB.out⟩
    · obtain rfl : k = bs.length := by omega
      rw [List.drop_length] at hRk
      obtain ⟨A', c', rfl, hBy⟩ := own_byt hown
      have hBy2 := hBy (by unfold maxLen; omega)
      have hcv := conv_byt (c := c') hBy2
      have hfin : R = some o := by rw [hRk]; simp [lS]
      replace hfin := Lib.hid hfin
      replace hBy2 := Lib.hid hBy2
      replace hB := Lib.hid hB
      clear hown hb hlt hBy hRk
      generalize o.length = m at *
      go_wp2
      go_ret2
      exact ⟨by rw [hfin.out]; rfl, hB.out⟩
theorem xmp_Plain {w : World} {A : Option Addr} {bs : List UInt8} (c : Nat) (hb : Byt w A bs) (hc : bs.length ≤ c) (hl : bs.length ≤ 1000) (hT : Lib.Utf8Tabs 0 1 w) (h2 : 2 ≤ w.heap.size) :
    Calls Tryz.prog 20 #[.slice A bs.length c] w (PlainR (plainS bs) w) := by
  cases hp : hasPrefix bs [254, 255] with
  | false => rw [plainS_not bs hp]; exact xmp_Plain_lat c hb hc hl hp
  | true =>
    obtain ⟨r, rfl⟩ := pre_shape bs hp
    exact xmp_Plain_wide c r hb (by simpa using hc) (by simp at hl; omega) hT h2
end Go.Proofs.YtkpikpaepgknnaaGreatDoor

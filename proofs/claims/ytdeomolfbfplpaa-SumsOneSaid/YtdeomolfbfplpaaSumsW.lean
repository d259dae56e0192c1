/- Sums: what the functions of the program and of the reference compute, and the law of parts walked. No condition. -/
import Derived.Test.YtdeomolfbfplpaaWk
import Derived.Test.YtdeomolfbfplpaaRows
import Derived.ProofKit
import Derived.Lib.Hide
import Derived.IntWalk
import Derived.Laws.BitsAllLaws
import Derived.Laws.AppendOwnNone
namespace Go.Proofs.Ytdeomolfbfplpaa
open Go.RowKit Go.Wk
/-! ### Plain: the sum -/
def stepA (p : Nat × Nat) (b : UInt8) : Nat × Nat := ((p.1 + b.toNat) % 65521, (p.2 + (p.1 + b.toNat) % 65521) % 65521)
def pairA (s : Nat) (bs : List UInt8) : Nat × Nat := bs.foldl stepA (s % 65536 % 65521, s / 65536 % 65521)
def moreA (s : Nat) (bs : List UInt8) : Nat := (pairA s bs).2 * 65536 + (pairA s bs).1
theorem stepA_lt (p : Nat × Nat) (b : UInt8) : (stepA p b).1 < 65521 ∧ (stepA p b).2 < 65521 := ⟨Nat.mod_lt _ (by omega), Nat.mod_lt _ (by omega)⟩
theorem foldA_lt : ∀ (bs : List UInt8) (p : Nat × Nat), p.1 < 65521 → p.2 < 65521 → (bs.foldl stepA p).1 < 65521 ∧ (bs.foldl stepA p).2 < 65521 := by
  intro bs
  induction bs with
  | nil => intro p h1 h2; exact ⟨h1, h2⟩
  | cons b bs ih => intro p _ _; exact ih _ (stepA_lt p b).1 (stepA_lt p b).2
theorem pairA_lt (s : Nat) (bs : List UInt8) : (pairA s bs).1 < 65521 ∧ (pairA s bs).2 < 65521 := foldA_lt bs _ (Nat.mod_lt _ (by omega)) (Nat.mod_lt _ (by omega))
theorem pairA_take (s : Nat) (bs : List UInt8) (k : Nat) (h : k < bs.length) : pairA s (bs.take (k + 1)) = stepA (pairA s (bs.take k)) bs[k] := by
  unfold pairA
  rw [List.take_succ_eq_append_getElem h, List.foldl_append]; rfl
set_option maxHeartbeats 1000000 in
theorem ref_more (s : Nat) (hs : s < 4294967296) (A : Option Addr) (c : Nat) (bs : List UInt8) (w : World) (h : Byt w A bs) :
    Calls Try.prog 9 #[.int .u32 s, .slice A bs.length c] w fun e w' => e = .returned (.int .u32 (moreA s bs : Nat)) ∧ w = w' := by
  obtain ⟨hm, hcell⟩ := h
  unfold maxLen at hm
  go_enter Try.func9, Try.ntmps9
  go_wp2
  go_loop [5, 6, 7] (fun x y i => ∃ k : Nat, k ≤ bs.length ∧ i = .int .i64 k ∧ x = .int .u32 ((pairA s (bs.take k)).1 : Nat) ∧ y = .int .u32 ((pairA s (bs.take k)).2 : Nat)) (fun _ _ i => bs.length - (intOf i).toNat)
  case atStart => exact ⟨0, Nat.zero_le _, rfl, by simp [pairA], by simp [pairA]⟩
  case round =>
    obtain ⟨k, hk, rfl, rfl, rfl⟩ := hrel
    have hp := pairA_lt s (bs.take k)
    by_cases hlt : k < bs.length
    · obtain ⟨b, o, rfl, hc⟩ := hcell (by omega)
      have hck := hc k hlt
      have hu := u8_lt bs[k]
      have HT := Lib.hid (pairA_take s bs k hlt)
      clear hc hcell
      generalize bs[k] = u at *
      generalize pairA s (bs.take k) = q at *
      go_wp2
      refine ⟨⟨k + 1, by omega, by go_num, ?_, ?_⟩, by simp [intOf]; omega⟩
      · rw [HT.out]; simp [stepA]
      · rw [HT.out]; simp [stepA]
    · have hk' : k = bs.length := by omega
      subst hk'
      rw [List.take_length]
      rw [List.take_length] at hp
      have HM := Lib.hid (show moreA s bs = (pairA s bs).2 * 65536 + (pairA s bs).1 from rfl)
      generalize pairA s bs = q at *
      go_wp2
      go_ret
      refine ⟨?_, rfl⟩
      rw [HM.out]
      simp
theorem and_low (s : Nat) (hs : s < 4294967296) : bits .and .u32 (s : Int) 65535 = (s : Int) % 65536 := by
  have h := u32_and_nat s 65535 hs (by omega)
  have h2 : s &&& 65535 = s % 65536 := Nat.and_two_pow_sub_one_eq_mod s 16
  rw [h2] at h
  have e : ((65535 : Nat) : Int) = 65535 := by omega
  rw [e] at h
  rw [h]; omega
theorem or_high (y x : Nat) (hy : y < 65536) (hx : x < 65536) : bits .or .u32 ((y : Int) * 65536) (x : Int) = (y : Int) * 65536 + x := by
  have h := u32_or_nat (y * 65536) x (by omega) (by omega)
  have h2 : y * 65536 ||| x = y * 65536 + x := by
    have := Nat.shiftLeft_add_eq_or_of_lt (b := x) (i := 16) (by omega) y
    rw [Nat.shiftLeft_eq] at this
    exact this.symm
  rw [h2] at h
  have e : ((y * 65536 : Nat) : Int) = (y : Int) * 65536 := by omega
  rw [e] at h
  rw [h]; simp
set_option maxHeartbeats 1000000 in
theorem sums_more (s : Nat) (hs : s < 4294967296) (A : Option Addr) (c : Nat) (bs : List UInt8) (w : World) (h : Byt w A bs) :
    Calls Try.prog 8 #[.int .u32 s, .slice A bs.length c] w fun e w' => e = .returned (.int .u32 (moreA s bs : Nat)) ∧ w = w' := by
  obtain ⟨hm, hcell⟩ := h
  unfold maxLen at hm
  have hal := and_low s hs
  go_enter Try.func8, Try.ntmps8
  go_wp2
  clear hal
  go_loop [5, 6, 17] (fun x y i => ∃ k : Nat, k ≤ bs.length ∧ i = .int .i64 k ∧ x = .int .u32 ((pairA s (bs.take k)).1 : Nat) ∧ y = .int .u32 ((pairA s (bs.take k)).2 : Nat)) (fun _ _ i => bs.length - (intOf i).toNat)
  case atStart => exact ⟨0, Nat.zero_le _, rfl, by simp [pairA], by simp [pairA]⟩
  case round =>
    obtain ⟨k, hk, rfl, rfl, rfl⟩ := hrel
    have hp := pairA_lt s (bs.take k)
    by_cases hlt : k < bs.length
    · obtain ⟨b, o, rfl, hc⟩ := hcell (by omega)
      have hck := hc k hlt
      have hu := u8_lt bs[k]
      have HT := Lib.hid (pairA_take s bs k hlt)
      clear hc hcell
      generalize bs[k] = u at *
      generalize pairA s (bs.take k) = q at *
      go_wp2
      refine ⟨⟨k + 1, by omega, by go_num, ?_, ?_⟩, by simp [intOf]; omega⟩
      · rw [HT.out]; simp [stepA]
      · rw [HT.out]; simp [stepA]
    · have hk' : k = bs.length := by omega
      subst hk'
      rw [List.take_length]
      rw [List.take_length] at hp
      have HM := Lib.hid (show moreA s bs = (pairA s bs).2 * 65536 + (pairA s bs).1 from rfl)
      generalize pairA s bs = q at *
      have hor := or_high q.2 q.1 (by omega) (by omega)
      go_wp2
      go_ret
      refine ⟨?_, rfl⟩
      rw [HM.out]
      simp
theorem moreA_lt (s : Nat) (bs : List UInt8) : moreA s bs < 4294967296 := by
  have := pairA_lt s bs
  unfold moreA; omega
def adlerA (s : Nat) (ps : List Part) : Nat := ps.foldl (fun s p => moreA s p.2.2) s
theorem adlerA_lt : ∀ (ps : List Part) (s : Nat), s < 4294967296 → adlerA s ps < 4294967296 := by
  intro ps
  induction ps with
  | nil => intro s h; exact h
  | cons p ps ih => intro s _; exact ih _ (moreA_lt _ _)
theorem adlerA_take (s : Nat) (ps : List Part) (k : Nat) (h : k < ps.length) : adlerA s (ps.take (k + 1)) = moreA (adlerA s (ps.take k)) ps[k].2.2 := by
  unfold adlerA
  rw [List.take_succ_eq_append_getElem h, List.foldl_append]; rfl
set_option maxHeartbeats 1000000 in
theorem sums_adler (A : Option Addr) (c : Nat) (ps : List Part) (w : World) (h : Parts w A ps) :
    Calls Try.prog 7 #[.slice A ps.length c] w fun e w' => e = .returned (.int .u32 (adlerA 1 ps : Nat)) ∧ w = w' := by
  obtain ⟨hm, hcell, hby⟩ := h
  unfold maxLen at hm
  go_enter Try.func7, Try.ntmps7
  go_wp2
  go_loop [3, 8] (fun x i => ∃ k : Nat, k ≤ ps.length ∧ i = .int .i64 k ∧ x = .int .u32 (adlerA 1 (ps.take k) : Nat)) (fun _ i => ps.length - (intOf i).toNat)
  case atStart => exact ⟨0, Nat.zero_le _, rfl, rfl⟩
  case round =>
    obtain ⟨k, hk, rfl, rfl⟩ := hrel
    have hp := adlerA_lt (ps.take k) 1 (by omega)
    by_cases hlt : k < ps.length
    · obtain ⟨b, o, rfl, hc⟩ := hcell (by omega)
      have hck := hc k hlt
      have hb := (hby ps[k] (List.getElem_mem hlt)).1
      have HT := Lib.hid (adlerA_take 1 ps k hlt)
      clear hc hcell hby
      generalize ps[k] = u at *
      generalize adlerA 1 (ps.take k) = q at *
      go_wp2_with (go_at_call 8; refine (sums_more q hp _ _ _ _ hb).mono ?_; rintro e w' ⟨rfl, rfl⟩)
      refine ⟨⟨k + 1, by omega, by go_num, ?_⟩, by simp [intOf]; omega⟩
      rw [HT.out]
    · have hk' : k = ps.length := by omega
      subst hk'
      rw [List.take_length]
      rw [List.take_length] at hp
      go_wp2
      go_ret
      exact ⟨rfl, rfl⟩
set_option maxHeartbeats 400000 in
theorem ref_adler (A : Option Addr) (c : Nat) (bs : List UInt8) (w : World) (h : Byt w A bs) :
    Calls Try.prog 10 #[.slice A bs.length c] w fun e w' => e = .returned (.int .u32 (moreA 1 bs : Nat)) ∧ w = w' := by
  go_enter Try.func10, Try.ntmps10
  go_wp2_with (go_at_call 9; refine (ref_more 1 (by omega) _ _ _ _ h).mono ?_; rintro e w' ⟨rfl, rfl⟩)
  go_ret
  exact ⟨rfl, rfl⟩
/-! ### Plain: sums of parts -/
theorem pairA_more (s : Nat) (a b : List UInt8) : pairA (moreA s a) b = pairA s (a ++ b) := by
  have h := pairA_lt s a
  unfold pairA
  rw [List.foldl_append]
  congr 1
  show (moreA s a % 65536 % 65521, moreA s a / 65536 % 65521) = pairA s a
  unfold moreA
  rw [show ((pairA s a).2 * 65536 + (pairA s a).1) % 65536 % 65521 = (pairA s a).1 by omega, show ((pairA s a).2 * 65536 + (pairA s a).1) / 65536 % 65521 = (pairA s a).2 by omega]
theorem moreA_more (s : Nat) (a b : List UInt8) : moreA (moreA s a) b = moreA s (a ++ b) := by unfold moreA; rw [← pairA_more]; rfl
def flatA (ps : List Part) : List UInt8 := ps.flatMap (·.2.2)
theorem adlerA_flat : ∀ (ps : List Part) (s : Nat), ps ≠ [] → adlerA s ps = moreA s (flatA ps) := by
  intro ps
  induction ps with
  | nil => intro s h; exact absurd rfl h
  | cons p ps ih =>
    intro s _
    show adlerA (moreA s p.2.2) ps = moreA s (p.2.2 ++ flatA ps)
    cases ps with
    | nil => show moreA s p.2.2 = moreA s (p.2.2 ++ []); rw [List.append_nil]
    | cons q qs => rw [ih _ (by simp), moreA_more]
theorem adlerA_one (ps : List Part) : adlerA 1 ps = moreA 1 (flatA ps) := by
  cases ps with
  | nil => rfl
  | cons p ps => exact adlerA_flat _ _ (by simp)
theorem flatA_take (ps : List Part) (k : Nat) (h : k < ps.length) : flatA (ps.take (k + 1)) = flatA (ps.take k) ++ ps[k].2.2 := by
  unfold flatA
  rw [List.take_succ_eq_append_getElem h, List.flatMap_append]; simp
theorem byte_info : ∃ i, Try.prog.info? 5 = some i ∧ i.zero = some (.int .u8 0) ∧ i.size = 1 ∧ i.bytes = 1 := ⟨_, rfl, by kernel_rfl, by kernel_rfl, by kernel_rfl⟩
set_option maxHeartbeats 1000000 in
theorem parts_law (A : Option Addr) (c : Nat) (ps : List Part) (s : Nat) (hs : s < 4294967296) (w : World) (h : Parts w A ps)
    (haw : Calls Try.prog 6 #[] w fun e w' => e = .returned (.bool true) ∧ Below w.heap.size w w') :
    Calls Try.prog 4 #[.slice A ps.length c, .int .u32 s] w fun e w' => e = .returned (.bool true) ∧ Below w.heap.size w w' := by
  obtain ⟨i0, hi, hz0, hz1, hz2⟩ := byte_info
  by_cases h60 : ps.length ≤ 60
  · go_enter Try.func4, Try.ntmps4
    go_wp2_with (go_at_call 6; refine haw.mono ?_; rintro e w1 ⟨rfl, hw1⟩)
    have hP := h.below hw1
    have hsz1 := hw1.size
    clear h haw
    go_loopw [5, 6, 7] (fun v x i wr => ∃ k : Nat, k ≤ ps.length ∧ i = .int .i64 k ∧ x = .int .u32 (adlerA s (ps.take k) : Nat) ∧ (flatA (ps.take k)).length ≤ 500 * k ∧
      wr.ownsRow w1.heap.size 5 1 v (flatA (ps.take k)).length (valsB (flatA (ps.take k))) ∧ Below w1.heap.size w1 wr) (fun _ _ i _ => ps.length - (intOf i).toNat)
    case atStart => exact ⟨0, Nat.zero_le _, rfl, rfl, by simp [flatA], ⟨by simp [flatA, valsB], .inl ⟨rfl, by simp [flatA]⟩⟩, Below.refl _ _⟩
    case round =>
      obtain ⟨k, hk, rfl, rfl, hfl, hown, hb⟩ := hrel
      have hP2 := hP.below hb
      have hsz2 := hb.size
      by_cases hlt : k < ps.length
      · obtain ⟨hm, hcell, hby⟩ := hP2
        obtain ⟨b, o, rfl, hc⟩ := hcell (by omega)
        have hck := hc k hlt
        obtain ⟨hbk, hnil⟩ := hby ps[k] (List.getElem_mem hlt)
        have hbk1 := (hP.2.2 ps[k] (List.getElem_mem hlt)).1
        have HC1 : Hid (w1.cell? ⟨b, o + k, none⟩ = some (.slice ps[k].1 ps[k].2.2.length ps[k].2.1)) := by
          obtain ⟨b', o', e, hc'⟩ := hP.2.1 (by omega)
          cases e
          exact Lib.hid (hc' k hlt)
        have HT := Lib.hid (adlerA_take s ps k hlt)
        have HF := Lib.hid (flatA_take ps k hlt)
        have hq : adlerA s (ps.take k) < 4294967296 := adlerA_lt _ _ hs
        clear hc hcell hby hP
        generalize ps[k] = u at *
        generalize adlerA s (ps.take k) = q at *
        obtain ⟨Ak, ck, bk⟩ := u
        simp only at hck hbk hnil
        have hbm := hbk.1
        unfold maxLen at hbm hm
        by_cases h500 : bk.length ≤ 500
        · rcases Ak with _ | ad
          · have h0 : bk = [] := by
              rcases Nat.eq_zero_or_pos bk.length with h | h
              · exact List.eq_nil_of_length_eq_zero h
              · obtain ⟨_, _, e, _⟩ := hbk.2 h; cases e
            subst h0
            have hc0 := hnil rfl
            subst hc0
            have hcall := sums_more q hq none 0 [] wr hbk
            simp only [List.length_nil] at hck hcall
            clear hbm h500 hnil
            go_wp2_with (first
              | (at_builtin; refine wpList_append_own_none rfl (.tmp 27) (.tmp 31) 25 rfl w1.heap.size 5 i0 1 Try.underlying25 hi _ _ _ rfl hown rfl ?_)
              | (go_at_call 8; refine hcall.mono ?_; rintro e w' ⟨rfl, rfl⟩))
            go_roundw
            case rel => exact ⟨k + 1, by omega, by go_num, by rw [HT.out], by rw [HF.out]; simp; omega, by rw [HF.out, List.append_nil]; exact hown, hb⟩
            case measure => simp [intOf]; omega
          · have hcall := sums_more q hq (some ad) ck bk
            have hnews := hbk.news
            have hone := valsB_one bk
            have hvl := valsB_len bk
            have HB := Lib.hid hbk1
            clear hnil hbk hbk1
            go_wp2_with (first
              | (at_builtin; refine wpList_append_own _ rfl (.tmp 27) (.tmp 31) 25 rfl w1.heap.size 5 i0 (.int .u8 0) 1 1 Try.underlying25 hi hz0 hz1 hz2 rfl (by decide) _ _ _ rfl hown ad bk.length ck (valsB bk) rfl (by rw [hvl, Nat.mul_one]) hnews hone (by unfold maxLen; omega) (by omega) hsz2 ?_; intro v2 w2 hown2 hgrow2 _; have hb2 := hb.grown hgrow2 hsz2 (fun j hj => (hown.lt j hj).1); have hck2 := (hb2.cell (p := ⟨b, o + k, none⟩) (cell_lt HC1.out)).trans HC1.out; have hcall2 := hcall w2 (HB.out.below hb2))
              | (go_at_call 8; refine hcall2.mono ?_; rintro e w' ⟨rfl, rfl⟩))
            go_roundw
            case rel => exact ⟨k + 1, by omega, by go_num, by rw [HT.out], by rw [HF.out, List.length_append]; omega, by rw [HF.out, List.length_append, valsB_app]; exact hown2, hb2⟩
            case measure => simp [intOf]; omega
        · go_wp2
          go_ret
          exact ⟨rfl, hw1.trans (hb.mono hsz1)⟩
      · have hk' : k = ps.length := by omega
        subst hk'
        rw [List.take_length] at hown hfl ⊢
        obtain ⟨A', c', rfl, hB⟩ := own_byt hown
        have hB := hB (by unfold maxLen; omega)
        have hm := hP2.1
        unfold maxLen at hm
        have k1 := ref_more s hs A' c' (flatA ps) wr hB
        have k2 := sums_more s hs A' c' (flatA ps) wr hB
        have k3 := sums_adler A c ps wr hP2
        have k4 := ref_adler A' c' (flatA ps) wr hB
        rw [adlerA_one] at k3
        have hbl := hB.1
        unfold maxLen at hbl
        have hx : adlerA s ps = if ps.length = 0 then s else moreA s (flatA ps) := by
          split
          · rename_i h0
            have : ps = [] := List.eq_nil_of_length_eq_zero h0
            subst this; rfl
          · rename_i h0
            exact adlerA_flat _ _ (fun h => h0 (by rw [h]; rfl))
        rw [hx]
        clear hx hown hB hP2 hP hfl
        generalize (flatA ps).length = n at *
        generalize moreA s (flatA ps) = m at *
        generalize moreA 1 (flatA ps) = m1 at *
        by_cases h0 : ps.length = 0
        · rw [if_pos h0]
          have h0' : ((ps.length : Int) == 0) = true := by simp [h0]
          clear h0
          go_wp2_with (first
            | (go_at_call 9; (with_reducible refine k1.mono ?_); rintro e w' ⟨rfl, rfl⟩)
            | (go_at_call 8; (with_reducible refine k2.mono ?_); rintro e w' ⟨rfl, rfl⟩)
            | (go_at_call 7; (with_reducible refine k3.mono ?_); rintro e w' ⟨rfl, rfl⟩)
            | (go_at_call 10; (with_reducible refine k4.mono ?_); rintro e w' ⟨rfl, rfl⟩))
          go_ret
          exact ⟨rfl, hw1.trans (hb.mono hsz1)⟩
        · rw [if_neg h0]
          have h0' : ((ps.length : Int) == 0) = false := by simpa using h0
          clear h0
          go_wp2_with (first
            | (go_at_call 9; (with_reducible refine k1.mono ?_); rintro e w' ⟨rfl, rfl⟩)
            | (go_at_call 8; (with_reducible refine k2.mono ?_); rintro e w' ⟨rfl, rfl⟩)
            | (go_at_call 7; (with_reducible refine k3.mono ?_); rintro e w' ⟨rfl, rfl⟩)
            | (go_at_call 10; (with_reducible refine k4.mono ?_); rintro e w' ⟨rfl, rfl⟩))
          go_ret
          exact ⟨rfl, hw1.trans (hb.mono hsz1)⟩
  · obtain ⟨hm, _, _⟩ := h
    unfold maxLen at hm
    go_enter Try.func4, Try.ntmps4
    go_wp2_with (go_at_call 6; refine haw.mono ?_; rintro e w1 ⟨rfl, hw1⟩)
    go_ret
    exact ⟨rfl, hw1⟩
end Go.Proofs.Ytdeomolfbfplpaa

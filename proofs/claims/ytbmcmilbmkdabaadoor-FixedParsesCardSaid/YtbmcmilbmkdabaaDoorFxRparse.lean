/- Fixed: the contract of the document's own Parse. No condition. -/
import Derived.Test.YtbmcmilbmkdabaaDoorFxRplain
namespace Go.Proofs.YtbmcmilbmkdabaaDoor
open Go Go.RowKit Go.Wk
theorem take_next (bs : List UInt8) (P q : Nat) (hq : P ≤ q) (hlt : q < bs.length) : (bs.drop P).take (q + 1 - P) = (bs.drop P).take (q - P) ++ [bs[q]] ∧ bs[q] ∈ bs.drop P := by
  have hl : q - P < (bs.drop P).length := by rw [List.length_drop]; omega
  have e : (bs.drop P)[q - P] = bs[q] := by rw [List.getElem_drop]; congr 1; omega
  constructor
  · rw [show q + 1 - P = (q - P) + 1 by omega, List.take_succ_eq_append_getElem hl, e]
  · rw [← e]; exact List.getElem_mem hl
theorem cnt_le (f : UInt8 → Bool) (bs : List UInt8) (P k : Nat) : ((bs.drop P).take k).countP f ≤ bs.length := by
  have h1 := List.countP_le_length (p := f) (l := (bs.drop P).take k)
  rw [List.length_take, List.length_drop] at h1
  omega
set_option maxHeartbeats 4000000 in
set_option maxRecDepth 100000 in
theorem rp_none {w : World} {b o c : Nat} {bs : List UInt8} (h : ∀ i (h : i < bs.length), w.cell? ⟨b, o + i, none⟩ = some (.int .u8 (bs[i].toNat : Int))) (h0 : 0 < bs.length) (hc : bs.length ≤ c) (hs : bs.length ≤ 100000)
    (h43 : ¬ (bs[0].toNat : Int) = 43) (h45 : ¬ (bs[0].toNat : Int) = 45) :
    Calls Tryd.prog 13 #[.slice (some ⟨b, o, none⟩) bs.length c] w fun e w' => e = .returned (.tuple #[.int .i64 (parseS bs).1, .bool (parseS bs).2.1, .int .i64 (parseS bs).2.2]) ∧ Below w.heap.size w w' := by
  have hR : parseS bs = parseP bs 0 false := by
    have e : bs[0]? = some bs[0] := List.getElem?_eq_getElem h0
    have e1 : ¬ bs[0]? = some 43 := by rw [e]; intro h; injection h with h; rw [h] at h43; exact h43 rfl
    have e2 : ¬ bs[0]? = some 45 := by rw [e]; intro h; injection h with h; rw [h] at h45; exact h45 rfl
    have hsg : sgn bs = (0, false) := by unfold sgn; rw [if_neg e1, if_neg e2]
    rw [parseS_eq, hsg]
  have hbad := Lib.hid (parse_bad bs 0 false (by omega))
  have hfit := Lib.hid (parse_fit bs 0 false (by omega))
  rw [hR]
  obtain ⟨T, hT⟩ : ∃ T, T = parseP bs 0 false := ⟨_, rfl⟩
  rw [← hT] at hbad hfit ⊢
  clear hR hT
  have hc0 := h 0 h0
  rw [Nat.add_zero] at hc0
  generalize bs[0] = x0 at *
  replace h := Lib.hid h
  skip
  go_enter Tryd.func13, Tryd.ntmps13
  go_wp2
  · rename _ ∨ _ => hx
    rcases hx with hx | hx <;> simp at hx <;> omega
  go_loop [7, 8, 9] (fun pv dv iv => ∃ q : Nat, 0 ≤ q ∧ q ≤ bs.length ∧ iv = .int .i64 q ∧ pv = .int .i64 (((bs.drop 0).take (q - 0)).countP isP : Nat) ∧ dv = .int .i64 (((bs.drop 0).take (q - 0)).countP isD : Nat) ∧ ∀ b ∈ (bs.drop 0).take (q - 0), isD b = true ∨ isP b = true) (fun _ _ iv => bs.length - (RowKit.intOf iv).toNat)
  case atStart => exact ⟨0, Nat.le_refl _, by omega, by rfl, by simp, by simp, fun b hb => by simp at hb⟩
  case round =>
    obtain ⟨q, hq0, hq, rfl, rfl, rfl, hall⟩ := hrel
    replace hall := Lib.hid hall
    have hl1 := cnt_le isP bs 0 (q - 0)
    have hl2 := cnt_le isD bs 0 (q - 0)
    by_cases hlt : q < bs.length
    · have hck := h.out q hlt
      obtain ⟨hn1, hn2⟩ := take_next bs 0 q hq0 hlt
      replace hn1 := Lib.hid hn1
      replace hn2 := Lib.hid hn2
      have hstep := Lib.hid (show ((bs.drop 0).take (q + 1 - 0)).countP isP = ((bs.drop 0).take (q - 0)).countP isP + (if isP bs[q] then 1 else 0) ∧ ((bs.drop 0).take (q + 1 - 0)).countP isD = ((bs.drop 0).take (q - 0)).countP isD + (if isD bs[q] then 1 else 0) by
        rw [hn1.out, List.countP_append, List.countP_append, List.countP_singleton, List.countP_singleton]; exact ⟨rfl, rfl⟩)
      generalize hxx : bs[q] = x at *
      replace hxx := Lib.hid hxx
      generalize ((bs.drop 0).take (q - 0)).countP isP = n1 at *
      generalize ((bs.drop 0).take (q - 0)).countP isD = n2 at *
      clear hq0 hc0 hc
      have hx0 := u8_lt x
      by_cases h46 : (x.toNat : Int) = 46
      · have hip : isP x = true := by
          have : x.toNat = 46 := by omega
          have : x = 46 := UInt8.toNat_inj.1 (by rw [this]; rfl)
          rw [this]; rfl
        have hid' : isD x = false := by unfold isD; have : x.toNat = 46 := by omega
                                        rw [this]; rfl
        rw [hip, hid'] at hstep
        replace hip := Lib.hid hip
        go_wp2
        refine ⟨⟨q + 1, by omega, by omega, by rfl, by rw [hstep.out.1]; rfl, by rw [hstep.out.2]; rfl, ?_⟩, by simp only [RowKit.intOf]; omega⟩
        rw [hn1.out]
        intro z hz
        rcases List.mem_append.1 hz with hz | hz
        · exact hall.out z hz
        · rw [List.mem_singleton.1 hz]; exact .inr hip.out
      · have hip : isP x = false := by
          unfold isP
          rw [beq_eq_false_iff_ne]
          intro e; rw [e] at h46; exact h46 rfl
        by_cases hdg : 48 ≤ (x.toNat : Int) ∧ (x.toNat : Int) ≤ 57
        · have hid' : isD x = true := by
            unfold isD
            rw [decide_eq_true (show 48 ≤ x.toNat by omega), decide_eq_true (show x.toNat ≤ 57 by omega)]; rfl
          rw [hip, hid'] at hstep
          replace hid' := Lib.hid hid'
          obtain ⟨hdg1, hdg2⟩ := hdg
          go_wp2
          refine ⟨⟨q + 1, by omega, by omega, by rfl, by rw [hstep.out.1]; rfl, by rw [hstep.out.2]; rfl, ?_⟩, by simp only [RowKit.intOf]; omega⟩
          rw [hn1.out]
          intro z hz
          rcases List.mem_append.1 hz with hz | hz
          · exact hall.out z hz
          · rw [List.mem_singleton.1 hz]; exact .inl hid'.out
        · have hid' : isD x = false := by
            unfold isD
            by_cases h48 : 48 ≤ x.toNat
            · rw [decide_eq_false (show ¬ x.toNat ≤ 57 by omega)]; simp
            · rw [decide_eq_false h48]; rfl
          have hTb := Lib.hid (hbad.out x hn2.out hid' hip)
          have hdg2 : (x.toNat : Int) < 48 ∨ 57 < (x.toNat : Int) := by omega
          clear hdg
          rcases hdg2 with hdg2 | hdg2
          · go_wp2
            go_ret3
            rw [hTb.out]
            exact ⟨rfl, Below.refl _ _⟩
          · go_wp2
            go_ret3
            rw [hTb.out]
            exact ⟨rfl, Below.refl _ _⟩
    · have hqe : q = bs.length := by omega
      subst hqe
      have hfull : (bs.drop 0).take (bs.length - 0) = bs.drop 0 := List.take_of_length_le (by rw [List.length_drop]; omega)
      rw [hfull] at hall hl1 hl2 ⊢
      have hf := hfit.out hall.out
      clear hfit hbad hfull hall hc0 hq0
      obtain ⟨hf1, hf2⟩ := hf
      generalize (bs.drop 0).countP isP = n1 at *
      generalize (bs.drop 0).countP isD = n2 at *
      by_cases hw : 1 < n1 ∨ n2 = 0
      · have hTb := Lib.hid (hf1 hw)
        clear hf1 hf2
        by_cases hw1 : 1 < n1
        · clear hw
          go_wp2
          go_ret3
          rw [hTb.out]
          exact ⟨rfl, Below.refl _ _⟩
        · have hw2 : n2 = 0 := by omega
          subst hw2
          clear hw
          go_wp2
          go_ret3
          rw [hTb.out]
          exact ⟨rfl, Below.refl _ _⟩
      · obtain ⟨g1, g2, g3, g4⟩ := hf2 hw
        clear hf1 hf2
        have hw1 : n1 ≤ 1 := by omega
        have hw2 : 0 < n2 := by omega
        clear hw
        replace g3 := Lib.hid g3
        replace g4 := Lib.hid g4
        replace g1 := Lib.hid g1
        replace g2 := Lib.hid g2
        have hDl : 0 + (digs bs 0).length ≤ bs.length := by
          have : (digs bs 0).length ≤ (bs.drop 0).length := (List.takeWhile_sublist _).length_le
          rw [List.length_drop] at this
          omega
        have hdin : Hid (∀ k, ∀ hk : k < (digs bs 0).length, bs[0 + k]? = some (digs bs 0)[k] ∧ isD (digs bs 0)[k] = true) := Lib.hid (fun k hk => digs_in hk)
        have hstop := Lib.hid (num_stop (digs bs 0))
        have hgo := Lib.hid (num_go (digs bs 0))
        have hnle := Lib.hid (fun k => numD_le ((digs bs 0).take k) (0, true) (by omega))
        generalize digs bs 0 = D at *
        go_wp2
        · rename _ ∨ _ => hx
          rcases hx with hx | hx
          · omega
          · simp at hx; omega
        go_loop [10, 11] (fun nv iv => ∃ q k : Nat, Hid (q = 0 + k) ∧ k ≤ D.length ∧ iv = .int .i64 q ∧ nv = .int .i64 ((numD (D.take k)).1 : Nat) ∧ Hid ((numD (D.take k)).2 = true)) (fun _ iv => bs.length - (RowKit.intOf iv).toNat)
        case atStart => exact ⟨0, 0, Lib.hid rfl, Nat.zero_le _, by rfl, by rfl, Lib.hid rfl⟩
        case round =>
          obtain ⟨q, k, hqk, hk, rfl, rfl, hnt⟩ := hrel
          by_cases hlt : k < D.length
          · have hqb : q < bs.length := by rw [hqk.out]; omega
            obtain ⟨hd1, hd2⟩ := hdin.out k hlt
            have hst := Lib.hid (hstop.out k hlt)
            have hgg := Lib.hid (hgo.out k hlt hnt.out)
            have hle : (numD (D.take k)).1 ≤ 2147483647 := hnle.out k
            have hck := h.out q hqb
            have hbd : bs[q] = D[k] := by
              have e : bs[q]? = some D[k] := by rw [hqk.out]; exact hd1
              rw [List.getElem?_eq_getElem hqb] at e
              exact Option.some.inj e
            rw [hbd] at hck
            clear hbd hd1 hdin
            generalize D[k] = x at *
            generalize (numD (D.take k)).1 = n at *
            have hx : 48 ≤ (x.toNat : Int) ∧ (x.toNat : Int) ≤ 57 := by
              unfold isD at hd2
              have := (Bool.and_eq_true_iff.1 hd2)
              have h1 := of_decide_eq_true this.1
              have h2 := of_decide_eq_true this.2
              omega
            obtain ⟨hx1, hx2⟩ := hx
            clear hd2
            obtain ⟨N, hN⟩ := hidE (n : Int)
            have hN0 : 0 ≤ N ∧ N ≤ 2147483647 := by rw [hN.out]; omega
            rw [← hN.out]
            clear hle hstop hgo hnle
            go_wp2
            · rename _ < _ => hgt
              go_ret3
              rw [g2.out (hst.out (by have := hN.out; omega))]
              exact ⟨rfl, Below.refl _ _⟩
            · rename _ ≤ _ => hgt
              have e := hgg.out (by have := hN.out; omega)
              refine ⟨⟨q + 1, k + 1, Lib.hid (by rw [hqk.out]; omega), by omega, by rfl, by rw [e]; congr 1; have := hN.out; simp only; omega, Lib.hid (by rw [e])⟩, by simp only [RowKit.intOf]; omega⟩
          · have hke : k = D.length := by omega
            subst hke
            rw [List.take_length] at hnt ⊢
            have hle := hnle.out D.length
            rw [List.take_length] at hle
            change (numD D).1 ≤ 2147483647 at hle
            clear hdin hstop hgo hnle g2
            replace g3 := Lib.hid (g3.out hnt.out)
            replace g4 := Lib.hid (g4.out hnt.out)
            generalize (numD D).1 = n at *
            obtain ⟨N, hN⟩ := hidE (n : Int)
            have hN0 : 0 ≤ N ∧ N ≤ 2147483647 := by rw [hN.out]; omega
            rw [← hN.out]
            clear hle hw2 hl1 hl2
            by_cases hn1 : n1 = 0
            · obtain ⟨hend, hTw⟩ := g3.out hn1
              have hqe : q = bs.length := by rw [hqk.out, hend]
              subst hqe
              subst hn1
              rw [← hN.out] at hTw
              replace hTw := Lib.hid hTw
              clear g1 g3 g4 hend
              go_wp2
              go_ret3
              rw [hTw.out]
              exact ⟨by simp [signI], Below.refl _ _⟩
            · obtain ⟨hlt2, hD2, hTp⟩ := g4.out hn1
              have hn1e : n1 = 1 := by omega
              subst hn1e
              have hqb : q < bs.length := by rw [hqk.out]; exact hlt2
              have hck := h.out q hqb
              have h46 : bs[q] = 46 := by
                have e := g1.out hlt2
                rw [← hqk.out, List.getElem?_eq_getElem hqb] at e
                exact Option.some.inj e
              rw [h46] at hck
              rw [← hN.out] at hTp
              clear h46 hlt2 g1 g3 g4
              rw [← hqk.out] at hD2 hTp
              replace hTp := Lib.hid hTp
              have hd2in : Hid (∀ k, ∀ hk : k < (digs bs (q + 1)).length, bs[q + 1 + k]? = some (digs bs (q + 1))[k] ∧ isD (digs bs (q + 1))[k] = true) := Lib.hid (fun k hk => digs_in hk)
              have hbd := Lib.hid (frac_bd (digs bs (q + 1)) digs_all)
              generalize digs bs (q + 1) = E at *
              go_wp2
              go_loop [12, 13] (fun fv kv => ∃ k : Nat, k ≤ 5 ∧ kv = .int .i64 k ∧ fv = .int .i64 (valD (E.take k) * 10 ^ (k - E.length) : Nat)) (fun _ kv => 5 - (RowKit.intOf kv).toNat)
              case atStart => exact ⟨0, by omega, by rfl, by simp [valD]⟩
              case round =>
                obtain ⟨k, hk, rfl, rfl⟩ := hrel
                by_cases hk5 : k < 5
                · have hb1 : valD (E.take k) * 10 ^ (k - E.length) ≤ 9999 := by
                    have h1 := hbd.out k
                    have h2 : 10 ^ k ≤ 10 ^ 4 := Nat.pow_le_pow_right (by omega) (by omega)
                    omega
                  obtain ⟨hf1, hf2⟩ := frac_go E k
                  replace hf1 := Lib.hid hf1
                  replace hf2 := Lib.hid hf2
                  generalize valD (E.take k) * 10 ^ (k - E.length) = m at *
                  obtain ⟨M, hM⟩ := hidE (m : Int)
                  have hM0 : 0 ≤ M ∧ M ≤ 9999 := by rw [hM.out]; omega
                  rw [← hM.out]
                  clear hb1
                  by_cases hke : k < E.length
                  · obtain ⟨hd1, hd2⟩ := hd2in.out k hke
                    have hqk2 : q + 1 + k < bs.length := by omega
                    have hck2 := h.out (q + 1 + k) hqk2
                    have hbd2 : bs[q + 1 + k] = E[k] := by
                      rw [List.getElem?_eq_getElem hqk2] at hd1
                      exact Option.some.inj hd1
                    rw [hbd2] at hck2
                    have hf3 := Lib.hid (hf1.out hke)
                    clear hbd2 hd1 hd2in hf1 hf2
                    generalize E[k] = x at *
                    have hx : 48 ≤ (x.toNat : Int) ∧ (x.toNat : Int) ≤ 57 := by
                      unfold isD at hd2
                      have := (Bool.and_eq_true_iff.1 hd2)
                      have h1 := of_decide_eq_true this.1
                      have h2 := of_decide_eq_true this.2
                      omega
                    obtain ⟨hx1, hx2⟩ := hx
                    clear hd2
                    go_wp2
                    have e := hf3.out
                    refine ⟨⟨k + 1, by omega, by rfl, by rw [e]; congr 1; have := hM.out; omega⟩, by simp only [RowKit.intOf]; omega⟩
                  · have hf3 := Lib.hid (hf2.out hke)
                    clear hf1 hf2 hd2in
                    go_wp2
                    have e := hf3.out
                    refine ⟨⟨k + 1, by omega, by rfl, by rw [e]; congr 1; have := hM.out; omega⟩, by simp only [RowKit.intOf]; omega⟩
                · have hk5 : k = 5 := by omega
                  subst hk5
                  have hb1 : fracD E ≤ 99999 := by
                    have h1 := hbd.out 5
                    unfold fracD
                    omega
                  change _ at hk
                  rw [show valD (E.take 5) * 10 ^ (5 - E.length) = fracD E from rfl]
                  generalize fracD E = m at *
                  obtain ⟨M, hM⟩ := hidE (m : Int)
                  have hM0 : 0 ≤ M ∧ M ≤ 99999 := by rw [hM.out]; omega
                  rw [← hM.out]
                  clear hb1 hd2in hbd
                  go_wp2
                  go_ret3
                  rw [hTp.out, ← hM.out]
                  exact ⟨by simp [signI], Below.refl _ _⟩
set_option maxHeartbeats 4000000 in
set_option maxRecDepth 100000 in
theorem rp_plus {w : World} {b o c : Nat} {bs : List UInt8} (h : ∀ i (h : i < bs.length), w.cell? ⟨b, o + i, none⟩ = some (.int .u8 (bs[i].toNat : Int))) (h0 : 0 < bs.length) (hc : bs.length ≤ c) (hs : bs.length ≤ 100000)
    (hs0 : bs[0] = 43) :
    Calls Tryd.prog 13 #[.slice (some ⟨b, o, none⟩) bs.length c] w fun e w' => e = .returned (.tuple #[.int .i64 (parseS bs).1, .bool (parseS bs).2.1, .int .i64 (parseS bs).2.2]) ∧ Below w.heap.size w w' := by
  have hR : parseS bs = parseP bs 1 false := by
    have e : bs[0]? = some 43 := by rw [List.getElem?_eq_getElem h0, hs0]
    have hsg : sgn bs = (1, false) := by unfold sgn; rw [e]; rfl
    rw [parseS_eq, hsg]
  have hbad := Lib.hid (parse_bad bs 1 false (by omega))
  have hfit := Lib.hid (parse_fit bs 1 false (by omega))
  rw [hR]
  obtain ⟨T, hT⟩ : ∃ T, T = parseP bs 1 false := ⟨_, rfl⟩
  rw [← hT] at hbad hfit ⊢
  clear hR hT
  have hc0 := h 0 h0
  rw [Nat.add_zero] at hc0
  rw [hs0] at hc0
  clear hs0
  replace h := Lib.hid h
  skip
  go_enter Tryd.func13, Tryd.ntmps13
  go_wp2
  go_loop [7, 8, 9] (fun pv dv iv => ∃ q : Nat, 1 ≤ q ∧ q ≤ bs.length ∧ iv = .int .i64 q ∧ pv = .int .i64 (((bs.drop 1).take (q - 1)).countP isP : Nat) ∧ dv = .int .i64 (((bs.drop 1).take (q - 1)).countP isD : Nat) ∧ ∀ b ∈ (bs.drop 1).take (q - 1), isD b = true ∨ isP b = true) (fun _ _ iv => bs.length - (RowKit.intOf iv).toNat)
  case atStart => exact ⟨1, Nat.le_refl _, by omega, by rfl, by simp, by simp, fun b hb => by simp at hb⟩
  case round =>
    obtain ⟨q, hq0, hq, rfl, rfl, rfl, hall⟩ := hrel
    replace hall := Lib.hid hall
    have hl1 := cnt_le isP bs 1 (q - 1)
    have hl2 := cnt_le isD bs 1 (q - 1)
    by_cases hlt : q < bs.length
    · have hck := h.out q hlt
      obtain ⟨hn1, hn2⟩ := take_next bs 1 q hq0 hlt
      replace hn1 := Lib.hid hn1
      replace hn2 := Lib.hid hn2
      have hstep := Lib.hid (show ((bs.drop 1).take (q + 1 - 1)).countP isP = ((bs.drop 1).take (q - 1)).countP isP + (if isP bs[q] then 1 else 0) ∧ ((bs.drop 1).take (q + 1 - 1)).countP isD = ((bs.drop 1).take (q - 1)).countP isD + (if isD bs[q] then 1 else 0) by
        rw [hn1.out, List.countP_append, List.countP_append, List.countP_singleton, List.countP_singleton]; exact ⟨rfl, rfl⟩)
      generalize hxx : bs[q] = x at *
      replace hxx := Lib.hid hxx
      generalize ((bs.drop 1).take (q - 1)).countP isP = n1 at *
      generalize ((bs.drop 1).take (q - 1)).countP isD = n2 at *
      clear hq0 hc0 hc
      have hx0 := u8_lt x
      by_cases h46 : (x.toNat : Int) = 46
      · have hip : isP x = true := by
          have : x.toNat = 46 := by omega
          have : x = 46 := UInt8.toNat_inj.1 (by rw [this]; rfl)
          rw [this]; rfl
        have hid' : isD x = false := by unfold isD; have : x.toNat = 46 := by omega
                                        rw [this]; rfl
        rw [hip, hid'] at hstep
        replace hip := Lib.hid hip
        go_wp2
        refine ⟨⟨q + 1, by omega, by omega, by rfl, by rw [hstep.out.1]; rfl, by rw [hstep.out.2]; rfl, ?_⟩, by simp only [RowKit.intOf]; omega⟩
        rw [hn1.out]
        intro z hz
        rcases List.mem_append.1 hz with hz | hz
        · exact hall.out z hz
        · rw [List.mem_singleton.1 hz]; exact .inr hip.out
      · have hip : isP x = false := by
          unfold isP
          rw [beq_eq_false_iff_ne]
          intro e; rw [e] at h46; exact h46 rfl
        by_cases hdg : 48 ≤ (x.toNat : Int) ∧ (x.toNat : Int) ≤ 57
        · have hid' : isD x = true := by
            unfold isD
            rw [decide_eq_true (show 48 ≤ x.toNat by omega), decide_eq_true (show x.toNat ≤ 57 by omega)]; rfl
          rw [hip, hid'] at hstep
          replace hid' := Lib.hid hid'
          obtain ⟨hdg1, hdg2⟩ := hdg
          go_wp2
          refine ⟨⟨q + 1, by omega, by omega, by rfl, by rw [hstep.out.1]; rfl, by rw [hstep.out.2]; rfl, ?_⟩, by simp only [RowKit.intOf]; omega⟩
          rw [hn1.out]
          intro z hz
          rcases List.mem_append.1 hz with hz | hz
          · exact hall.out z hz
          · rw [List.mem_singleton.1 hz]; exact .inl hid'.out
        · have hid' : isD x = false := by
            unfold isD
            by_cases h48 : 48 ≤ x.toNat
            · rw [decide_eq_false (show ¬ x.toNat ≤ 57 by omega)]; simp
            · rw [decide_eq_false h48]; rfl
          have hTb := Lib.hid (hbad.out x hn2.out hid' hip)
          have hdg2 : (x.toNat : Int) < 48 ∨ 57 < (x.toNat : Int) := by omega
          clear hdg
          rcases hdg2 with hdg2 | hdg2
          · go_wp2
            go_ret3
            rw [hTb.out]
            exact ⟨rfl, Below.refl _ _⟩
          · go_wp2
            go_ret3
            rw [hTb.out]
            exact ⟨rfl, Below.refl _ _⟩
    · have hqe : q = bs.length := by omega
      subst hqe
      have hfull : (bs.drop 1).take (bs.length - 1) = bs.drop 1 := List.take_of_length_le (by rw [List.length_drop]; omega)
      rw [hfull] at hall hl1 hl2 ⊢
      have hf := hfit.out hall.out
      clear hfit hbad hfull hall hc0 hq0
      obtain ⟨hf1, hf2⟩ := hf
      generalize (bs.drop 1).countP isP = n1 at *
      generalize (bs.drop 1).countP isD = n2 at *
      by_cases hw : 1 < n1 ∨ n2 = 0
      · have hTb := Lib.hid (hf1 hw)
        clear hf1 hf2
        by_cases hw1 : 1 < n1
        · clear hw
          go_wp2
          go_ret3
          rw [hTb.out]
          exact ⟨rfl, Below.refl _ _⟩
        · have hw2 : n2 = 0 := by omega
          subst hw2
          clear hw
          go_wp2
          go_ret3
          rw [hTb.out]
          exact ⟨rfl, Below.refl _ _⟩
      · obtain ⟨g1, g2, g3, g4⟩ := hf2 hw
        clear hf1 hf2
        have hw1 : n1 ≤ 1 := by omega
        have hw2 : 0 < n2 := by omega
        clear hw
        replace g3 := Lib.hid g3
        replace g4 := Lib.hid g4
        replace g1 := Lib.hid g1
        replace g2 := Lib.hid g2
        have hDl : 1 + (digs bs 1).length ≤ bs.length := by
          have : (digs bs 1).length ≤ (bs.drop 1).length := (List.takeWhile_sublist _).length_le
          rw [List.length_drop] at this
          omega
        have hdin : Hid (∀ k, ∀ hk : k < (digs bs 1).length, bs[1 + k]? = some (digs bs 1)[k] ∧ isD (digs bs 1)[k] = true) := Lib.hid (fun k hk => digs_in hk)
        have hstop := Lib.hid (num_stop (digs bs 1))
        have hgo := Lib.hid (num_go (digs bs 1))
        have hnle := Lib.hid (fun k => numD_le ((digs bs 1).take k) (0, true) (by omega))
        generalize digs bs 1 = D at *
        go_wp2
        · rename _ ∨ _ => hx
          rcases hx with hx | hx
          · omega
          · simp at hx; omega
        go_loop [10, 11] (fun nv iv => ∃ q k : Nat, Hid (q = 1 + k) ∧ k ≤ D.length ∧ iv = .int .i64 q ∧ nv = .int .i64 ((numD (D.take k)).1 : Nat) ∧ Hid ((numD (D.take k)).2 = true)) (fun _ iv => bs.length - (RowKit.intOf iv).toNat)
        case atStart => exact ⟨1, 0, Lib.hid rfl, Nat.zero_le _, by rfl, by rfl, Lib.hid rfl⟩
        case round =>
          obtain ⟨q, k, hqk, hk, rfl, rfl, hnt⟩ := hrel
          by_cases hlt : k < D.length
          · have hqb : q < bs.length := by rw [hqk.out]; omega
            obtain ⟨hd1, hd2⟩ := hdin.out k hlt
            have hst := Lib.hid (hstop.out k hlt)
            have hgg := Lib.hid (hgo.out k hlt hnt.out)
            have hle : (numD (D.take k)).1 ≤ 2147483647 := hnle.out k
            have hck := h.out q hqb
            have hbd : bs[q] = D[k] := by
              have e : bs[q]? = some D[k] := by rw [hqk.out]; exact hd1
              rw [List.getElem?_eq_getElem hqb] at e
              exact Option.some.inj e
            rw [hbd] at hck
            clear hbd hd1 hdin
            generalize D[k] = x at *
            generalize (numD (D.take k)).1 = n at *
            have hx : 48 ≤ (x.toNat : Int) ∧ (x.toNat : Int) ≤ 57 := by
              unfold isD at hd2
              have := (Bool.and_eq_true_iff.1 hd2)
              have h1 := of_decide_eq_true this.1
              have h2 := of_decide_eq_true this.2
              omega
            obtain ⟨hx1, hx2⟩ := hx
            clear hd2
            obtain ⟨N, hN⟩ := hidE (n : Int)
            have hN0 : 0 ≤ N ∧ N ≤ 2147483647 := by rw [hN.out]; omega
            rw [← hN.out]
            clear hle hstop hgo hnle
            go_wp2
            · rename _ < _ => hgt
              go_ret3
              rw [g2.out (hst.out (by have := hN.out; omega))]
              exact ⟨rfl, Below.refl _ _⟩
            · rename _ ≤ _ => hgt
              have e := hgg.out (by have := hN.out; omega)
              refine ⟨⟨q + 1, k + 1, Lib.hid (by rw [hqk.out]; omega), by omega, by rfl, by rw [e]; congr 1; have := hN.out; simp only; omega, Lib.hid (by rw [e])⟩, by simp only [RowKit.intOf]; omega⟩
          · have hke : k = D.length := by omega
            subst hke
            rw [List.take_length] at hnt ⊢
            have hle := hnle.out D.length
            rw [List.take_length] at hle
            change (numD D).1 ≤ 2147483647 at hle
            clear hdin hstop hgo hnle g2
            replace g3 := Lib.hid (g3.out hnt.out)
            replace g4 := Lib.hid (g4.out hnt.out)
            generalize (numD D).1 = n at *
            obtain ⟨N, hN⟩ := hidE (n : Int)
            have hN0 : 0 ≤ N ∧ N ≤ 2147483647 := by rw [hN.out]; omega
            rw [← hN.out]
            clear hle hw2 hl1 hl2
            by_cases hn1 : n1 = 0
            · obtain ⟨hend, hTw⟩ := g3.out hn1
              have hqe : q = bs.length := by rw [hqk.out, hend]
              subst hqe
              subst hn1
              rw [← hN.out] at hTw
              replace hTw := Lib.hid hTw
              clear g1 g3 g4 hend
              go_wp2
              go_ret3
              rw [hTw.out]
              exact ⟨by simp [signI], Below.refl _ _⟩
            · obtain ⟨hlt2, hD2, hTp⟩ := g4.out hn1
              have hn1e : n1 = 1 := by omega
              subst hn1e
              have hqb : q < bs.length := by rw [hqk.out]; exact hlt2
              have hck := h.out q hqb
              have h46 : bs[q] = 46 := by
                have e := g1.out hlt2
                rw [← hqk.out, List.getElem?_eq_getElem hqb] at e
                exact Option.some.inj e
              rw [h46] at hck
              rw [← hN.out] at hTp
              clear h46 hlt2 g1 g3 g4
              rw [← hqk.out] at hD2 hTp
              replace hTp := Lib.hid hTp
              have hd2in : Hid (∀ k, ∀ hk : k < (digs bs (q + 1)).length, bs[q + 1 + k]? = some (digs bs (q + 1))[k] ∧ isD (digs bs (q + 1))[k] = true) := Lib.hid (fun k hk => digs_in hk)
              have hbd := Lib.hid (frac_bd (digs bs (q + 1)) digs_all)
              generalize digs bs (q + 1) = E at *
              go_wp2
              go_loop [12, 13] (fun fv kv => ∃ k : Nat, k ≤ 5 ∧ kv = .int .i64 k ∧ fv = .int .i64 (valD (E.take k) * 10 ^ (k - E.length) : Nat)) (fun _ kv => 5 - (RowKit.intOf kv).toNat)
              case atStart => exact ⟨0, by omega, by rfl, by simp [valD]⟩
              case round =>
                obtain ⟨k, hk, rfl, rfl⟩ := hrel
                by_cases hk5 : k < 5
                · have hb1 : valD (E.take k) * 10 ^ (k - E.length) ≤ 9999 := by
                    have h1 := hbd.out k
                    have h2 : 10 ^ k ≤ 10 ^ 4 := Nat.pow_le_pow_right (by omega) (by omega)
                    omega
                  obtain ⟨hf1, hf2⟩ := frac_go E k
                  replace hf1 := Lib.hid hf1
                  replace hf2 := Lib.hid hf2
                  generalize valD (E.take k) * 10 ^ (k - E.length) = m at *
                  obtain ⟨M, hM⟩ := hidE (m : Int)
                  have hM0 : 0 ≤ M ∧ M ≤ 9999 := by rw [hM.out]; omega
                  rw [← hM.out]
                  clear hb1
                  by_cases hke : k < E.length
                  · obtain ⟨hd1, hd2⟩ := hd2in.out k hke
                    have hqk2 : q + 1 + k < bs.length := by omega
                    have hck2 := h.out (q + 1 + k) hqk2
                    have hbd2 : bs[q + 1 + k] = E[k] := by
                      rw [List.getElem?_eq_getElem hqk2] at hd1
                      exact Option.some.inj hd1
                    rw [hbd2] at hck2
                    have hf3 := Lib.hid (hf1.out hke)
                    clear hbd2 hd1 hd2in hf1 hf2
                    generalize E[k] = x at *
                    have hx : 48 ≤ (x.toNat : Int) ∧ (x.toNat : Int) ≤ 57 := by
                      unfold isD at hd2
                      have := (Bool.and_eq_true_iff.1 hd2)
                      have h1 := of_decide_eq_true this.1
                      have h2 := of_decide_eq_true this.2
                      omega
                    obtain ⟨hx1, hx2⟩ := hx
                    clear hd2
                    go_wp2
                    have e := hf3.out
                    refine ⟨⟨k + 1, by omega, by rfl, by rw [e]; congr 1; have := hM.out; omega⟩, by simp only [RowKit.intOf]; omega⟩
                  · have hf3 := Lib.hid (hf2.out hke)
                    clear hf1 hf2 hd2in
                    go_wp2
                    have e := hf3.out
                    refine ⟨⟨k + 1, by omega, by rfl, by rw [e]; congr 1; have := hM.out; omega⟩, by simp only [RowKit.intOf]; omega⟩
                · have hk5 : k = 5 := by omega
                  subst hk5
                  have hb1 : fracD E ≤ 99999 := by
                    have h1 := hbd.out 5
                    unfold fracD
                    omega
                  change _ at hk
                  rw [show valD (E.take 5) * 10 ^ (5 - E.length) = fracD E from rfl]
                  generalize fracD E = m at *
                  obtain ⟨M, hM⟩ := hidE (m : Int)
                  have hM0 : 0 ≤ M ∧ M ≤ 99999 := by rw [hM.out]; omega
                  rw [← hM.out]
                  clear hb1 hd2in hbd
                  go_wp2
                  go_ret3
                  rw [hTp.out, ← hM.out]
                  exact ⟨by simp [signI], Below.refl _ _⟩
set_option maxHeartbeats 4000000 in
set_option maxRecDepth 100000 in
theorem rp_minus {w : World} {b o c : Nat} {bs : List UInt8} (h : ∀ i (h : i < bs.length), w.cell? ⟨b, o + i, none⟩ = some (.int .u8 (bs[i].toNat : Int))) (h0 : 0 < bs.length) (hc : bs.length ≤ c) (hs : bs.length ≤ 100000)
    (hs0 : bs[0] = 45) :
    Calls Tryd.prog 13 #[.slice (some ⟨b, o, none⟩) bs.length c] w fun e w' => e = .returned (.tuple #[.int .i64 (parseS bs).1, .bool (parseS bs).2.1, .int .i64 (parseS bs).2.2]) ∧ Below w.heap.size w w' := by
  have hR : parseS bs = parseP bs 1 true := by
    have e : bs[0]? = some 45 := by rw [List.getElem?_eq_getElem h0, hs0]
    have hsg : sgn bs = (1, true) := by unfold sgn; rw [e]; rfl
    rw [parseS_eq, hsg]
  have hbad := Lib.hid (parse_bad bs 1 true (by omega))
  have hfit := Lib.hid (parse_fit bs 1 true (by omega))
  rw [hR]
  obtain ⟨T, hT⟩ : ∃ T, T = parseP bs 1 true := ⟨_, rfl⟩
  rw [← hT] at hbad hfit ⊢
  clear hR hT
  have hc0 := h 0 h0
  rw [Nat.add_zero] at hc0
  rw [hs0] at hc0
  clear hs0
  replace h := Lib.hid h
  skip
  go_enter Tryd.func13, Tryd.ntmps13
  go_wp2
  go_loop [7, 8, 9] (fun pv dv iv => ∃ q : Nat, 1 ≤ q ∧ q ≤ bs.length ∧ iv = .int .i64 q ∧ pv = .int .i64 (((bs.drop 1).take (q - 1)).countP isP : Nat) ∧ dv = .int .i64 (((bs.drop 1).take (q - 1)).countP isD : Nat) ∧ ∀ b ∈ (bs.drop 1).take (q - 1), isD b = true ∨ isP b = true) (fun _ _ iv => bs.length - (RowKit.intOf iv).toNat)
  case atStart => exact ⟨1, Nat.le_refl _, by omega, by rfl, by simp, by simp, fun b hb => by simp at hb⟩
  case round =>
    obtain ⟨q, hq0, hq, rfl, rfl, rfl, hall⟩ := hrel
    replace hall := Lib.hid hall
    have hl1 := cnt_le isP bs 1 (q - 1)
    have hl2 := cnt_le isD bs 1 (q - 1)
    by_cases hlt : q < bs.length
    · have hck := h.out q hlt
      obtain ⟨hn1, hn2⟩ := take_next bs 1 q hq0 hlt
      replace hn1 := Lib.hid hn1
      replace hn2 := Lib.hid hn2
      have hstep := Lib.hid (show ((bs.drop 1).take (q + 1 - 1)).countP isP = ((bs.drop 1).take (q - 1)).countP isP + (if isP bs[q] then 1 else 0) ∧ ((bs.drop 1).take (q + 1 - 1)).countP isD = ((bs.drop 1).take (q - 1)).countP isD + (if isD bs[q] then 1 else 0) by
        rw [hn1.out, List.countP_append, List.countP_append, List.countP_singleton, List.countP_singleton]; exact ⟨rfl, rfl⟩)
      generalize hxx : bs[q] = x at *
      replace hxx := Lib.hid hxx
      generalize ((bs.drop 1).take (q - 1)).countP isP = n1 at *
      generalize ((bs.drop 1).take (q - 1)).countP isD = n2 at *
      clear hq0 hc0 hc
      have hx0 := u8_lt x
      by_cases h46 : (x.toNat : Int) = 46
      · have hip : isP x = true := by
          have : x.toNat = 46 := by omega
          have : x = 46 := UInt8.toNat_inj.1 (by rw [this]; rfl)
          rw [this]; rfl
        have hid' : isD x = false := by unfold isD; have : x.toNat = 46 := by omega
                                        rw [this]; rfl
        rw [hip, hid'] at hstep
        replace hip := Lib.hid hip
        go_wp2
        refine ⟨⟨q + 1, by omega, by omega, by rfl, by rw [hstep.out.1]; rfl, by rw [hstep.out.2]; rfl, ?_⟩, by simp only [RowKit.intOf]; omega⟩
        rw [hn1.out]
        intro z hz
        rcases List.mem_append.1 hz with hz | hz
        · exact hall.out z hz
        · rw [List.mem_singleton.1 hz]; exact .inr hip.out
      · have hip : isP x = false := by
          unfold isP
          rw [beq_eq_false_iff_ne]
          intro e; rw [e] at h46; exact h46 rfl
        by_cases hdg : 48 ≤ (x.toNat : Int) ∧ (x.toNat : Int) ≤ 57
        · have hid' : isD x = true := by
            unfold isD
            rw [decide_eq_true (show 48 ≤ x.toNat by omega), decide_eq_true (show x.toNat ≤ 57 by omega)]; rfl
          rw [hip, hid'] at hstep
          replace hid' := Lib.hid hid'
          obtain ⟨hdg1, hdg2⟩ := hdg
          go_wp2
          refine ⟨⟨q + 1, by omega, by omega, by rfl, by rw [hstep.out.1]; rfl, by rw [hstep.out.2]; rfl, ?_⟩, by simp only [RowKit.intOf]; omega⟩
          rw [hn1.out]
          intro z hz
          rcases List.mem_append.1 hz with hz | hz
          · exact hall.out z hz
          · rw [List.mem_singleton.1 hz]; exact .inl hid'.out
        · have hid' : isD x = false := by
            unfold isD
            by_cases h48 : 48 ≤ x.toNat
            · rw [decide_eq_false (show ¬ x.toNat ≤ 57 by omega)]; simp
            · rw [decide_eq_false h48]; rfl
          have hTb := Lib.hid (hbad.out x hn2.out hid' hip)
          have hdg2 : (x.toNat : Int) < 48 ∨ 57 < (x.toNat : Int) := by omega
          clear hdg
          rcases hdg2 with hdg2 | hdg2
          · go_wp2
            go_ret3
            rw [hTb.out]
            exact ⟨rfl, Below.refl _ _⟩
          · go_wp2
            go_ret3
            rw [hTb.out]
            exact ⟨rfl, Below.refl _ _⟩
    · have hqe : q = bs.length := by omega
      subst hqe
      have hfull : (bs.drop 1).take (bs.length - 1) = bs.drop 1 := List.take_of_length_le (by rw [List.length_drop]; omega)
      rw [hfull] at hall hl1 hl2 ⊢
      have hf := hfit.out hall.out
      clear hfit hbad hfull hall hc0 hq0
      obtain ⟨hf1, hf2⟩ := hf
      generalize (bs.drop 1).countP isP = n1 at *
      generalize (bs.drop 1).countP isD = n2 at *
      by_cases hw : 1 < n1 ∨ n2 = 0
      · have hTb := Lib.hid (hf1 hw)
        clear hf1 hf2
        by_cases hw1 : 1 < n1
        · clear hw
          go_wp2
          go_ret3
          rw [hTb.out]
          exact ⟨rfl, Below.refl _ _⟩
        · have hw2 : n2 = 0 := by omega
          subst hw2
          clear hw
          go_wp2
          go_ret3
          rw [hTb.out]
          exact ⟨rfl, Below.refl _ _⟩
      · obtain ⟨g1, g2, g3, g4⟩ := hf2 hw
        clear hf1 hf2
        have hw1 : n1 ≤ 1 := by omega
        have hw2 : 0 < n2 := by omega
        clear hw
        replace g3 := Lib.hid g3
        replace g4 := Lib.hid g4
        replace g1 := Lib.hid g1
        replace g2 := Lib.hid g2
        have hDl : 1 + (digs bs 1).length ≤ bs.length := by
          have : (digs bs 1).length ≤ (bs.drop 1).length := (List.takeWhile_sublist _).length_le
          rw [List.length_drop] at this
          omega
        have hdin : Hid (∀ k, ∀ hk : k < (digs bs 1).length, bs[1 + k]? = some (digs bs 1)[k] ∧ isD (digs bs 1)[k] = true) := Lib.hid (fun k hk => digs_in hk)
        have hstop := Lib.hid (num_stop (digs bs 1))
        have hgo := Lib.hid (num_go (digs bs 1))
        have hnle := Lib.hid (fun k => numD_le ((digs bs 1).take k) (0, true) (by omega))
        generalize digs bs 1 = D at *
        go_wp2
        · rename _ ∨ _ => hx
          rcases hx with hx | hx
          · omega
          · simp at hx; omega
        go_loop [10, 11] (fun nv iv => ∃ q k : Nat, Hid (q = 1 + k) ∧ k ≤ D.length ∧ iv = .int .i64 q ∧ nv = .int .i64 ((numD (D.take k)).1 : Nat) ∧ Hid ((numD (D.take k)).2 = true)) (fun _ iv => bs.length - (RowKit.intOf iv).toNat)
        case atStart => exact ⟨1, 0, Lib.hid rfl, Nat.zero_le _, by rfl, by rfl, Lib.hid rfl⟩
        case round =>
          obtain ⟨q, k, hqk, hk, rfl, rfl, hnt⟩ := hrel
          by_cases hlt : k < D.length
          · have hqb : q < bs.length := by rw [hqk.out]; omega
            obtain ⟨hd1, hd2⟩ := hdin.out k hlt
            have hst := Lib.hid (hstop.out k hlt)
            have hgg := Lib.hid (hgo.out k hlt hnt.out)
            have hle : (numD (D.take k)).1 ≤ 2147483647 := hnle.out k
            have hck := h.out q hqb
            have hbd : bs[q] = D[k] := by
              have e : bs[q]? = some D[k] := by rw [hqk.out]; exact hd1
              rw [List.getElem?_eq_getElem hqb] at e
              exact Option.some.inj e
            rw [hbd] at hck
            clear hbd hd1 hdin
            generalize D[k] = x at *
            generalize (numD (D.take k)).1 = n at *
            have hx : 48 ≤ (x.toNat : Int) ∧ (x.toNat : Int) ≤ 57 := by
              unfold isD at hd2
              have := (Bool.and_eq_true_iff.1 hd2)
              have h1 := of_decide_eq_true this.1
              have h2 := of_decide_eq_true this.2
              omega
            obtain ⟨hx1, hx2⟩ := hx
            clear hd2
            obtain ⟨N, hN⟩ := hidE (n : Int)
            have hN0 : 0 ≤ N ∧ N ≤ 2147483647 := by rw [hN.out]; omega
            rw [← hN.out]
            clear hle hstop hgo hnle
            go_wp2
            · rename _ < _ => hgt
              go_ret3
              rw [g2.out (hst.out (by have := hN.out; omega))]
              exact ⟨rfl, Below.refl _ _⟩
            · rename _ ≤ _ => hgt
              have e := hgg.out (by have := hN.out; omega)
              refine ⟨⟨q + 1, k + 1, Lib.hid (by rw [hqk.out]; omega), by omega, by rfl, by rw [e]; congr 1; have := hN.out; simp only; omega, Lib.hid (by rw [e])⟩, by simp only [RowKit.intOf]; omega⟩
          · have hke : k = D.length := by omega
            subst hke
            rw [List.take_length] at hnt ⊢
            have hle := hnle.out D.length
            rw [List.take_length] at hle
            change (numD D).1 ≤ 2147483647 at hle
            clear hdin hstop hgo hnle g2
            replace g3 := Lib.hid (g3.out hnt.out)
            replace g4 := Lib.hid (g4.out hnt.out)
            generalize (numD D).1 = n at *
            obtain ⟨N, hN⟩ := hidE (n : Int)
            have hN0 : 0 ≤ N ∧ N ≤ 2147483647 := by rw [hN.out]; omega
            rw [← hN.out]
            clear hle hw2 hl1 hl2
            by_cases hn1 : n1 = 0
            · obtain ⟨hend, hTw⟩ := g3.out hn1
              have hqe : q = bs.length := by rw [hqk.out, hend]
              subst hqe
              subst hn1
              rw [← hN.out] at hTw
              replace hTw := Lib.hid hTw
              clear g1 g3 g4 hend
              go_wp2
              go_ret3
              rw [hTw.out]
              exact ⟨by simp [signI], Below.refl _ _⟩
            · obtain ⟨hlt2, hD2, hTp⟩ := g4.out hn1
              have hn1e : n1 = 1 := by omega
              subst hn1e
              have hqb : q < bs.length := by rw [hqk.out]; exact hlt2
              have hck := h.out q hqb
              have h46 : bs[q] = 46 := by
                have e := g1.out hlt2
                rw [← hqk.out, List.getElem?_eq_getElem hqb] at e
                exact Option.some.inj e
              rw [h46] at hck
              rw [← hN.out] at hTp
              clear h46 hlt2 g1 g3 g4
              rw [← hqk.out] at hD2 hTp
              replace hTp := Lib.hid hTp
              have hd2in : Hid (∀ k, ∀ hk : k < (digs bs (q + 1)).length, bs[q + 1 + k]? = some (digs bs (q + 1))[k] ∧ isD (digs bs (q + 1))[k] = true) := Lib.hid (fun k hk => digs_in hk)
              have hbd := Lib.hid (frac_bd (digs bs (q + 1)) digs_all)
              generalize digs bs (q + 1) = E at *
              go_wp2
              go_loop [12, 13] (fun fv kv => ∃ k : Nat, k ≤ 5 ∧ kv = .int .i64 k ∧ fv = .int .i64 (valD (E.take k) * 10 ^ (k - E.length) : Nat)) (fun _ kv => 5 - (RowKit.intOf kv).toNat)
              case atStart => exact ⟨0, by omega, by rfl, by simp [valD]⟩
              case round =>
                obtain ⟨k, hk, rfl, rfl⟩ := hrel
                by_cases hk5 : k < 5
                · have hb1 : valD (E.take k) * 10 ^ (k - E.length) ≤ 9999 := by
                    have h1 := hbd.out k
                    have h2 : 10 ^ k ≤ 10 ^ 4 := Nat.pow_le_pow_right (by omega) (by omega)
                    omega
                  obtain ⟨hf1, hf2⟩ := frac_go E k
                  replace hf1 := Lib.hid hf1
                  replace hf2 := Lib.hid hf2
                  generalize valD (E.take k) * 10 ^ (k - E.length) = m at *
                  obtain ⟨M, hM⟩ := hidE (m : Int)
                  have hM0 : 0 ≤ M ∧ M ≤ 9999 := by rw [hM.out]; omega
                  rw [← hM.out]
                  clear hb1
                  by_cases hke : k < E.length
                  · obtain ⟨hd1, hd2⟩ := hd2in.out k hke
                    have hqk2 : q + 1 + k < bs.length := by omega
                    have hck2 := h.out (q + 1 + k) hqk2
                    have hbd2 : bs[q + 1 + k] = E[k] := by
                      rw [List.getElem?_eq_getElem hqk2] at hd1
                      exact Option.some.inj hd1
                    rw [hbd2] at hck2
                    have hf3 := Lib.hid (hf1.out hke)
                    clear hbd2 hd1 hd2in hf1 hf2
                    generalize E[k] = x at *
                    have hx : 48 ≤ (x.toNat : Int) ∧ (x.toNat : Int) ≤ 57 := by
                      unfold isD at hd2
                      have := (Bool.and_eq_true_iff.1 hd2)
                      have h1 := of_decide_eq_true this.1
                      have h2 := of_decide_eq_true this.2
                      omega
                    obtain ⟨hx1, hx2⟩ := hx
                    clear hd2
                    go_wp2
                    have e := hf3.out
                    refine ⟨⟨k + 1, by omega, by rfl, by rw [e]; congr 1; have := hM.out; omega⟩, by simp only [RowKit.intOf]; omega⟩
                  · have hf3 := Lib.hid (hf2.out hke)
                    clear hf1 hf2 hd2in
                    go_wp2
                    have e := hf3.out
                    refine ⟨⟨k + 1, by omega, by rfl, by rw [e]; congr 1; have := hM.out; omega⟩, by simp only [RowKit.intOf]; omega⟩
                · have hk5 : k = 5 := by omega
                  subst hk5
                  have hb1 : fracD E ≤ 99999 := by
                    have h1 := hbd.out 5
                    unfold fracD
                    omega
                  change _ at hk
                  rw [show valD (E.take 5) * 10 ^ (5 - E.length) = fracD E from rfl]
                  generalize fracD E = m at *
                  obtain ⟨M, hM⟩ := hidE (m : Int)
                  have hM0 : 0 ≤ M ∧ M ≤ 99999 := by rw [hM.out]; omega
                  rw [← hM.out]
                  clear hb1 hd2in hbd
                  go_wp2
                  go_ret3
                  rw [hTp.out, ← hM.out]
                  exact ⟨by simp [signI], Below.refl _ _⟩
set_option maxHeartbeats 1000000 in
set_option maxRecDepth 100000 in
theorem rp_nil {w : World} (A : Option Addr) (c : Nat) :
    Calls Tryd.prog 13 #[.slice A 0 c] w fun e w' => e = .returned (.tuple #[.int .i64 0, .bool false, .int .i64 4]) ∧ Below w.heap.size w w' := by
  go_enter Tryd.func13, Tryd.ntmps13
  go_wp2
  go_loop [7, 8, 9] (fun pv dv iv => iv = .int .i64 0 ∧ pv = .int .i64 0 ∧ dv = .int .i64 0) (fun _ _ _ => 0)
  case atStart => exact ⟨rfl, rfl, rfl⟩
  case round =>
    obtain ⟨rfl, rfl, rfl⟩ := hrel
    go_wp2
    go_ret3
    exact ⟨rfl, Below.refl _ _⟩
theorem ref_parse {w : World} {A : Option Addr} {c : Nat} {bs : List UInt8} (h : Byt w A bs) (hc : bs.length ≤ c) (hs : bs.length ≤ 100000) :
    Calls Tryd.prog 13 #[.slice A bs.length c] w fun e w' => e = .returned (.tuple #[.int .i64 (parseS bs).1, .bool (parseS bs).2.1, .int .i64 (parseS bs).2.2]) ∧ Below w.heap.size w w' := by
  by_cases h0 : 0 < bs.length
  · obtain ⟨b, o, rfl, hcell⟩ := h.2 h0
    by_cases e43 : bs[0] = 43
    · exact rp_plus hcell h0 hc hs e43
    · by_cases e45 : bs[0] = 45
      · exact rp_minus hcell h0 hc hs e45
      · refine rp_none hcell h0 hc hs (fun e => e43 ?_) (fun e => e45 ?_)
        · exact UInt8.toNat_inj.1 (by show bs[0].toNat = 43; omega)
        · exact UInt8.toNat_inj.1 (by show bs[0].toNat = 45; omega)
  · have e : bs = [] := List.length_eq_zero_iff.1 (by omega)
    subst e
    exact rp_nil A c
end Go.Proofs.YtbmcmilbmkdabaaDoor

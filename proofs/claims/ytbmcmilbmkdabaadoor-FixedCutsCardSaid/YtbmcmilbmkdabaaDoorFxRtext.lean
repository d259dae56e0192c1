/- Fixed: the contracts of the reference's digits and Text. No condition. -/
import Derived.Test.YtbmcmilbmkdabaaDoorFxText
namespace Go.Proofs.YtbmcmilbmkdabaaDoor
open Go Go.RowKit Go.Wk Go.Sort Go.Lib
theorem conv_one (w : World) (d : UInt8) (x : Int) (h : (d.toNat : Int) = x) : (convert 22 9 (.slice (some ⟨w.heap.size, 0, none⟩) 1 1)).run Tryd.prog (w.alloc (.cells #[.int .u8 x] 5)) = .ok (.string ⟨#[d]⟩) (w.alloc (.cells #[.int .u8 x] 5)) := by
  subst h
  have h := run_convert_bytes_back (P := Tryd.prog) (w.alloc (.cells #[.int .u8 (d.toNat : Int)] 5)) 22 9 5 ⟨w.heap.size, 0, none⟩ 1 [d] Tryd.underlying22 Tryd.underlying5 Tryd.underlying9 (fun j hj => by
    have : j = 0 := by simpa using hj
    subst this
    rw [Lib.add_plain, alloc_cell]; rfl)
  exact h
set_option maxHeartbeats 1000000 in
set_option maxRecDepth 100000 in
theorem ref_digits (u : Nat) (h : u < 18446744073709551616) (w : World) :
    Calls Tryd.prog 32 #[.int .u64 u] w fun e w' => e = .returned (str (decDigits u)) ∧ Below w.heap.size w w' := by
  obtain ⟨U, hU⟩ := hidE (u : Int)
  rw [← hU.out]
  have hlen : (decDigits u).length ≤ 20 := by
    rw [decDigits_length]
    by_cases h0 : u = 0
    · rw [h0, nDigits_small (by omega)]; omega
    · have := Lib.numDigits_eq u (by omega) h; split at this <;> omega
  generalize hD : decDigits u = D at *
  replace hD := Lib.hid hD
  go_enter Tryd.func32, Tryd.ntmps32
  go_wp2
  go_loopw [0, 3] (fun nv sv wr => ∃ (k : Nat) (l : List UInt8), nv = .int .u64 k ∧ sv = str l ∧ k < 18446744073709551616 ∧ D = decDigits k ++ l ∧ Below w.heap.size w wr) (fun nv _ _ => (RowKit.intOf nv).toNat)
  case atStart => exact ⟨u, [], by rw [hU.out], rfl, h, by rw [hD.out]; simp, Below.refl _ _⟩
  case round =>
    obtain ⟨k, l, rfl, rfl, hk, hDk, hb⟩ := hrel
    have hll : l.length ≤ 20 := by rw [hDk, List.length_append] at hlen; omega
    obtain ⟨K, hK⟩ := hidE (k : Int)
    have hK0 : 0 ≤ K ∧ K < 18446744073709551616 := by rw [hK.out]; omega
    rw [← hK.out]
    replace hDk := Lib.hid hDk
    replace hk := Lib.hid hk
    have hll2 : ¬ (9223372036854775807 < 1 + l.length) := by omega
    have hdig : ((UInt8.ofNat (48 + k % 10)).toNat : Int) = 48 + K % 10 := by
      rw [UInt8.toNat_ofNat_of_lt' (by have := Nat.mod_lt k (show 0 < 10 by omega); show 48 + k % 10 < 256; omega), hK.out]; omega
    have hcv := conv_one wr (UInt8.ofNat (48 + k % 10)) (48 + K % 10) hdig
    have HD := Lib.hid (show k < 10 → decDigits k = [UInt8.ofNat (48 + k % 10)] by intro h; rw [decDigits, dif_pos h, Nat.mod_eq_of_lt h])
    have HE := Lib.hid (show ¬ k < 10 → decDigits k = decDigits (k / 10) ++ [UInt8.ofNat (48 + k % 10)] by intro h; rw [decDigits, dif_neg h])
    generalize UInt8.ofNat (48 + k % 10) = d at *
    clear hlen hll hdig
    unfold str
    go_wp2
    · rename_i h0
      have hK1 := hK.out
      have h1 : K / 10 = 0 := by simpa using h0
      go_ret
      refine ⟨?_, hb.alloc (by have := hb.size; omega) _⟩
      have e : D = d :: l := by rw [hDk.out, HD.out (by omega)]; rfl
      rw [e]
      exact congrArg (fun b => Ending.returned (.string b)) (bytes_ext (by simp))
    · rename_i h0
      have hK1 := hK.out
      have h1 : ¬ K / 10 = 0 := by simpa using h0
      have hk1 := hk.out
      refine ⟨⟨k / 10, d :: l, by rw [hK1]; congr 1, ?_, by omega, ?_, hb.alloc (by have := hb.size; omega) _⟩, ?_⟩
      · exact congrArg Value.string (bytes_ext (by simp))
      · rw [hDk.out, HE.out (by omega), List.append_assoc]; rfl
      · simp only [RowKit.intOf]; omega
theorem byte_at (G : ByteArray) (i : Nat) (h : i < G.size) : G.data.toList[i]? = some G[i] := by
  have h2 : i < G.data.size := h
  rw [Array.getElem?_toList, Array.getElem?_eq_getElem h2]; rfl
theorem frac_cut (p : List UInt8) (k : Nat) (h1 : 1 ≤ k) (h5 : k ≤ p.length) (hz : ∀ j b, k ≤ j → p[j]? = some b → b = 48) (hl : k = 1 ∨ ∃ b, p[k - 1]? = some b ∧ b ≠ 48) : p.take k = p.take 1 ++ trimRightB (p.drop 1) 48 := by
  rw [trimRightB_take (p.drop 1) 48 (k - 1) (by rw [List.length_drop]; omega) ?_ ?_]
  · rw [← List.take_add]; congr 1; omega
  · intro j b hj hb
    rw [List.getElem?_drop] at hb
    exact hz (1 + j) b (by omega) hb
  · intro b hk hb
    rcases hl with rfl | ⟨b', hb', hne⟩
    · omega
    · rw [List.getElem?_drop, show 1 + (k - 1 - 1) = k - 1 by omega, hb'] at hb
      cases hb; exact hne
set_option maxHeartbeats 1000000 in
set_option maxRecDepth 100000 in
theorem ref_Text (n : Int) (h : i64 n) (whole : Bool) (w : World) :
    Calls Tryd.prog 15 #[.int .i64 n, .bool whole] w fun e w' => e = .returned (str (textL n whole)) ∧ Below w.heap.size w w' := by
  obtain ⟨m, hm⟩ : ∃ m, m = n.natAbs := ⟨_, rfl⟩
  obtain ⟨h1, h2⟩ := h
  have hm2 : m ≤ 9223372036854775808 := by omega
  obtain ⟨U, hU⟩ := hidE (m : Int)
  have hU0 : 0 ≤ U ∧ U ≤ 9223372036854775808 := by rw [hU.out]; omega
  cases whole with
  | true =>
    have c := fun w => ref_digits m (by omega) w
    rw [← hU.out] at c
    have hdl : (decDigits m).length ≤ 20 := by
      rw [decDigits_length]
      by_cases h0 : m = 0
      · rw [h0, nDigits_small (by omega)]; omega
      · have := Lib.numDigits_eq m (by omega) (by omega); split at this <;> omega
    have hS : textL n true = (if n < 0 then [45] else []) ++ decDigits m := by
      show itoa n = _
      unfold itoa
      split
      · rw [hm]; rfl
      · rw [show n.toNat = m by omega]; rfl
    rw [hS]
    generalize decDigits m = D at *
    by_cases hn : n < 0
    · have e1 := Lib.hid (show -(n + 1) + 1 = U by rw [hU.out]; omega)
      rw [if_pos hn]
      replace hm := Lib.hid hm
      clear hm2 hS
      go_enter Tryd.func15, Tryd.ntmps15
      go_wp2_with (go_at_call 32; rw [e1.out]; (with_reducible refine (c _).mono ?_); rintro e w1 ⟨rfl, hw1⟩; unfold str)
      go_ret
      exact ⟨congrArg (fun b => Ending.returned (.string b)) (bytes_ext (by simp)), hw1⟩
    · have e1 : IntKind.u64.wrap n = U := by rw [hU.out, IntKind.wrap_u64]; omega
      rw [if_neg hn]
      replace hm := Lib.hid hm
      clear hm2 hS
      go_enter Tryd.func15, Tryd.ntmps15
      go_wp2_with (go_at_call 32; (with_reducible refine (c _).mono ?_); rintro e w1 ⟨rfl, hw1⟩; unfold str)
      go_ret
      exact ⟨congrArg (fun b => Ending.returned (.string b)) (bytes_ext (by simp)), hw1⟩
  | false =>
    have c1 : ∀ w, Calls Tryd.prog 32 #[.int .u64 (100000 + U % 100000)] w fun e w' => e = .returned (str (decDigits (100000 + m % 100000))) ∧ Below w.heap.size w w' := by
      intro w; have := ref_digits (100000 + m % 100000) (by omega) w; rw [hU.out]
      rwa [show ((100000 + m % 100000 : Nat) : Int) = 100000 + (m : Int) % 100000 by omega] at this
    have c2 : ∀ w, Calls Tryd.prog 32 #[.int .u64 (U / 100000)] w fun e w' => e = .returned (str (decDigits (m / 100000))) ∧ Below w.heap.size w w' := by
      intro w; have := ref_digits (m / 100000) (by omega) w; rw [hU.out]
      rwa [show ((m / 100000 : Nat) : Int) = (m : Int) / 100000 by omega] at this
    have hDl : (decDigits (m / 100000)).length ≤ 20 := by
      rw [decDigits_length]
      by_cases h0 : m / 100000 = 0
      · rw [h0, nDigits_small (by omega)]; omega
      · have := Lib.numDigits_eq (m / 100000) (by omega) (by omega); split at this <;> omega
    obtain ⟨S, hS⟩ : ∃ S, S = textL n false := ⟨_, rfl⟩
    rw [← hS]
    replace hS := Lib.hid (show S = (if n < 0 then [45] else []) ++ (decDigits (m / 100000) ++ (46 :: fracL (m % 100000))) by rw [hS, hm]; rfl)
    have hsix := six (m % 100000) (Nat.mod_lt _ (by omega))
    have hfr := Lib.hid (show fracL (m % 100000) = ((decDigits (100000 + m % 100000)).drop 1).take 1 ++ trimRightB (((decDigits (100000 + m % 100000)).drop 1).drop 1) 48 from rfl)
    generalize fracL (m % 100000) = F at *
    generalize decDigits (100000 + m % 100000) = P at *
    generalize decDigits (m / 100000) = D at *
    have hPs : (⟨P.toArray⟩ : ByteArray).size = 6 := by show P.toArray.size = 6; rw [List.size_toArray]; exact hsix
    unfold str at c1
    obtain ⟨B, hB⟩ : ∃ B : ByteArray, B = ⟨P.toArray⟩ := ⟨_, rfl⟩
    rw [← hB] at c1 hPs
    replace hB := Lib.hid hB
    by_cases hn : n < 0
    · have e1 := Lib.hid (show -(n + 1) + 1 = U by rw [hU.out]; omega)
      replace hm := Lib.hid hm
      have hn2 := hn
      replace hn := Lib.hid hn
      have hsix2 := Lib.hid hsix
      clear hm2 hsix
      go_enter Tryd.func15, Tryd.ntmps15
      go_wp2_with (go_at_call 32; rw [e1.out]; (with_reducible refine (c1 _).mono ?_); rintro e w1 ⟨rfl, hw1⟩)
      have hp5 : (P.drop 1).length = 5 := by rw [List.length_drop, hsix2.out]
      have hEd : (B.extract 1 6).data.toList = P.drop 1 := by
        rw [bytes_cut, hB.out]
        show (P.take 6).drop 1 = _
        rw [List.take_of_length_le (by rw [hsix2.out]; omega)]
      generalize B.extract 1 6 = E at *
      generalize hPd : P.drop 1 = p at *
      replace hPd := Lib.hid hPd
      clear hPs
      go_loop [7] (fun f => ∃ (G : ByteArray) (k : Nat), f = .string G ∧ G.data.toList = p.take k ∧ 1 ≤ k ∧ k ≤ 5 ∧ ∀ j b, k ≤ j → p[j]? = some b → b = 48) (fun f => (match f with | .string g => g.size | _ => 0))
      case atStart => exact ⟨E, 5, rfl, by rw [hEd, List.take_of_length_le (by omega)], by omega, by omega, fun j b h1 h2 => by have := (List.getElem?_eq_some_iff.1 h2).1; omega⟩
      case round =>
        obtain ⟨G, k, rfl, hG, hk1, hk5, hz⟩ := hrel
        have hGs : G.size = k := by
          have : G.data.toList.length = G.size := by simp
          rw [← this, hG, List.length_take]; omega
        replace hz := Lib.hid hz
        replace hG := Lib.hid hG
        go_wp2_with (go_at_call 32; (with_reducible refine (c2 _).mono ?_); rintro e w2 ⟨rfl, hw2⟩; unfold str)
        · rename_i hk2 _ hb
          have hG' : (G.extract 0 (k - 1)).data.toList = p.take (k - 1) := by
            rw [bytes_cut, hG.out, List.drop_zero, List.take_take]; congr 1; omega
          refine ⟨⟨G.extract 0 (k - 1), k - 1, rfl, hG', by omega, by omega, fun j b hj hb2 => ?_⟩, ?_⟩
          · by_cases hjk : k ≤ j
            · exact hz.out j b hjk hb2
            · have hj2 : j = k - 1 := by omega
              subst hj2
              have hbb := byte_at G (k - 1) (by omega)
              rw [hG.out, List.getElem?_take_of_lt (by omega), hb2] at hbb
              have hbe : b = G[k - 1] := Option.some.inj hbb
              have : (G[k - 1].toNat : Int) = 48 := by simpa using hb
              rw [hbe]
              exact UInt8.toNat_inj.1 (by show _ = 48; omega)
          · show (G.extract 0 (k - 1)).size < G.size
            rw [ByteArray.size_extract]; omega
        · rename_i hk2 _ hb
          go_ret
          refine ⟨?_, bthen hw1 hw2⟩
          unfold str
          refine congrArg (fun b => Ending.returned (.string b)) (bytes_ext ?_)
          rw [hS.out, if_pos hn.out, hfr.out, ← frac_cut p k hk1 (by omega) hz.out ( .inr ⟨G[k - 1], by rw [← byte_at G (k - 1) (by omega), hG.out, List.getElem?_take_of_lt (by omega)], fun e => by rw [e] at hb; simp at hb⟩), ← hG.out, bytes_app, bytes_app, bytes_app]
          simp
        · rename_i hk2
          go_ret
          refine ⟨?_, bthen hw1 hw2⟩
          unfold str
          refine congrArg (fun b => Ending.returned (.string b)) (bytes_ext ?_)
          rw [hS.out, if_pos hn.out, hfr.out, ← frac_cut p k hk1 (by omega) hz.out (.inl (by omega)), ← hG.out, bytes_app, bytes_app, bytes_app]
          simp
    · have e1 : IntKind.u64.wrap n = U := by rw [hU.out, IntKind.wrap_u64]; omega
      replace hm := Lib.hid hm
      have hn2 := hn
      replace hn := Lib.hid hn
      have hsix2 := Lib.hid hsix
      clear hm2 hsix
      go_enter Tryd.func15, Tryd.ntmps15
      go_wp2_with (go_at_call 32; (with_reducible refine (c1 _).mono ?_); rintro e w1 ⟨rfl, hw1⟩)
      have hp5 : (P.drop 1).length = 5 := by rw [List.length_drop, hsix2.out]
      have hEd : (B.extract 1 6).data.toList = P.drop 1 := by
        rw [bytes_cut, hB.out]
        show (P.take 6).drop 1 = _
        rw [List.take_of_length_le (by rw [hsix2.out]; omega)]
      generalize B.extract 1 6 = E at *
      generalize hPd : P.drop 1 = p at *
      replace hPd := Lib.hid hPd
      clear hPs
      go_loop [7] (fun f => ∃ (G : ByteArray) (k : Nat), f = .string G ∧ G.data.toList = p.take k ∧ 1 ≤ k ∧ k ≤ 5 ∧ ∀ j b, k ≤ j → p[j]? = some b → b = 48) (fun f => (match f with | .string g => g.size | _ => 0))
      case atStart => exact ⟨E, 5, rfl, by rw [hEd, List.take_of_length_le (by omega)], by omega, by omega, fun j b h1 h2 => by have := (List.getElem?_eq_some_iff.1 h2).1; omega⟩
      case round =>
        obtain ⟨G, k, rfl, hG, hk1, hk5, hz⟩ := hrel
        have hGs : G.size = k := by
          have : G.data.toList.length = G.size := by simp
          rw [← this, hG, List.length_take]; omega
        replace hz := Lib.hid hz
        replace hG := Lib.hid hG
        go_wp2_with (go_at_call 32; (with_reducible refine (c2 _).mono ?_); rintro e w2 ⟨rfl, hw2⟩; unfold str)
        · rename_i hk2 _ hb
          have hG' : (G.extract 0 (k - 1)).data.toList = p.take (k - 1) := by
            rw [bytes_cut, hG.out, List.drop_zero, List.take_take]; congr 1; omega
          refine ⟨⟨G.extract 0 (k - 1), k - 1, rfl, hG', by omega, by omega, fun j b hj hb2 => ?_⟩, ?_⟩
          · by_cases hjk : k ≤ j
            · exact hz.out j b hjk hb2
            · have hj2 : j = k - 1 := by omega
              subst hj2
              have hbb := byte_at G (k - 1) (by omega)
              rw [hG.out, List.getElem?_take_of_lt (by omega), hb2] at hbb
              have hbe : b = G[k - 1] := Option.some.inj hbb
              have : (G[k - 1].toNat : Int) = 48 := by simpa using hb
              rw [hbe]
              exact UInt8.toNat_inj.1 (by show _ = 48; omega)
          · show (G.extract 0 (k - 1)).size < G.size
            rw [ByteArray.size_extract]; omega
        · rename_i hk2 _ hb
          go_ret
          refine ⟨?_, bthen hw1 hw2⟩
          unfold str
          refine congrArg (fun b => Ending.returned (.string b)) (bytes_ext ?_)
          rw [hS.out, if_neg (by have := hn.out; omega), hfr.out, ← frac_cut p k hk1 (by omega) hz.out ( .inr ⟨G[k - 1], by rw [← byte_at G (k - 1) (by omega), hG.out, List.getElem?_take_of_lt (by omega)], fun e => by rw [e] at hb; simp at hb⟩), ← hG.out, bytes_app, bytes_app, bytes_app]
          simp
        · rename_i hk2
          go_ret
          refine ⟨?_, bthen hw1 hw2⟩
          unfold str
          refine congrArg (fun b => Ending.returned (.string b)) (bytes_ext ?_)
          rw [hS.out, if_neg (by have := hn.out; omega), hfr.out, ← frac_cut p k hk1 (by omega) hz.out (.inl (by omega)), ← hG.out, bytes_app, bytes_app, bytes_app]
          simp
end Go.Proofs.YtbmcmilbmkdabaaDoor

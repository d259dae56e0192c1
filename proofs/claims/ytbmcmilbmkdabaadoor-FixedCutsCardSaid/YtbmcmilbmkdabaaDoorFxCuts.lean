/- Fixed: the law of digits behind the fifth, walked. No condition. -/
import Derived.Test.YtbmcmilbmkdabaaDoorFxArr
import Derived.Test.YtbmcmilbmkdabaaDoorFxBack
namespace Go.Proofs.YtbmcmilbmkdabaaDoor
open Go Go.RowKit Go.Wk Go.Lib
theorem okWide_array' {P : Program} {w : World} {r : Reach} {base t n e : Nat} {v : Value} (ht : P.underlying t = some (.array n e)) (h : Value.okWide P w r base t v) : ∃ cs, v = .agg cs ∧ cs.size = P.cellsOf t := by
  simp only [Value.okWide, ht] at h
  obtain ⟨cs, h1, h2, _⟩ := h
  exact ⟨cs, h1, h2⟩
/-- what is wanted behind so many digits -/
def wantK (N e0 e1 e2 e3 e4 : Int) : Nat → Int
  | 0 => N * 100000
  | 1 => N * 100000 + 10000 * e0
  | 2 => N * 100000 + 10000 * e0 + 1000 * e1
  | 3 => N * 100000 + 10000 * e0 + 1000 * e1 + 100 * e2
  | 4 => N * 100000 + 10000 * e0 + 1000 * e1 + 100 * e2 + 10 * e3
  | _ => N * 100000 + 10000 * e0 + 1000 * e1 + 100 * e2 + 10 * e3 + e4
def unitK : Nat → Int
  | 0 => 10000 | 1 => 1000 | 2 => 100 | 3 => 10 | 4 => 1 | _ => 0
theorem conv_atK (wr : World) (u : UInt8) (x : Int) (h : (u.toNat : Int) = x) : (convert 22 9 (.slice (some ⟨wr.heap.size, 0, none⟩) 1 1)).run Tryd.prog (wr.alloc (.cells #[.int .u8 (48 + x % 10)] 5)) = .ok (.string ⟨#[digB u]⟩) (wr.alloc (.cells #[.int .u8 (48 + x % 10)] 5)) :=
  conv_one wr (digB u) _ (by rw [(digB_is u).2]; omega)
theorem app_one (a : List UInt8) (b : UInt8) : ({ data := a.toArray } ++ { data := #[b] } : ByteArray) = { data := (a ++ [b]).toArray } := bytes_ext (by simp)
set_option maxHeartbeats 2000000 in
set_option maxRecDepth 100000 in
theorem cuts_law (n : Nat) (hn : n < 4294967296) (d0 d1 d2 d3 d4 : UInt8) (A : Option Addr) (c : Nat) (ms : List UInt8) (w : World) (hB : Byt w A ms) (hc : ms.length ≤ c)
    (haw : ∀ w1, Below w.heap.size w w1 → Calls Tryd.prog 11 #[] w1 fun e w' => e = .returned (.bool true) ∧ Below w1.heap.size w1 w') :
    Calls Tryd.prog 6 #[.int .u32 (n : Nat), .agg #[.int .u8 (d0.toNat : Int), .int .u8 (d1.toNat : Int), .int .u8 (d2.toNat : Int), .int .u8 (d3.toNat : Int), .int .u8 (d4.toNat : Int)], .slice A ms.length c] w fun e w' => e = .returned (.bool true) ∧ Below w.heap.size w w' := by
  replace hB := Lib.hid hB
  replace haw := Lib.hid haw
  have hb0 := u8_lt d0
  have hb1 := u8_lt d1
  have hb2 := u8_lt d2
  have hb3 := u8_lt d3
  have hb4 := u8_lt d4
  obtain ⟨N, hN⟩ := hidE (n : Int)
  have hN0 : 0 ≤ N ∧ N < 4294967296 := by rw [hN.out]; omega
  rw [← hN.out]
  by_cases hout : 50 < ms.length ∨ 2147483647 < N
  · clear hn
    by_cases h1 : 50 < ms.length
    · go_enter Tryd.func6, Tryd.ntmps6
      go_wp2_with (go_at_call 11; (with_reducible refine (haw.out _ ((Below.refl _ _).alloc (Nat.le_refl _) _)).mono ?_); rintro e w1 ⟨rfl, hw1⟩; replace hw1 := Lib.hid hw1)
      go_ret
      exact ⟨rfl, ((Below.refl _ _).alloc (Nat.le_refl _) _).trans (hw1.out.mono (by rw [size_alloc]; omega))⟩
    · have h2 : 2147483647 < N := by omega
      clear hout
      go_enter Tryd.func6, Tryd.ntmps6
      go_wp2_with (go_at_call 11; (with_reducible refine (haw.out _ ((Below.refl _ _).alloc (Nat.le_refl _) _)).mono ?_); rintro e w1 ⟨rfl, hw1⟩; replace hw1 := Lib.hid hw1)
      go_ret
      exact ⟨rfl, ((Below.refl _ _).alloc (Nat.le_refl _) _).trans (hw1.out.mono (by rw [size_alloc]; omega))⟩
  · have h1 : ms.length ≤ 50 := by omega
    have h2 : N ≤ 2147483647 := by omega
    clear hout hn
    have c1 : Hid (∀ w, Calls Tryd.prog 15 #[.int .i64 N, .bool true] w fun e w' => e = .returned (str (decDigits n)) ∧ Below w.heap.size w w') := Lib.hid fun w => by
      have h := ref_Text N (by unfold i64; omega) true w
      have e : textL N true = decDigits n := by
        show itoa N = _
        rw [hN.out]; exact itoa_nonneg n
      rw [e] at h; exact h
    have hDl : (decDigits n).length ≤ 20 := by rw [decDigits_length]; exact nDigits_le20 n (by have := hN.out; omega)
    obtain ⟨D, hD⟩ : ∃ D, D = decDigits n := ⟨_, rfl⟩
    rw [← hD] at c1 hDl
    replace hD := Lib.hid hD
    unfold str at c1
    go_enter Tryd.func6, Tryd.ntmps6
    go_wp2_with (first
      | (go_at_call 11; (with_reducible refine (haw.out _ ((Below.refl _ _).alloc (Nat.le_refl _) _)).mono ?_); rintro e w1 ⟨rfl, hw1⟩; replace hw1 := Lib.hid hw1)
      | (go_at_call 15; (with_reducible refine (c1.out _).mono ?_); rintro e w2 ⟨rfl, hw2⟩; replace hw2 := Lib.hid hw2))

    rw [app_one]
    have hF : Hid (∀ w', Below (w.heap.size + 1) (w.alloc (.cells #[.int .u8 (d0.toNat : Int), .int .u8 (d1.toNat : Int), .int .u8 (d2.toNat : Int), .int .u8 (d3.toNat : Int), .int .u8 (d4.toNat : Int)] 34)) w' →
        w'.cell? ⟨w.heap.size, 0, none⟩ = some (.int .u8 (d0.toNat : Int)) ∧ w'.cell? ⟨w.heap.size, 1, none⟩ = some (.int .u8 (d1.toNat : Int)) ∧ w'.cell? ⟨w.heap.size, 2, none⟩ = some (.int .u8 (d2.toNat : Int)) ∧
        w'.cell? ⟨w.heap.size, 3, none⟩ = some (.int .u8 (d3.toNat : Int)) ∧ w'.cell? ⟨w.heap.size, 4, none⟩ = some (.int .u8 (d4.toNat : Int))) := Lib.hid fun w' hb => by
      have key : ∀ i, w'.cell? ⟨w.heap.size, 0 + i, none⟩ = (#[Value.int .u8 (d0.toNat : Int), .int .u8 (d1.toNat : Int), .int .u8 (d2.toNat : Int), .int .u8 (d3.toNat : Int), .int .u8 (d4.toNat : Int)] : Array Value)[i]? := fun i => by
        rw [hb.cell (p := ⟨w.heap.size, 0 + i, none⟩) (show w.heap.size < w.heap.size + 1 by omega), alloc_cell]
      exact ⟨key 0, key 1, key 2, key 3, key 4⟩
    have hb2 : Hid (Below (w.heap.size + 1) (w.alloc (.cells #[.int .u8 (d0.toNat : Int), .int .u8 (d1.toNat : Int), .int .u8 (d2.toNat : Int), .int .u8 (d3.toNat : Int), .int .u8 (d4.toNat : Int)] 34)) w2) := Lib.hid (by
      have h1 := hw1.out
      exact (h1.trans (hw2.out.mono h1.size)).mono (by rw [size_alloc]; omega))
    have hBy : Hid (∀ w', Below (w.heap.size + 1) (w.alloc (.cells #[.int .u8 (d0.toNat : Int), .int .u8 (d1.toNat : Int), .int .u8 (d2.toNat : Int), .int .u8 (d3.toNat : Int), .int .u8 (d4.toNat : Int)] 34)) w' → Byt w' A ms ∧ Below w.heap.size w w') := Lib.hid fun w' hb => (fun k => ⟨hB.out.below k, k⟩) (((Below.refl _ _).alloc (Nat.le_refl _) _).trans (hb.mono (by omega)))
    have hwA : (w.alloc (.cells #[.int .u8 (d0.toNat : Int), .int .u8 (d1.toNat : Int), .int .u8 (d2.toNat : Int), .int .u8 (d3.toNat : Int), .int .u8 (d4.toNat : Int)] 34)).heap.size = w.heap.size + 1 := size_alloc _ _
    generalize (w.alloc (.cells #[.int .u8 (d0.toNat : Int), .int .u8 (d1.toNat : Int), .int .u8 (d2.toNat : Int), .int .u8 (d3.toNat : Int), .int .u8 (d4.toNat : Int)] 34)) = wA at *
    clear hw1 hw2
    go_loopw [7, 8, 9, 10] (fun sv wv uv iv wr => ∃ k : Nat, k ≤ 5 ∧ iv = .int .i64 k ∧ sv = .string ⟨(D ++ 46 :: (([d0, d1, d2, d3, d4].take k).map digB)).toArray⟩ ∧ wv = .int .i64 (wantK N (d0.toNat % 10) (d1.toNat % 10) (d2.toNat % 10) (d3.toNat % 10) (d4.toNat % 10) k) ∧ uv = .int .i64 (unitK k) ∧ Hid (Below (w.heap.size + 1) wA wr)) (fun _ _ _ iv _ => 5 - (RowKit.intOf iv).toNat)
    case atStart => exact ⟨0, by omega, rfl, rfl, rfl, rfl, hb2⟩
    case round =>
      obtain ⟨k, hk, rfl, rfl, rfl, rfl, hb⟩ := hrel
      obtain ⟨f0, f1, f2, f3, f4⟩ := hF.out _ hb.out
      have e0 := conv_atK wr d0 _ rfl
      have e1 := conv_atK wr d1 _ rfl
      have e2 := conv_atK wr d2 _ rfl
      have e3 := conv_atK wr d3 _ rfl
      have e4 := conv_atK wr d4 _ rfl
      have hfin : ∀ x, Hid (Below (w.heap.size + 1) wA (wr.alloc (.cells #[.int .u8 (48 + x % 10)] 5))) := fun x => Lib.hid (hb.out.alloc (by have := hb.out.size; rw [hwA] at this; exact this) _)
      have keep : ∀ x i u, wr.cell? ⟨w.heap.size, i, none⟩ = some (.int .u8 u) → (wr.alloc (.cells #[.int .u8 (48 + x % 10)] 5)).cell? ⟨w.heap.size, i, none⟩ = some (.int .u8 u) := fun x i u h => by rw [((Below.refl wr.heap.size wr).alloc (Nat.le_refl _) _).cell (p := ⟨w.heap.size, i, none⟩) (cell_lt h)]; exact h
      clear hF hb2 c1 haw hB
      replace hfin := Lib.hid hfin
      match k, hk with
      | 0, _ =>
        have g := keep d0.toNat 0 _ f0
        have hx : 0 ≤ (d0.toNat : Int) ∧ (d0.toNat : Int) < 256 := ⟨by omega, hb0⟩
        have hfin := hfin.out d0.toNat
        clear keep e1 f1 hb1 e2 f2 hb2 e3 f3 hb3 e4 f4 hb4
        simp only [wantK, unitK]
        go_wp2
        refine ⟨⟨1, by omega, rfl, ?_, ?_, ?_, hfin⟩, by simp only [RowKit.intOf]; omega⟩
        · refine congrArg Value.string ((app_one _ _).trans ?_); simp
        · congr 1; try omega
        · rfl
      | 1, _ =>
        have g := keep d1.toNat 1 _ f1
        have hx : 0 ≤ (d1.toNat : Int) ∧ (d1.toNat : Int) < 256 := ⟨by omega, hb1⟩
        have hfin := hfin.out d1.toNat
        clear keep e0 f0 hb0 e2 f2 hb2 e3 f3 hb3 e4 f4 hb4
        simp only [wantK, unitK]
        go_wp2
        refine ⟨⟨2, by omega, rfl, ?_, ?_, ?_, hfin⟩, by simp only [RowKit.intOf]; omega⟩
        · refine congrArg Value.string ((app_one _ _).trans ?_); simp
        · congr 1; try omega
        · rfl
      | 2, _ =>
        have g := keep d2.toNat 2 _ f2
        have hx : 0 ≤ (d2.toNat : Int) ∧ (d2.toNat : Int) < 256 := ⟨by omega, hb2⟩
        have hfin := hfin.out d2.toNat
        clear keep e0 f0 hb0 e1 f1 hb1 e3 f3 hb3 e4 f4 hb4
        simp only [wantK, unitK]
        go_wp2
        refine ⟨⟨3, by omega, rfl, ?_, ?_, ?_, hfin⟩, by simp only [RowKit.intOf]; omega⟩
        · refine congrArg Value.string ((app_one _ _).trans ?_); simp
        · congr 1; try omega
        · rfl
      | 3, _ =>
        have g := keep d3.toNat 3 _ f3
        have hx : 0 ≤ (d3.toNat : Int) ∧ (d3.toNat : Int) < 256 := ⟨by omega, hb3⟩
        have hfin := hfin.out d3.toNat
        clear keep e0 f0 hb0 e1 f1 hb1 e2 f2 hb2 e4 f4 hb4
        simp only [wantK, unitK]
        go_wp2
        refine ⟨⟨4, by omega, rfl, ?_, ?_, ?_, hfin⟩, by simp only [RowKit.intOf]; omega⟩
        · refine congrArg Value.string ((app_one _ _).trans ?_); simp
        · congr 1; try omega
        · rfl
      | 4, _ =>
        have g := keep d4.toNat 4 _ f4
        have hx : 0 ≤ (d4.toNat : Int) ∧ (d4.toNat : Int) < 256 := ⟨by omega, hb4⟩
        have hfin := hfin.out d4.toNat
        clear keep e0 f0 hb0 e1 f1 hb1 e2 f2 hb2 e3 f3 hb3
        simp only [wantK, unitK]
        go_wp2
        refine ⟨⟨5, by omega, rfl, ?_, ?_, ?_, hfin⟩, by simp only [RowKit.intOf]; omega⟩
        · refine congrArg Value.string ((app_one _ _).trans ?_); simp
        · congr 1; try omega
        · rfl
      | 5, _ =>
        clear keep hfin hk f0 f1 f2 f3 f4 e0 e1 e2 e3 e4
        obtain ⟨Wv, hWv⟩ : ∃ Wv, Wv = wantK N (d0.toNat % 10) (d1.toNat % 10) (d2.toNat % 10) (d3.toNat % 10) (d4.toNat % 10) 5 := ⟨_, rfl⟩
        have hW0 : 0 ≤ Wv ∧ Wv ≤ 214748364800000 := by rw [hWv]; simp only [wantK]; omega
        rw [← hWv]
        simp only [show unitK 5 = 0 from rfl, show ((5 : Nat) : Int) = 5 from rfl, show List.take 5 [d0, d1, d2, d3, d4] = [d0, d1, d2, d3, d4] from rfl]
        have hpl := Lib.hid (cuts_plain n (by have := hN.out; omega) ([d0, d1, d2, d3, d4].map digB) (ms.map digB) (digB_all _) (digB_all _) rfl)
        have hval : Hid ((n : Int) * 100000 + (valD ([d0, d1, d2, d3, d4].map digB) : Int) = Wv) := Lib.hid (by
          rw [hWv, hN.out]
          have g0 := (digB_is d0).2
          have g1 := (digB_is d1).2
          have g2 := (digB_is d2).2
          have g3 := (digB_is d3).2
          have g4 := (digB_is d4).2
          simp only [wantK, valD, List.map, List.foldl]
          omega)
        rw [hval.out, ← hD.out] at hpl
        clear hval
        obtain ⟨F, hFd⟩ : ∃ F, F = [d0, d1, d2, d3, d4].map digB := ⟨_, rfl⟩
        rw [← hFd] at hpl
        rw [← hFd]
        have hFl : F.length = 5 := by rw [hFd]; rfl
        replace hWv := Lib.hid hWv
        replace hFd := Lib.hid hFd
        clear hb0 hb1 hb2 hb3 hb4
        have c3 : Hid (∀ (w : World) (A : Option Addr) (c : Nat) (S : List UInt8) (v : Int), Byt w A S → S.length ≤ c → S.length ≤ 100 → parseS S = (v, false, 0) → Calls Tryd.prog 12 #[.slice A S.length c] w fun e w' => e = .returned (.tuple #[.int .i64 v, .bool false, .int .i64 0]) ∧ Below w.heap.size w w') := Lib.hid fun w A c S v hb hc hl hp => by
          have := fx_parse hb hc (by omega)
          rw [hp] at this
          exact this
        go_wp2
        go_loopw [11, 12] (fun tv iv wr => ∃ k : Nat, k ≤ ms.length ∧ iv = .int .i64 k ∧ tv = .string ⟨(D ++ 46 :: (F ++ (ms.take k).map digB)).toArray⟩ ∧ Hid (Below (w.heap.size + 1) wA wr)) (fun _ iv _ => ms.length - (RowKit.intOf iv).toNat)
        case atStart => exact ⟨0, by omega, rfl, by simp, hb⟩
        case round =>
          clear hb
          obtain ⟨k, hk, rfl, rfl, hb⟩ := hrel
          by_cases hlt : k < ms.length
          · obtain ⟨b, o, rfl, hcell⟩ := (hBy.out _ hb.out).1.2 (by omega)
            have hcm := hcell k hlt
            have hx : 0 ≤ (ms[k].toNat : Int) ∧ (ms[k].toNat : Int) < 256 := ⟨by omega, u8_lt _⟩
            have hcv := conv_atK wr ms[k] _ rfl
            have hfin := Lib.hid (show Below (w.heap.size + 1) wA (wr.alloc (.cells #[.int .u8 (48 + ms[k].toNat % 10)] 5)) from hb.out.alloc (by have := hb.out.size; rw [hwA] at this; exact this) _)
            have htk := Lib.hid (show (ms.take (k + 1)).map digB = (ms.take k).map digB ++ [digB ms[k]] by rw [List.take_add_one, List.getElem?_eq_getElem hlt, List.map_append]; rfl)
            have hlen := Lib.hid (show (D ++ 46 :: (F ++ (ms.take k).map digB)).length ≤ 100 by simp; omega)
            generalize ms[k] = m at *
            generalize hT : D ++ 46 :: (F ++ (ms.take k).map digB) = T at *
            have hlen2 := hlen.out
            clear hcell hpl c3
            go_wp2
            refine ⟨⟨k + 1, by omega, rfl, ?_, hfin⟩, by simp only [RowKit.intOf]; omega⟩
            refine congrArg Value.string ((app_one _ _).trans ?_)
            rw [htk.out, ← hT]; simp
          · have hk' : k = ms.length := by omega
            subst hk'
            rw [List.take_length]
            have hMl : (ms.map digB).length = ms.length := by simp
            generalize ms.map digB = M at *
            obtain ⟨p1, p2, p3⟩ := hpl.out
            have l1 : (D ++ 46 :: F).length ≤ 100 := by simp; omega
            have l2 : ([43, 48, 48] ++ (D ++ 46 :: (F ++ M))).length ≤ 100 := by simp; omega
            have l3 : ([45] ++ (D ++ 46 :: (F ++ M))).length ≤ 100 := by simp; omega
            obtain ⟨S1, hS1⟩ : ∃ S, S = D ++ 46 :: F := ⟨_, rfl⟩
            obtain ⟨T, hT⟩ : ∃ S, S = D ++ 46 :: (F ++ M) := ⟨_, rfl⟩
            rw [← hS1] at p1 l1
            rw [← hT] at p2 p3 l2 l3
            rw [← hS1, ← hT]
            have j2 : ({ data := #[43, 48, 48] } ++ { data := T.toArray } : ByteArray) = { data := ([43, 48, 48] ++ T).toArray } := bytes_ext (by simp)
            have j3 : ({ data := #[45] } ++ { data := T.toArray } : ByteArray) = { data := ([45] ++ T).toArray } := bytes_ext (by simp)
            replace p1 := Lib.hid p1
            replace p2 := Lib.hid p2
            replace p3 := Lib.hid p3
            have hl2 : T.length ≤ 90 := by rw [hT]; simp; omega
            replace l1 := Lib.hid l1
            replace l2 := Lib.hid l2
            replace l3 := Lib.hid l3
            clear hS1 hT hpl
            simp only [List.cons_append, List.nil_append] at p2 p3 l2 l3
            obtain ⟨x1, w3, hcv1, hc1, hby1, hbe1⟩ := s2b wr S1 l1.out
            replace hbe1 := Lib.hid hbe1
            have k1 : Hid (∀ (w : World) (A : Option Addr) (c : Nat), Byt w A S1 → S1.length ≤ c → Calls Tryd.prog 12 #[.slice A S1.length c] w fun e w' => e = .returned (.tuple #[.int .i64 Wv, .bool false, .int .i64 0]) ∧ Below w.heap.size w w') := Lib.hid fun w A c hb hc => c3.out _ _ _ _ _ hb hc l1.out p1.out
            have k2 : Hid (∀ (w : World) (A : Option Addr) (c : Nat), Byt w A (43 :: 48 :: 48 :: T) → (43 :: 48 :: 48 :: T).length ≤ c → Calls Tryd.prog 12 #[.slice A (T.length + 1 + 1 + 1) c] w fun e w' => e = .returned (.tuple #[.int .i64 Wv, .bool false, .int .i64 0]) ∧ Below w.heap.size w w') := Lib.hid fun w A c hb hc => by have := c3.out w A c (43 :: 48 :: 48 :: T) Wv hb hc l2.out p2.out; simp only [List.length_cons] at this; exact this
            have k3 : Hid (∀ (w : World) (A : Option Addr) (c : Nat), Byt w A (45 :: T) → (45 :: T).length ≤ c → Calls Tryd.prog 12 #[.slice A (T.length + 1) c] w fun e w' => e = .returned (.tuple #[.int .i64 (-Wv), .bool false, .int .i64 0]) ∧ Below w.heap.size w w') := Lib.hid fun w A c hb hc => by have := c3.out w A c (45 :: T) (-Wv) hb hc l3.out p3.out; simp only [List.length_cons] at this; exact this
            clear p1 p2 p3 c3
            go_wp2_with (first
              | (go_at_call 12; (with_reducible refine (k1.out _ _ _ hby1 hc1).mono ?_); rintro e w4 ⟨rfl, hw4⟩; obtain ⟨x2, w5, hcv2, hc2, hby2, hbe2⟩ := s2b w4 (43 :: 48 :: 48 :: T) l2.out; replace hw4 := Lib.hid hw4; replace hbe2 := Lib.hid hbe2)
              | (go_at_call 12; (with_reducible refine (k2.out _ _ _ hby2 hc2).mono ?_); rintro e w6 ⟨rfl, hw6⟩; obtain ⟨x3, w7, hcv3, hc3, hby3, hbe3⟩ := s2b w6 (45 :: T) l3.out; replace hw6 := Lib.hid hw6; replace hbe3 := Lib.hid hbe3)
              | (go_at_call 12; (with_reducible refine (k3.out _ _ _ hby3 hc3).mono ?_); rintro e w8 ⟨rfl, hw8⟩; replace hw8 := Lib.hid hw8))
            go_ret
            refine ⟨rfl, ?_⟩
            have b0 := (hBy.out _ hb.out).2
            have b1 := hbe1.out _ _ b0 b0.size
            have b2 := b1.trans (hw4.out.mono b1.size)
            have b3 := hbe2.out _ _ b2 b2.size
            have b4 := b3.trans (hw6.out.mono b3.size)
            have b5 := hbe3.out _ _ b4 b4.size
            exact b5.trans (hw8.out.mono b5.size)
end Go.Proofs.YtbmcmilbmkdabaaDoor

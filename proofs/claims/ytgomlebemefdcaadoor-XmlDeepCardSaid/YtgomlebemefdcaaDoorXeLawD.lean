/- The law of elements in one another. No condition. -/
import Derived.Test.YtgomlebemefdcaaDoorXeNestW
import Derived.Lib.LaidU8T
import Derived.BigRegion
set_option linter.unusedVariables false
namespace Go.Proofs.YtgomlebemefdcaaDoor
open Go Go.RowKit Go.Wk Go.Xt Go.Xe
theorem openS_len (l : List UInt8) : (openS l).length = 3 * l.length := by
  unfold openS; induction l with
  | nil => rfl
  | cons x l ih => simp [ih]; omega
theorem closeS_len (l : List UInt8) : (closeS l).length = 4 * l.length := by
  have : ∀ k : List UInt8, (k.flatMap fun n => ([60, 47, n, 62] : List UInt8)).length = 4 * k.length := by
    intro k; induction k with
    | nil => rfl
    | cons x k ih => simp [ih]; omega
  unfold closeS; rw [this]; simp
theorem str_of {a : ByteArray} {l : List UInt8} (h : a.data.toList = l) : Value.string a = str l := by
  have : a = ⟨l.toArray⟩ := bytes_ext (by rw [h])
  rw [this]; rfl
set_option maxHeartbeats 4000000 in
set_option maxRecDepth 100000 in
theorem deep_law {w : World} {A : Option Addr} {c : Nat} {l : List UInt8} (hb : Byt w A l) (hc : l.length ≤ c) (hT : Lib.Utf8Tabs 0 1 w) (h2 : 2 ≤ w.heap.size)
    (haw : Calls Tryd.prog 8 #[] w fun e w' => e = .returned (.bool true) ∧ Below w.heap.size w w') :
    Calls Tryd.prog 3 #[.slice A l.length c] w fun e w' => e = .returned (.bool true) ∧ Below w.heap.size w w' := by
  have hm := hb.1
  unfold maxLen at hm
  by_cases h60 : 60 < l.length
  · replace hb := Lib.hid hb
    replace hT := Lib.hid hT
    go_enter Tryd.func3, Tryd.ntmps3
    go_wp2_with (go_at_call 8; (with_reducible refine haw.mono ?_); rintro e w1 ⟨rfl, b1⟩; replace b1 := Lib.hid b1)
    go_ret
    exact ⟨rfl, b1.out⟩
  by_cases h0 : l.length = 0
  · replace hb := Lib.hid hb
    replace hT := Lib.hid hT
    rw [h0]
    clear h0 h60
    go_enter Tryd.func3, Tryd.ntmps3
    go_wp2_with (go_at_call 8; (with_reducible refine haw.mono ?_); rintro e w1 ⟨rfl, b1⟩; replace b1 := Lib.hid b1)
    go_ret
    exact ⟨rfl, b1.out⟩
  obtain ⟨b, o, rfl, hcell⟩ := hb.2 (by omega)
  replace hcell := Lib.hid hcell
  replace hb := Lib.hid hb
  replace hT := Lib.hid hT
  obtain ⟨m, hme⟩ : ∃ m, m = l.length := ⟨_, rfl⟩
  rw [← hme] at hc hm h60 h0 ⊢
  replace hme := Lib.hid hme
  have hg1 : decide ((60 : Int) < (m : Int)) = false := by simp; omega
  have hg2 : ((m : Int) == 0) = false := by simp [h0]
  go_enter Tryd.func3, Tryd.ntmps3
  go_wp2_with (go_at_call 8; (with_reducible refine haw.mono ?_); rintro e w1 ⟨rfl, b1⟩; replace b1 := Lib.hid b1)
  go_loopw [3, 4, 5, 6] (fun s3 s4 s5 _ wr => ∃ k : Nat, k ≤ m ∧ s5 = .int .i64 k ∧ s3 = str (openS ((l.take k).map chU)) ∧ s4 = str (closeS ((l.take k).map chU)) ∧ Below w.heap.size w wr) (fun _ _ s5 _ _ => m - (RowKit.intOf s5).toNat)
  case atStart => exact ⟨0, by omega, rfl, rfl, rfl, b1.out⟩
  case round =>
    obtain ⟨k, hk, rfl, rfl, rfl, hB⟩ := hrel
    by_cases hkm : k < m
    · have hkl : k < l.length := by rw [← hme.out]; exact hkm
      obtain ⟨x, hx⟩ : ∃ x, x = l[k] := ⟨_, rfl⟩
      have hcx : wr.cell? ⟨b, o + k, none⟩ = some (.int .u8 (x.toNat : Int)) := by
        rw [hx]; exact (hB.cell (cell_lt (hcell.out k hkl))).trans (hcell.out k hkl)
      obtain ⟨S, hS⟩ : ∃ S : ByteArray, S = ⟨(openS ((l.take k).map chU)).toArray⟩ := ⟨_, rfl⟩
      obtain ⟨E, hE⟩ : ∃ S : ByteArray, S = ⟨(closeS ((l.take k).map chU)).toArray⟩ := ⟨_, rfl⟩
      have hS1 : str (openS ((l.take k).map chU)) = .string S := by rw [hS]; rfl
      have hE1 : str (closeS ((l.take k).map chU)) = .string E := by rw [hE]; rfl
      rw [hS1, hE1]
      have hx8 := x.toNat_lt
      have zS : S.size = 3 * k := by rw [hS]; show (openS _).toArray.size = _; simp [openS_len]; omega
      have zE : E.size = 4 * k := by rw [hE]; show (closeS _).toArray.size = _; simp [closeS_len]; omega
      replace hS := Lib.hid hS
      replace hE := Lib.hid hE
      replace hS1 := Lib.hid hS1
      replace hE1 := Lib.hid hE1
      replace hB := Lib.hid hB
      replace hx := Lib.hid hx
      have hcv : (convert 22 9 (.slice (some ⟨wr.heap.size, 0, none⟩) 1 1)).run Tryd.prog (wr.alloc (.cells #[.int .u8 (97 + (x.toNat : Int) % 26)] 5)) = .ok (.string ⟨#[chU x]⟩) (wr.alloc (.cells #[.int .u8 (97 + (x.toNat : Int) % 26)] 5)) := by
        refine conv_at _ wr.heap.size 0 1 (chU x) ?_
        have e : ((chU x).toNat : Int) = 97 + (x.toNat : Int) % 26 := by rw [chU_nat]; omega
        rw [e, World.cell?_alloc_new]; rfl
      go_wp2
      go_roundw
      case rel =>
        have ht : (l.take (k + 1)).map chU = (l.take k).map chU ++ [chU x] := by
          rw [List.take_succ_eq_append_getElem hkl, List.map_append, hx.out]; rfl
        refine ⟨k + 1, by omega, by go_num, ?_, ?_, hB.out.alloc hB.out.size _⟩
        · rw [ht, openS_snoc]
          exact str_of (by simp only [bytes_app, hS.out]; simp)
        · rw [ht, closeS_snoc]
          exact str_of (by simp only [bytes_app, hE.out]; simp)
      case measure => simp [RowKit.intOf]; omega
    · obtain rfl : k = m := by omega
      obtain ⟨S, hS⟩ : ∃ S : ByteArray, S = ⟨(openS ((l.take k).map chU)).toArray⟩ := ⟨_, rfl⟩
      obtain ⟨E, hE⟩ : ∃ S : ByteArray, S = ⟨(closeS ((l.take k).map chU)).toArray⟩ := ⟨_, rfl⟩
      have hS1 : str (openS ((l.take k).map chU)) = .string S := by rw [hS]; rfl
      have hE1 : str (closeS ((l.take k).map chU)) = .string E := by rw [hE]; rfl
      rw [hS1, hE1]
      have zS : S.size = 3 * k := by rw [hS]; show (openS _).toArray.size = _; simp [openS_len, ← hme.out]
      have zE : E.size = 4 * k := by rw [hE]; show (closeS _).toArray.size = _; simp [closeS_len, ← hme.out]
      replace hS := Lib.hid hS
      replace hE := Lib.hid hE
      replace hS1 := Lib.hid hS1
      replace hE1 := Lib.hid hE1
      replace hB := Lib.hid hB
      obtain ⟨T, hTe⟩ : ∃ T : ByteArray, T = S ++ ⟨#[116]⟩ ++ E := ⟨_, rfl⟩
      have zT : T.size ≤ 1000 := by rw [hTe, ByteArray.size_append, ByteArray.size_append, zS, zE]; show 3 * k + 1 + 4 * k ≤ 1000; omega
      obtain ⟨ns, hns⟩ : ∃ ns, ns = l.map chU := ⟨_, rfl⟩
      have hnl : ns.length = k := by rw [hns, List.length_map, hme.out]
      have hlow : ∀ n ∈ ns, low n := by rw [hns]; exact chs_low l
      have hTl : T.data.toList = nestS ns := by
        rw [hTe, bytes_app, bytes_app, hS.out, hE.out, ← nestS_eq, hns, hme.out, List.take_length]
        simp
      obtain ⟨cT, W2, hcv, hbT, hBT, hcT, hzT⟩ := conv_bytes wr T (by omega)
      have hTlen : T.size = (nestS ns).length := by rw [← hTl, Array.length_toList]; rfl
      rw [hTl] at hbT
      have hB2 := hB.out.trans (hBT.mono hB.out.size)
      have hT2 := tabs_kept hT.out (hB2.block 0 (by omega)) (hB2.block 1 (by omega))
      have hz2 : 2 ≤ W2.heap.size := by have := hB.out.size; omega
      obtain ⟨tl, htl⟩ : ∃ tl, tl = T.size := ⟨_, rfl⟩
      rw [← htl] at hcv hTlen hcT
      rw [hTe] at hcv
      replace htl := Lib.hid htl
      replace hTe := Lib.hid hTe
      by_cases h32 : 32 < k
      · have cP := parse_deep hbT (by omega : (nestS ns).length ≤ cT) hlow (by omega) (by omega) hT2 hz2
        rw [← hTlen] at cP
        replace hTlen := Lib.hid hTlen
        replace hTl := Lib.hid hTl
        replace hbT := Lib.hid hbT
        replace hBT := Lib.hid hBT
        replace hB2 := Lib.hid hB2
        replace hT2 := Lib.hid hT2
        replace hzT := Lib.hid hzT
        clear zT hnl hlow hns
        go_wp2_with (go_at_call 9; (with_reducible refine cP.mono ?_); rintro e w3 ⟨rfl, b3⟩; replace b3 := Lib.hid b3)
        go_ret
        exact ⟨rfl, bthen hB2.out (b3.out.alloc (by have := b3.out.size; omega) _)⟩
      · have cP := parse_nest hbT (by omega : (nestS ns).length ≤ cT) hlow (by omega) (by omega) hT2 hz2
        rw [← hTlen] at cP
        replace hTlen := Lib.hid hTlen
        replace hTl := Lib.hid hTl
        replace hbT := Lib.hid hbT
        replace hBT := Lib.hid hBT
        replace hB2 := Lib.hid hB2
        replace hT2 := Lib.hid hT2
        replace hzT := Lib.hid hzT
        replace hnl := Lib.hid hnl
        replace hns := Lib.hid hns
        clear zT hlow
        go_wp2_with (go_at_call 9; (with_reducible refine cP.mono ?_); rintro e w3 ⟨N0, N1, N2, a1, n1, c1, a2, n2, c2, bl, rfl, hN, hbl, b3⟩; replace b3 := Lib.hid b3; replace hN := Lib.hid hN; replace hbl := Lib.hid hbl)
        obtain ⟨X, hX⟩ : ∃ X, X = w3.heap.size := ⟨_, rfl⟩
        have hX0 : w.heap.size ≤ X := by have := hB2.out.size; have := b3.out.size; omega
        obtain ⟨W4, hW4⟩ : ∃ W, W = w3.alloc (.cells #[.string N0, .string N1, .string N2, .slice a1 n1 c1, .slice a2 n2 c2] 27) := ⟨_, rfl⟩
        have hb4 : Below w3.heap.size w3 W4 := by rw [hW4]; exact (Below.refl _ _).alloc (Nat.le_refl _) _
        have hb04 : Below w.heap.size w W4 := bthen hB2.out (bthen b3.out hb4)
        have hx4 : Blk W4 X 27 #[.string N0, .string N1, .string N2, .slice a1 n1 c1, .slice a2 n2 c2] := by rw [hW4, hX]; exact Blk.new w3 27 _
        have hn4 : NdAt W4 (nestN ns) [.string N0, .string N1, .string N2, .slice a1 n1 c1, .slice a2 n2 c2] bl := hN.out.keep fun j hj => hb4.block j (hbl.out j hj).2
        have hl4 : ∀ j ∈ bl, j ≠ X ∧ j < W4.heap.size := fun j hj => by have := hbl.out j hj; have := hb4.size; omega
        rw [← hW4, ← hX]
        replace hX := Lib.hid hX
        replace hW4 := Lib.hid hW4
        replace hb4 := Lib.hid hb4
        replace hb04 := Lib.hid hb04
        replace hx4 := Lib.hid hx4
        replace hn4 := Lib.hid hn4
        replace hl4 := Lib.hid hl4
        go_loopw [9] (fun s9 wr2 => ∃ (j : Nat) (M0 M1 M2 : ByteArray) (b1 : Option Addr) (m1 d1 : Nat) (b2 : Option Addr) (m2 d2 : Nat) (bl2 : List Nat), j ≤ k ∧ s9 = .int .i64 j ∧ Blk wr2 X 27 #[.string M0, .string M1, .string M2, .slice b1 m1 d1, .slice b2 m2 d2] ∧ NdAt wr2 (nestN (ns.drop j)) [.string M0, .string M1, .string M2, .slice b1 m1 d1, .slice b2 m2 d2] bl2 ∧ (∀ i ∈ bl2, i ≠ X ∧ i < wr2.heap.size) ∧ Below w.heap.size w wr2) (fun s9 _ => k - (RowKit.intOf s9).toNat)
        case atStart => exact ⟨0, N0, N1, N2, a1, n1, c1, a2, n2, c2, bl, Nat.zero_le _, rfl, hx4.out, hn4.out, hl4.out, hb04.out⟩
        case round =>
          obtain ⟨j, M0, M1, M2, B1, m1, d1, B2, m2, d2, bl2, hj, rfl, hx5, hn5, hl5, hb5⟩ := hrel
          have hxlt : X < wr.heap.size := hx5.lt
          by_cases hjk : j < k
          · have hjl : j < l.length := by rw [← hme.out]; exact hjk
            have hjn : j < ns.length := by rw [hnl.out]; exact hjk
            obtain ⟨x, hx⟩ : ∃ x, x = l[j] := ⟨_, rfl⟩
            have hcx : wr.cell? ⟨b, o + j, none⟩ = some (.int .u8 (x.toNat : Int)) := by
              rw [hx]; exact (hb5.cell (cell_lt (hcell.out j hjl))).trans (hcell.out j hjl)
            have hnx : ns[j] = chU x := by
              have h0 := hns.out
              subst h0
              rw [List.getElem_map, hx]
            rw [List.drop_eq_getElem_cons hjn, hnx] at hn5
            obtain ⟨g, cap, us, bl', a1', n1', c1', hvs, hnk, hus, hglt, hgm, hblm⟩ := nest_cons hn5
            obtain ⟨P0, P1, P2, A1, p1, q1, A2, p2, q2, rfl⟩ := nest_shape hnk
            injection hvs with _ hvs
            injection hvs with hv1 hvs
            injection hvs with _ hvs
            injection hvs with _ hvs
            injection hvs with hv4 _
            injection hv1 with hv1
            injection hv4 with v4 v5 v6
            subst hv1 v4 v5 v6
            have hgX : g ≠ X := (hl5 g hgm).1
            have hXg : ¬ X = g := fun e => hgX e.symm
            have hg0 := hus 0 (by omega)
            have hg1 := hus 1 (by omega)
            have hg2 := hus 2 (by omega)
            have hg3 := hus 3 (by omega)
            have hg4 := hus 4 (by omega)
            have x0 := hx5.cell 0
            have x1 := hx5.cell 1
            have x2 := hx5.cell 2
            have x3 := hx5.cell 3
            have x4 := hx5.cell 4
            have y0 := hx5.frozen 0
            have y1 := hx5.frozen 1
            have y2 := hx5.frozen 2
            have y3 := hx5.frozen 3
            have y4 := hx5.frozen 4
            have hcw : (convert 22 9 (.slice (some ⟨wr.heap.size, 0, none⟩) 1 1)).run Tryd.prog ((wr.alloc (.cells #[.int .u8 (97 + (x.toNat : Int) % 26)] 5)).drew) = .ok (.string ⟨#[chU x]⟩) ((wr.alloc (.cells #[.int .u8 (97 + (x.toNat : Int) % 26)] 5)).drew) := by
              refine conv_at _ wr.heap.size 0 1 (chU x) ?_
              have e : ((chU x).toNat : Int) = 97 + (x.toNat : Int) % 26 := by rw [chU_nat]; omega
              rw [e]
              show (wr.alloc (.cells #[.int .u8 (97 + (x.toNat : Int) % 26)] 5)).cell? _ = _
              rw [World.cell?_alloc_new]; rfl
            have hx8 := x.toNat_lt
            replace hx5 := Lib.hid hx5
            replace hn5 := Lib.hid hn5
            replace hl5 := Lib.hid hl5
            replace hb5 := Lib.hid hb5
            replace hnk := Lib.hid hnk
            replace hus := Lib.hid hus
            replace hx := Lib.hid hx
            replace hnx := Lib.hid hnx
            go_wp2
            go_region
            go_wp2
            go_roundw
            case rel =>
              refine ⟨j + 1, P0, P1, P2, A1, p1, q1, A2, p2, q2, bl', by omega, by go_num, ?_, ?_, ?_, ?_⟩
              · exact (((((((hx5.out.set_ 0 _).set_ 1 _).set_ 2 _).set_ 3 _).set_ 4 _).alloc _).drew :)
              · refine hnk.out.keep fun i hi => ?_
                have := hl5.out i (hblm i hi)
                exact (Below.heap_alloc _ _ i (Nat.lt_of_lt_of_le this.2 (put5_save wr X (.string P0) (.string P1) (.string P2) (.slice A1 p1 q1) (.slice A2 p2 q2)).size)).trans ((put5_save wr X (.string P0) (.string P1) (.string P2) (.slice A1 p1 q1) (.slice A2 p2 q2)).block i this.2 this.1)
              · intro i hi
                have := hl5.out i (hblm i hi)
                exact ⟨this.1, Nat.lt_of_lt_of_le this.2 (by simp)⟩
              · exact (((hb5.out.trans ((put5_save wr X (.string P0) (.string P1) (.string P2) (.slice A1 p1 q1) (.slice A2 p2 q2)).below hX0 hb5.out.size)).alloc (Nat.le_trans hb5.out.size (put5_save wr X (.string P0) (.string P1) (.string P2) (.slice A1 p1 q1) (.slice A2 p2 q2)).size) _).drew :)
            case measure => simp [RowKit.intOf]; omega
          · obtain rfl : j = k := by omega
            have hd : ns.drop j = [] := by rw [← hnl.out]; exact List.drop_length
            rw [hd] at hn5
            have hvs := nest_nil hn5
            injection hvs with _ hvs
            injection hvs with hv1 hvs
            injection hvs with hv2 _
            injection hv1 with hv1
            injection hv2 with hv2
            subst hv1 hv2
            have x1 := hx5.cell 1
            have x2 := hx5.cell 2
            replace hx5 := Lib.hid hx5
            replace hn5 := Lib.hid hn5
            replace hl5 := Lib.hid hl5
            replace hb5 := Lib.hid hb5
            go_wp2
            go_ret
            exact ⟨rfl, hb5.out⟩
end Go.Proofs.YtgomlebemefdcaaDoor

/- Walks and laws, joined: part H. No condition. -/
import Derived.Test.YtkpikpaepgknnaaGreatDoorXkJG
import Derived.Test.YtkpikpaepgknnaaGreatDoorXkJD
import Derived.RegionTactic
import Derived.BigRegion
import Derived.Deep.DeepCutAuto
import Derived.Test.YtkpikpaepgknnaaGreatDoorXkJA
import Derived.Lib.SlBytesRow
import Derived.Test.YtkpikpaepgknnaaGreatDoorXkJE
import Derived.Lib.MinMax
import Derived.Test.YtkpikpaepgknnaaGreatDoorXkJC
set_option linter.unusedSimpArgs false
set_option linter.unusedVariables false
/- The reader reads a content. No condition. -/
namespace Go.Proofs.YtkpikpaepgknnaaGreatDoor
open Go Go.RowKit Go.Wk Go.Xt Go.Xe
theorem stop_sixty (r : List UInt8) : Txt (-1) (60 :: r) [] (60 :: r) := .stop 60 r (.inl rfl)
set_option maxHeartbeats 4000000 in
set_option maxRecDepth 100000 in
theorem xml_contentP {w : World} {L R B0 c p m m2 d : Nat} {bv : Value} {A : Option Addr} {bs r r' : List UInt8} {B : List (List UInt8 × List UInt8)} {ks : List Nx} (hd : d ≤ 1000) (hE : ElemD L R B0 A c bs d) (h : RS w L R bv A c bs p m) (hb : Bnd w B0 bv B) (hLB : L < B0) (hRB : R < B0) (hB0 : B0 ≤ w.heap.size) (hA0 : 0 < bs.length → ∀ x, A = some x → x.block < B0) (hr : Rest bs p r) (hC : ContX (d + 1) m B r ks m2 r') :
    Calls Tryz.prog 147 #[.pointer (some ⟨R, 0, none⟩), .int .i64 ((d : Int) + 1)] w (ContQ w L R B0 bv A c bs B ks m2 r') := by
  have hLw := h.cur.L_lt
  have hRw := h.rdr.lt
  have hsm := h.cur.small
  have hAB := Lib.hid h.A_lt
  have hlr := hr.len
  replace hE := Lib.hid hE
  replace h := Lib.hid h
  replace hb := Lib.hid hb
  replace hr := Lib.hid hr
  replace hC := Lib.hid hC
  replace hA0 := Lib.hid hA0
  obtain ⟨i0, hi0, hz0, hz1, hz2⟩ := node_info
  have hee : ((⟨#[]⟩ : ByteArray) ++ ⟨#[]⟩).toList.isEmpty = true := by rw [ByteArray.toList_eq]; rfl
  go_enter Tryz.func147, Tryz.ntmps147
  go_wp2
  go_loopw [6, 7] (fun s6 s7 wr => ContM w L R B0 bv A c bs d B ks m2 r' s6 s7 wr) (fun _ _ wr => bs.length + 1 - posOf L wr)
  case atStart => exact ⟨p, m, bv, r, [], ks, [], [], hr.out, hC.out, rfl, rfl, KidsX.nil _ _ _, by simp; omega, h.out, hb.out, FrX.of_fr (Fr.refl _ _ _)⟩
  case round =>
    obtain ⟨q, m1, bvr, r1, done, rest, vs, b, hq, hC1, hks, rfl, hK, hlen, hS, hbr, hF⟩ := hrel
    have hpos := Lib.hid hS.pos
    have hFz := hF.size
    have hql := hq.len
    clear h hr hC hlr hb
    obtain ⟨a6, cp6, rfl⟩ := sl_of hK.own
    cases hC1 with
    | done _ _ _ _ o r2 _ hTx hM hx3 =>
      have hol := txt_len hTx
      obtain ⟨O, hO⟩ : ∃ O : ByteArray, (⟨o.toArray⟩ : ByteArray) = O := ⟨_, rfl⟩
      have hOz : O.size = o.length := by rw [← hO]; simp [ByteArray.size]
      have ct : Calls Tryz.prog 165 #[.pointer (some ⟨R, 0, none⟩), .int .i64 (-1)] wr fun e w' => e = .returned (.tuple #[.string ⟨o.toArray⟩, .int .i64 0]) ∧ End wr L R bvr A c bs m2 r2 w' := xml_text (-1) (by omega) hS hq hTx
      rw [hO] at ct
      have cm := fun w1 q1 (h1 : RS w1 L R bvr A c bs q1 m2) (hq1 : Rest bs q1 r2) => xml_misc h1 hq1 hM
      have c54 : ∀ w2 q2, RS w2 L R bvr A c bs q2 m2 → Rest bs q2 r2 → Calls Tryz.prog 42 #[.pointer (some ⟨L, 0, none⟩), .string ⟨#[60, 47]⟩] w2 fun e w' => e = .returned (.bool true) ∧ RS w' L R bvr A c bs (q2 + 2) m2 ∧ Fr L R w2 w' := fun w2 q2 h2 hq2 => rs_yes h2 ⟨#[60, 47]⟩ r' (by decide) (by decide) (by rw [hq2.eq]; exact hx3)
      have hx4 : ∀ q2, Rest bs q2 r2 → Rest bs (q2 + 2) r' := fun q2 h => Rest.app (s := [60, 47]) (by rw [hx3] at h; exact h)
      replace hx4 := Lib.hid hx4
      clear hx3
      by_cases hemp : o = []
      · rw [if_pos hemp] at hks
        have eO : O = ⟨#[]⟩ := by rw [← hO, hemp]
        rw [eO] at ct
        clear eO
        replace hemp := Lib.hid hemp
        replace cm := Lib.hid cm
        replace hO := Lib.hid hO
        replace hOz := Lib.hid hOz
        replace hK := Lib.hid hK
        replace hS := Lib.hid hS
        replace hF := Lib.hid hF
        replace hbr := Lib.hid hbr
        replace hks := Lib.hid hks
        replace hlen := Lib.hid hlen
        replace hql := Lib.hid hql
        replace hol := Lib.hid hol
        replace c54 := Lib.hid c54
        clear hM hq hTx
        obtain ⟨nd, hnd0⟩ : ∃ n, done.length = n := ⟨_, rfl⟩
        rw [hnd0] at hK ⊢
        replace hnd0 := Lib.hid hnd0
        go_wp2_with (first
          | (go_at_call 165; (with_reducible refine ct.mono ?_); rintro e w1 ⟨rfl, ⟨⟨q1, h1, hq1⟩, f1⟩⟩; have k2 := cm.out w1 q1 h1 hq1; replace f1 := Lib.hid f1; replace h1 := Lib.hid h1; replace hq1 := Lib.hid hq1)
          | (go_at_call 145; (with_reducible refine k2.mono ?_); rintro e w2 ⟨rfl, ⟨⟨q2, h2, hq2⟩, f2⟩⟩; have c2 := h2.rdr.cell 0; have F := f1.out.trans f2; have k3 := c54.out w2 q2 h2 hq2; replace f2 := Lib.hid f2; replace h2 := Lib.hid h2; replace hq2 := Lib.hid hq2; replace F := Lib.hid F)
          | (go_at_call 42; (with_reducible refine k3.mono ?_); rintro e w3 ⟨rfl, h3, f3⟩; replace f3 := Lib.hid f3; replace h3 := Lib.hid h3))
        go_ret2
        have F3 := F.out.trans f3.out
        obtain ⟨bk, hks1, hbk⟩ := (hK.out.frX (FrX.of_fr (bv := bvr) F3) (by omega) (by omega)).ks
        refine ⟨_, _, _, bk, bvr, rfl, ?_, hbk, ⟨_, h3.out, hx4.out q2 hq2.out⟩, own_fr hbr.out F3 hLB hRB, hF.out.trans (FrX.of_fr F3)⟩
        have e := hks.out
        rw [List.append_nil] at e
        rw [← e]
        exact hks1
      · rw [if_neg hemp] at hks
        obtain ⟨TO, hTO⟩ : ∃ TO : ByteArray, (⟨#[]⟩ : ByteArray) ++ O = TO := ⟨_, rfl⟩
        have hTO2 : (⟨o.toArray⟩ : ByteArray) = TO := by rw [← hTO, ← hO]; apply bytes_ext; simp
        have hN : ∀ w, NxAt w (.tx o) [.string ⟨#[]⟩, .string ⟨#[]⟩, .string TO, .slice none 0 0, .slice none 0 0] [] := fun w => by rw [← hTO2]; exact .tx _
        have s2 : O.size ≤ 10000000 := by omega
        have hTl2 : ¬ TO.toList = [] := by rw [ByteArray.toList_eq, ← hTO2]; simpa using hemp
        have hTl3 : (TO.toList == []) = false := by simpa using hTl2
        have hTl4 : TO.toList.isEmpty = false := by simpa using hTl2
        have hol1 : 1 ≤ o.length := by cases o with | nil => exact absurd rfl hemp | cons => simp
        replace hN := Lib.hid hN
        replace hTO2 := Lib.hid hTO2
        replace hemp := Lib.hid hemp
        replace hol1 := Lib.hid hol1
        replace cm := Lib.hid cm
        replace hO := Lib.hid hO
        replace hOz := Lib.hid hOz
        replace hK := Lib.hid hK
        replace hS := Lib.hid hS
        replace hF := Lib.hid hF
        replace hbr := Lib.hid hbr
        replace hks := Lib.hid hks
        replace hlen := Lib.hid hlen
        replace hql := Lib.hid hql
        replace hol := Lib.hid hol
        replace c54 := Lib.hid c54
        clear hM hq hTx
        obtain ⟨nd, hnd0⟩ : ∃ n, done.length = n := ⟨_, rfl⟩
        rw [hnd0] at hK ⊢
        replace hnd0 := Lib.hid hnd0
        go_wp2_with (first
          | (go_at_call 165; (with_reducible refine ct.mono ?_); rintro e w1 ⟨rfl, ⟨⟨q1, h1, hq1⟩, f1⟩⟩; have k2 := cm.out w1 q1 h1 hq1; replace f1 := Lib.hid f1; replace h1 := Lib.hid h1; replace hq1 := Lib.hid hq1)
          | (go_at_call 145; (with_reducible refine k2.mono ?_); rintro e w2 ⟨rfl, ⟨⟨q2, h2, hq2⟩, f2⟩⟩; have F := f1.out.trans f2; have K2 := hK.out.frX (FrX.of_fr (bv := bvr) F) (by omega) (by omega); have hsz2 := F.size; have own2 := K2.own; rw [hnd0.out] at own2; have b2 := own_fr hbr.out F hLB hRB; have hND := hN.out w2; replace f2 := Lib.hid f2; replace h2 := Lib.hid h2; replace hq2 := Lib.hid hq2; replace F := Lib.hid F; replace K2 := Lib.hid K2; replace hND := Lib.hid hND; replace b2 := Lib.hid b2)
          | (at_builtin; refine wpList_append_own_at _ rfl (.tmp 34) (.tmp 37) 68 rfl w.heap.size 70 i0 _ 5 96 Tryz.underlying68 hi0 hz0 hz1 hz2 rfl (by decide) _ _ _ rfl (own2.alloc _) ⟨w2.heap.size, 0, none⟩ 1 1 [.string ⟨#[]⟩, .string ⟨#[]⟩, .string TO, .slice none 0 0, .slice none 0 0] rfl rfl (five_new _ _ _ _ _ _ _) (five_one _ _ _ _ _ rfl rfl) (by have := hlen.out; have := hnd0.out; unfold maxLen; omega) (by have := hlen.out; have := hnd0.out; omega) (by simp; omega) ?_; intro v5 w5 hown5 hg5 _ hat5; have hown8 := hown5; rw [← hnd0.out] at hown8; have hv2 := b2.out.lt; have K5 := K2.out.add hND.out (by simp) (by simp) (fun j e => (hv2 j e).2) hown8 hg5 hat5; have B5 : Below w.heap.size w2 w5 := ((Below.refl w.heap.size w2).alloc (by omega) _).grown hg5 (by simp; omega) (fun j hj => (own2.lt j hj).1); have b5 := own_grown b2.out hg5 (fun j e => K2.out.ne j e); have h5 := h2.out.belowB B5 hLw hRw hAB.out; have c5 := h5.rdr.cell 0; have k3 := c54.out w5 q2 h5 hq2.out; obtain ⟨a5, cp5, rfl⟩ := sl_of hown5; replace K5 := Lib.hid K5; replace B5 := Lib.hid B5; replace b5 := Lib.hid b5; replace h5 := Lib.hid h5; replace hown5 := Lib.hid hown5; replace hown8 := Lib.hid hown8; replace hg5 := Lib.hid hg5; replace hat5 := Lib.hid hat5)
          | (go_at_call 42; (with_reducible refine k3.mono ?_); rintro e w3 ⟨rfl, h3, f3⟩; replace f3 := Lib.hid f3; replace h3 := Lib.hid h3))
        go_ret2
        obtain ⟨bk, hks1, hbk⟩ := (K5.out.frX (FrX.of_fr (bv := bvr) f3.out) (by omega) (by omega)).ks
        refine ⟨_, _, _, bk, bvr, rfl, ?_, hbk, ⟨_, h3.out, hx4.out q2 hq2.out⟩, own_fr b5.out f3.out hLB hRB, ((hF.out.trans (FrX.of_fr F.out)).tail B5.out).trans (FrX.of_fr f3.out)⟩
        rw [← hks.out]
        exact hks1
    | elem _ _ m3 _ _ _ o r2 r3 k ks2 _ hTx hM hx3 hEl hC2 =>
      have hol := txt_len hTx
      obtain ⟨O, hO⟩ : ∃ O : ByteArray, (⟨o.toArray⟩ : ByteArray) = O := ⟨_, rfl⟩
      have hOz : O.size = o.length := by rw [← hO]; simp [ByteArray.size]
      have ct : Calls Tryz.prog 165 #[.pointer (some ⟨R, 0, none⟩), .int .i64 (-1)] wr fun e w' => e = .returned (.tuple #[.string ⟨o.toArray⟩, .int .i64 0]) ∧ End wr L R bvr A c bs m1 r2 w' := xml_text (-1) (by omega) hS hq hTx
      rw [hO] at ct
      have cm := fun w1 q1 (h1 : RS w1 L R bvr A c bs q1 m1) (hq1 : Rest bs q1 r2) => xml_misc h1 hq1 hM
      have hlE := elemX_len hEl
      have c54 : ∀ w2 q2, RS w2 L R bvr A c bs q2 m1 → Rest bs q2 r2 → Calls Tryz.prog 42 #[.pointer (some ⟨L, 0, none⟩), .string ⟨#[60, 47]⟩] w2 fun e w' => e = .returned (.bool false) ∧ RS w' L R bvr A c bs q2 m1 ∧ Fr L R w2 w' := fun w2 q2 h2 hq2 => rs_no h2 ⟨#[60, 47]⟩ (by decide) (by decide) (by rw [hq2.eq]; exact hx3)
      have cE := fun w3 q3 (hz : B0 ≤ w3.heap.size) (h3 : RS w3 L R bvr A c bs q3 m1) (hb3 : Bnd w3 B0 bvr B) (hq3 : Rest bs q3 r2) => hE.out w3 bvr q3 m1 B r2 k m3 r3 hz h3 hb3 hq3 hEl
      replace cE := Lib.hid cE
      replace hC2 := Lib.hid hC2
      replace hlE := Lib.hid hlE
      clear hx3 hEl
      by_cases hemp : o = []
      · rw [if_pos hemp, List.nil_append] at hks
        have eO : O = ⟨#[]⟩ := by rw [← hO, hemp]
        rw [eO] at ct
        clear eO
        replace hemp := Lib.hid hemp
        replace cm := Lib.hid cm
        replace hO := Lib.hid hO
        replace hOz := Lib.hid hOz
        replace hK := Lib.hid hK
        replace hS := Lib.hid hS
        replace hF := Lib.hid hF
        replace hbr := Lib.hid hbr
        replace hks := Lib.hid hks
        replace hlen := Lib.hid hlen
        replace hql := Lib.hid hql
        replace hol := Lib.hid hol
        replace c54 := Lib.hid c54
        clear hM hq hTx
        obtain ⟨nd, hnd0⟩ : ∃ n, done.length = n := ⟨_, rfl⟩
        rw [hnd0] at hK ⊢
        replace hnd0 := Lib.hid hnd0
        go_wp2_with (first
          | (go_at_call 165; (with_reducible refine ct.mono ?_); rintro e w1 ⟨rfl, ⟨⟨q1, h1, hq1⟩, f1⟩⟩; have k2 := cm.out w1 q1 h1 hq1; replace f1 := Lib.hid f1; replace h1 := Lib.hid h1; replace hq1 := Lib.hid hq1)
          | (go_at_call 145; (with_reducible refine k2.mono ?_); rintro e w2 ⟨rfl, ⟨⟨q2, h2, hq2⟩, f2⟩⟩; have c2 := h2.rdr.cell 0; have F := f1.out.trans f2; have k3 := c54.out w2 q2 h2 hq2; replace f2 := Lib.hid f2; replace h2 := Lib.hid h2; replace hq2 := Lib.hid hq2; replace F := Lib.hid F)
          | (go_at_call 42; (with_reducible refine k3.mono ?_); rintro e w3 ⟨rfl, h3, f3⟩; have F3 := F.out.trans f3; have K3 := hK.out.frX (FrX.of_fr (bv := bvr) F3) (by omega) (by omega); have hv3 := K3.own.lt; have b3 := own_fr hbr.out F3 hLB hRB; have hz3 := F3.size; have k4 := cE.out w3 q2 (by omega) h3 b3 hq2.out; replace f3 := Lib.hid f3; replace h3 := Lib.hid h3; replace F3 := Lib.hid F3; replace K3 := Lib.hid K3; replace hv3 := Lib.hid hv3; replace b3 := Lib.hid b3)
          | (go_at_call 118; (with_reducible refine k4.mono ?_); rintro e w6 ⟨S, N, a1, n1, c1, a2, n2, c2, bl, bv6, rfl, hnd, hbl, ⟨q6, h6, hq6⟩, b6, f6⟩; have hba : Below w6.heap.size w6 (w6.alloc (.cells #[.string S, .string N, .string ⟨#[]⟩, .slice a1 n1 c1, .slice a2 n2 c2] 70)) := (Below.refl _ _).alloc (Nat.le_refl _) _; have K6 := (K3.out.frX f6 (by omega) (by omega)).frX (FrX.of_fr (bv := bv6) (Fr.of_below (L := L) (R := R) hba)) (by omega) (by omega); have own6 := K6.own; have hsz36 := f6.size; have hnd6 := hnd.keep (fun j hj => hba.block j (hbl j hj).2.1); have h66 := h6.below hba; have b66 := own_belowB b6 hba; have hs61 : (w6.alloc (.cells #[.string S, .string N, .string ⟨#[]⟩, .slice a1 n1 c1, .slice a2 n2 c2] 70)).heap.size = w6.heap.size + 1 := World.size_alloc _ _; replace f6 := Lib.hid f6; replace h6 := Lib.hid h6; replace hq6 := Lib.hid hq6; replace hnd := Lib.hid hnd; replace hbl := Lib.hid hbl; replace hba := Lib.hid hba; replace K6 := Lib.hid K6; replace hnd6 := Lib.hid hnd6; replace h66 := Lib.hid h66; replace b6 := Lib.hid b6; replace b66 := Lib.hid b66; replace hs61 := Lib.hid hs61; rw [hnd0.out] at own6)
          | (at_builtin; refine wpList_append_own_at _ rfl (.tmp 55) (.tmp 57) 68 rfl w.heap.size 70 i0 _ 5 96 Tryz.underlying68 hi0 hz0 hz1 hz2 rfl (by decide) _ _ _ rfl (own6.alloc _) ⟨w6.heap.size + 1, 0, none⟩ 1 1 [.string S, .string N, .string ⟨#[]⟩, .slice a1 n1 c1, .slice a2 n2 c2] rfl rfl (by have := five_new (w6.alloc (.cells #[.string S, .string N, .string ⟨#[]⟩, .slice a1 n1 c1, .slice a2 n2 c2] 70)) (.string S) (.string N) (.string ⟨#[]⟩) (.slice a1 n1 c1) (.slice a2 n2 c2) 70; rw [hs61.out] at this; exact this) (five_one _ _ _ _ _ rfl rfl) (by have := hlen.out; have := hnd0.out; unfold maxLen; omega) (by have := hlen.out; have := hnd0.out; omega) (by simp; omega) ?_; intro v7 w7 hown7 hg7 _ hat7; have hown8 := hown7; rw [← hnd0.out] at hown8; have hv6 := b66.out.lt; have K7 := K6.out.add hnd6.out (fun j hj => ⟨by have := (hbl.out j hj).1; omega, by rw [hs61.out]; have := (hbl.out j hj).2.1; omega, (hbl.out j hj).2.2⟩) (fun j hj e => by have := (hv3.out j e).2; have := (hbl.out j hj).1; omega) (fun j e => (hv6 j e).2) hown8 hg7 hat7; have B7 : Below w.heap.size w6 w7 := (((Below.refl w.heap.size w6).alloc (by omega) _).alloc (by rw [hs61.out]; omega) _).grown hg7 (by simp; omega) (fun j hj => (own6.lt j hj).1); have b7 := own_grown b66.out hg7 (fun j e => K6.out.ne j e); have h7 := h6.out.belowB B7 hLw hRw hAB.out; replace K7 := Lib.hid K7; replace B7 := Lib.hid B7; replace b7 := Lib.hid b7; replace h7 := Lib.hid h7; replace hown7 := Lib.hid hown7; replace hg7 := Lib.hid hg7; replace hat7 := Lib.hid hat7))
        have l3 := hlen.out
        have l4 := hql.out
        have l5 := hlE.out
        have l6 := hq6.out.len
        have l7 := hnd0.out
        have l8 := hol.out
        go_roundw
        case rel => exact ⟨q6, m3, bv6, r3, done ++ [k], ks2, _, _, hq6.out, hC2.out, by rw [← hks.out]; simp, rfl, K7.out, by simp; omega, h7.out, b7.out, (hF.out.trans ((FrX.of_fr F3.out).trans f6.out)).tail B7.out⟩
        case measure => rw [h7.out.pos, hpos.out]; omega
      · rw [if_neg hemp] at hks
        obtain ⟨TO, hTO⟩ : ∃ TO : ByteArray, (⟨#[]⟩ : ByteArray) ++ O = TO := ⟨_, rfl⟩
        have hTO2 : (⟨o.toArray⟩ : ByteArray) = TO := by rw [← hTO, ← hO]; apply bytes_ext; simp
        have hN : ∀ w, NxAt w (.tx o) [.string ⟨#[]⟩, .string ⟨#[]⟩, .string TO, .slice none 0 0, .slice none 0 0] [] := fun w => by rw [← hTO2]; exact .tx _
        have s2 : O.size ≤ 10000000 := by omega
        have hTl2 : ¬ TO.toList = [] := by rw [ByteArray.toList_eq, ← hTO2]; simpa using hemp
        have hTl3 : (TO.toList == []) = false := by simpa using hTl2
        have hTl4 : TO.toList.isEmpty = false := by simpa using hTl2
        have hol1 : 1 ≤ o.length := by cases o with | nil => exact absurd rfl hemp | cons => simp
        replace hN := Lib.hid hN
        replace hTO2 := Lib.hid hTO2
        replace hemp := Lib.hid hemp
        replace hol1 := Lib.hid hol1
        replace cm := Lib.hid cm
        replace hO := Lib.hid hO
        replace hOz := Lib.hid hOz
        replace hK := Lib.hid hK
        replace hS := Lib.hid hS
        replace hF := Lib.hid hF
        replace hbr := Lib.hid hbr
        replace hks := Lib.hid hks
        replace hlen := Lib.hid hlen
        replace hql := Lib.hid hql
        replace hol := Lib.hid hol
        replace c54 := Lib.hid c54
        clear hM hq hTx
        obtain ⟨nd, hnd0⟩ : ∃ n, done.length = n := ⟨_, rfl⟩
        rw [hnd0] at hK ⊢
        replace hnd0 := Lib.hid hnd0
        have hnd1 : (done ++ [Nx.tx o]).length = nd + 1 := by rw [List.length_append, hnd0.out]; rfl
        replace hnd1 := Lib.hid hnd1
        go_wp2_with (first
          | (go_at_call 165; (with_reducible refine ct.mono ?_); rintro e w1 ⟨rfl, ⟨⟨q1, h1, hq1⟩, f1⟩⟩; have k2 := cm.out w1 q1 h1 hq1; replace f1 := Lib.hid f1; replace h1 := Lib.hid h1; replace hq1 := Lib.hid hq1)
          | (go_at_call 145; (with_reducible refine k2.mono ?_); rintro e w2 ⟨rfl, ⟨⟨q2, h2, hq2⟩, f2⟩⟩; have F := f1.out.trans f2; have K2 := hK.out.frX (FrX.of_fr (bv := bvr) F) (by omega) (by omega); have hsz2 := F.size; have own2 := K2.own; rw [hnd0.out] at own2; have b2 := own_fr hbr.out F hLB hRB; have hND := hN.out w2; replace f2 := Lib.hid f2; replace h2 := Lib.hid h2; replace hq2 := Lib.hid hq2; replace F := Lib.hid F; replace K2 := Lib.hid K2; replace hND := Lib.hid hND; replace b2 := Lib.hid b2)
          | (at_builtin; refine wpList_append_own_at _ rfl (.tmp 34) (.tmp 37) 68 rfl w.heap.size 70 i0 _ 5 96 Tryz.underlying68 hi0 hz0 hz1 hz2 rfl (by decide) _ _ _ rfl (own2.alloc _) ⟨w2.heap.size, 0, none⟩ 1 1 [.string ⟨#[]⟩, .string ⟨#[]⟩, .string TO, .slice none 0 0, .slice none 0 0] rfl rfl (five_new _ _ _ _ _ _ _) (five_one _ _ _ _ _ rfl rfl) (by have := hlen.out; have := hnd0.out; unfold maxLen; omega) (by have := hlen.out; have := hnd0.out; omega) (by simp; omega) ?_; intro v5 w5 hown5 hg5 _ hat5; have hown8 := hown5; rw [← hnd0.out] at hown8; have hv2 := b2.out.lt; have K5 := K2.out.add hND.out (by simp) (by simp) (fun j e => (hv2 j e).2) hown8 hg5 hat5; have B5 : Below w.heap.size w2 w5 := ((Below.refl w.heap.size w2).alloc (by omega) _).grown hg5 (by simp; omega) (fun j hj => (own2.lt j hj).1); have b5 := own_grown b2.out hg5 (fun j e => K2.out.ne j e); have h5 := h2.out.belowB B5 hLw hRw hAB.out; have c5 := h5.rdr.cell 0; have k3 := c54.out w5 q2 h5 hq2.out; obtain ⟨a5, cp5, rfl⟩ := sl_of hown5; replace K5 := Lib.hid K5; replace B5 := Lib.hid B5; replace b5 := Lib.hid b5; replace h5 := Lib.hid h5; replace hown5 := Lib.hid hown5; replace hown8 := Lib.hid hown8; replace hg5 := Lib.hid hg5; replace hat5 := Lib.hid hat5)
          | (go_at_call 42; (with_reducible refine k3.mono ?_); rintro e w3 ⟨rfl, h3, f3⟩; have K3 := K5.out.frX (FrX.of_fr (bv := bvr) f3) (by omega) (by omega); have hv3 := K3.own.lt; have b3 := own_fr b5.out f3 hLB hRB; have hz3 := f3.size; have hz5 := B5.out.size; have k4 := cE.out w3 q2 (by omega) h3 b3 hq2.out; replace f3 := Lib.hid f3; replace h3 := Lib.hid h3; replace K3 := Lib.hid K3; replace hv3 := Lib.hid hv3; replace b3 := Lib.hid b3)
          | (go_at_call 118; (with_reducible refine k4.mono ?_); rintro e w6 ⟨S, N, a1, n1, c1, a2, n2, c2, bl, bv6, rfl, hnd, hbl, ⟨q6, h6, hq6⟩, b6, f6⟩; have hba : Below w6.heap.size w6 (w6.alloc (.cells #[.string S, .string N, .string ⟨#[]⟩, .slice a1 n1 c1, .slice a2 n2 c2] 70)) := (Below.refl _ _).alloc (Nat.le_refl _) _; have K6 := (K3.out.frX f6 (by omega) (by omega)).frX (FrX.of_fr (bv := bv6) (Fr.of_below (L := L) (R := R) hba)) (by omega) (by omega); have own6 := K6.own; have hsz36 := f6.size; have hnd6 := hnd.keep (fun j hj => hba.block j (hbl j hj).2.1); have h66 := h6.below hba; have b66 := own_belowB b6 hba; have hs61 : (w6.alloc (.cells #[.string S, .string N, .string ⟨#[]⟩, .slice a1 n1 c1, .slice a2 n2 c2] 70)).heap.size = w6.heap.size + 1 := World.size_alloc _ _; replace f6 := Lib.hid f6; replace h6 := Lib.hid h6; replace hq6 := Lib.hid hq6; replace hnd := Lib.hid hnd; replace hbl := Lib.hid hbl; replace hba := Lib.hid hba; replace K6 := Lib.hid K6; replace hnd6 := Lib.hid hnd6; replace h66 := Lib.hid h66; replace b6 := Lib.hid b6; replace b66 := Lib.hid b66; replace hs61 := Lib.hid hs61; rw [hnd1.out] at own6)
          | (at_builtin; refine wpList_append_own_at _ rfl (.tmp 55) (.tmp 57) 68 rfl w.heap.size 70 i0 _ 5 96 Tryz.underlying68 hi0 hz0 hz1 hz2 rfl (by decide) _ _ _ rfl (own6.alloc _) ⟨w6.heap.size + 1, 0, none⟩ 1 1 [.string S, .string N, .string ⟨#[]⟩, .slice a1 n1 c1, .slice a2 n2 c2] rfl rfl (by have := five_new (w6.alloc (.cells #[.string S, .string N, .string ⟨#[]⟩, .slice a1 n1 c1, .slice a2 n2 c2] 70)) (.string S) (.string N) (.string ⟨#[]⟩) (.slice a1 n1 c1) (.slice a2 n2 c2) 70; rw [hs61.out] at this; exact this) (five_one _ _ _ _ _ rfl rfl) (by have := hlen.out; have := hnd0.out; unfold maxLen; omega) (by have := hlen.out; have := hnd0.out; omega) (by simp; omega) ?_; intro v7 w7 hown7 hg7 _ hat7; have hown8 := hown7; rw [← hnd1.out] at hown8; have hv6 := b66.out.lt; have K7 := K6.out.add hnd6.out (fun j hj => ⟨by have := (hbl.out j hj).1; omega, by rw [hs61.out]; have := (hbl.out j hj).2.1; omega, (hbl.out j hj).2.2⟩) (fun j hj e => by have := (hv3.out j e).2; have := (hbl.out j hj).1; omega) (fun j e => (hv6 j e).2) hown8 hg7 hat7; have B7 : Below w.heap.size w6 w7 := (((Below.refl w.heap.size w6).alloc (by omega) _).alloc (by rw [hs61.out]; omega) _).grown hg7 (by simp; omega) (fun j hj => (own6.lt j hj).1); have b7 := own_grown b66.out hg7 (fun j e => K6.out.ne j e); have h7 := h6.out.belowB B7 hLw hRw hAB.out; replace K7 := Lib.hid K7; replace B7 := Lib.hid B7; replace b7 := Lib.hid b7; replace h7 := Lib.hid h7; replace hown7 := Lib.hid hown7; replace hg7 := Lib.hid hg7; replace hat7 := Lib.hid hat7))
        have l3 := hlen.out
        have l4 := hql.out
        have l5 := hlE.out
        have l6 := hq6.out.len
        have l7 := hnd0.out
        have l8 := hol.out
        have l9 := hol1.out
        have l10 := hnd1.out
        go_roundw
        case rel => exact ⟨q6, m3, bv6, r3, (done ++ [Nx.tx o]) ++ [k], ks2, _, _, hq6.out, hC2.out, by rw [← hks.out]; simp, rfl, K7.out, by simp; omega, h7.out, b7.out, (((hF.out.trans (FrX.of_fr F.out)).tail B5.out).trans ((FrX.of_fr f3.out).trans f6.out)).tail B7.out⟩
        case measure => rw [h7.out.pos, hpos.out]; omega
end Go.Proofs.YtkpikpaepgknnaaGreatDoor

/- The reader reads an element without texts. No condition. -/
namespace Go.Proofs.YtkpikpaepgknnaaGreatDoor
open Go Go.RowKit Go.Wk Go.Xt Go.Xe
theorem Bnd.cap {w : World} {B0 n cap : Nat} {a : Option Addr} {B : List (List UInt8 × List UInt8)} (h : Bnd w B0 (.slice a n cap) B) : n = B.length ∧ B.length ≤ cap := by
  unfold Bnd at h
  rcases h.2 with ⟨e, h0⟩ | ⟨g, cap', cur, e, rest⟩
  · cases e; omega
  · cases e
    simp_all
set_option maxHeartbeats 4000000 in
set_option maxRecDepth 100000 in
theorem xml_elemP_shut {w : World} {L R B0 c p m d : Nat} {bv : Value} {A : Option Addr} {bs r r' pre nm sp so : List UInt8} {B E : List (List UInt8 × List UInt8)} {l o : List (List UInt8 × List UInt8 × List UInt8)} (hd : d ≤ 900) (hLB : L < B0) (hRB : R < B0) (hA0 : 0 < bs.length → ∀ x, A = some x → x.block < B0) (hB0 : B0 ≤ w.heap.size) (h : RS w L R bv A c bs p m) (hb : Bnd w B0 bv B) (hr : Rest bs p r) (hm : m < 4000) (hM : MarkP r pre nm l true r') (hS : Says B E pre sp so l o) :
    Calls Tryz.prog 118 #[.pointer (some ⟨R, 0, none⟩), .int .i64 ((d : Int) + 1)] w (ElemQ w L R B0 bv A c bs B (.el sp nm (attsX so o) []) (m + 1) r') := by
  have hb0 : Below w.heap.size w (w.alloc (.cells z5 70)) := (Below.refl _ _).alloc (Nat.le_refl _) _
  have h0 := h.below hb0
  have hb1 := own_belowB hb hb0
  have hnew := Blk.new w 70 z5
  have hRlt := h.rdr.lt
  have hLlt := h.cur.L_lt
  have hAlt := Lib.hid h.A_lt
  obtain ⟨N, hN⟩ : ∃ N : ByteArray, str nm = .string N := ⟨_, rfl⟩
  obtain ⟨P, hP⟩ : ∃ N : ByteArray, str pre = .string N := ⟨_, rfl⟩
  obtain ⟨S, hSS⟩ : ∃ N : ByteArray, str sp = .string N := ⟨_, rfl⟩
  have hdi : (((d + 1 : Nat) : Int)) = (d : Int) + 1 := by omega
  have hsw : (w.alloc (.cells z5 70)).heap.size = w.heap.size + 1 := World.size_alloc _ _
  have cm := xml_markP (d + 1) (by omega) (by omega) hm hS h0 hr hM hb1 hLB hRB (by omega) hA0
  unfold MarkR at cm
  rw [hN, hP, hSS, hdi] at cm
  have hbl := hb.lt
  obtain ⟨E2, hE2⟩ := bindsOf_app l B
  have hEE : E = B ++ E2 := by rw [← hE2]; exact hS.new.symm
  obtain ⟨ab, cb, rfl⟩ := sl_of hb
  have c02 := h0.rdr.cell 2
  have hBE : B.length ≤ E.length := by rw [hEE]; simp
  obtain ⟨nb, hnb⟩ : ∃ n, n = B.length := ⟨_, rfl⟩
  obtain ⟨ne, hne⟩ : ∃ n, n = E.length := ⟨_, rfl⟩
  rw [← hnb] at cm c02 h0 hb1 hbl hBE hb h ⊢
  rw [← hne] at hBE
  have hbs : nb ≤ 1000 := by rw [hnb]; exact hS.small
  replace hnb := Lib.hid hnb
  replace hne := Lib.hid hne
  replace hN := Lib.hid hN
  replace hP := Lib.hid hP
  replace hSS := Lib.hid hSS
  replace h0 := Lib.hid h0
  replace hb0 := Lib.hid hb0
  replace hb1 := Lib.hid hb1
  replace hnew := Lib.hid hnew
  replace hEE := Lib.hid hEE
  replace hbl := Lib.hid hbl
  replace hsw := Lib.hid hsw
  clear h hr hM hdi hb hS hE2
  go_enter Tryz.func118, Tryz.ntmps118
  go_wp2_with (go_at_call 146; (with_reducible refine cm.mono ?_); rintro e w1 ⟨bv1, av, rfl, ⟨q1, h1, hq1⟩, b1, f1, t1⟩; obtain ⟨bo, tA, hbo⟩ := t1.atX; obtain ⟨ab1, cb1, rfl⟩ := sl_of b1; have hc1 := b1.cap.2; rw [← hne.out] at hc1 b1 f1 h1 hbo; have hav : ∃ a n cp, av = .slice a n cp := (by rcases tA with ⟨_, e, _⟩ | ⟨_, _, _, _, e, _⟩ <;> exact ⟨_, _, _, e⟩); obtain ⟨a1, n1, c1, rfl⟩ := hav; have hz4 : Blk w1 w.heap.size 70 z5 := (f1.block w.heap.size (by rw [hsw.out]; omega) (by omega) (by omega) (fun e => by have := (hbl.out _ e).2; omega)).trans hnew.out; have hbn : Below w1.heap.size w1 (w1.alloc (.cells #[.string S, .string N, .string ⟨#[]⟩, .slice a1 n1 c1, .slice none 0 0] 70)) := (Below.refl _ _).alloc (Nat.le_refl _) _; have h11 := h1.below hbn; have c21 := h1.rdr.cell 2; have f21 := h1.rdr.frozen 2; have hR1 : R < w1.heap.size := h1.rdr.lt; have hg4 : w.heap.size < w1.heap.size := hz4.lt; have a0 := hz4.cell 0; have a1' := hz4.cell 1; have a2 := hz4.cell 2; have a3 := hz4.cell 3; have a4 := hz4.cell 4; have y0 := hz4.frozen 0; have y1 := hz4.frozen 1; have y2 := hz4.frozen 2; have y3 := hz4.frozen 3; have y4 := hz4.frozen 4; replace h11 := Lib.hid h11; replace hbn := Lib.hid hbn; replace h1 := Lib.hid h1; replace hz4 := Lib.hid hz4; replace tA := Lib.hid tA; replace hbo := Lib.hid hbo; replace hq1 := Lib.hid hq1; replace f1 := Lib.hid f1; replace b1 := Lib.hid b1)
  have eB : ∀ n, (Value.slice ab1 n cb1).ownBlock = (Value.slice ab1 ne cb1).ownBlock := fun n => by cases ab1 <;> rfl
  have X1 := (FrX.of_fr (bv := .slice ab nb cb) (Fr.of_below (L := L) (R := R) hb0.out)).trans f1.out
  have hbw : (Value.slice ab1 ne cb1).ownBlock ≠ some w.heap.size := fun e => by
    rcases f1.out.own with h5 | h5
    · rw [h5] at e; have := (hbl.out _ e).2; omega
    · have := h5 _ e; rw [hsw.out] at this; omega
  have hb2 : Bnd w1 B0 (.slice ab1 nb cb1) B := by
    have := b1.out
    rw [hEE.out] at this
    rw [hnb.out]
    exact this.take
  have hb3 := own_farB (u := .slice ab1 nb cb1) (p := ⟨R, 2, none⟩) hb2 hRB
  have hzR : Blk (w1.setCell ⟨R, 2, none⟩ (.slice ab1 nb cb1)) w.heap.size 70 z5 := hz4.out.far (by show w.heap.size ≠ R; omega) _
  have hV := put5_blk hzR (.string S) (.string N) (.string ⟨#[]⟩) (.slice a1 n1 c1) (.slice none 0 0)
  have hVS := put5_save (w1.setCell ⟨R, 2, none⟩ (.slice ab1 nb cb1)) w.heap.size (.string S) (.string N) (.string ⟨#[]⟩) (.slice a1 n1 c1) (.slice none 0 0)
  have hR2 := h1.out.setB (.slice ab1 nb cb1)
  have hSR : Save R w1 (w1.setCell ⟨R, 2, none⟩ (.slice ab1 nb cb1)) := (Save.refl R w1).store 2 _
  unfold put5 at hV hVS
  obtain ⟨U, hU⟩ : ∃ U, U = (((((w1.setCell ⟨R, 2, none⟩ (.slice ab1 nb cb1)).setCell ⟨w.heap.size, 0, none⟩ (.string S)).setCell ⟨w.heap.size, 1, none⟩ (.string N)).setCell ⟨w.heap.size, 2, none⟩ (.string ⟨#[]⟩)).setCell ⟨w.heap.size, 3, none⟩ (.slice a1 n1 c1)).setCell ⟨w.heap.size, 4, none⟩ (.slice none 0 0) := ⟨_, rfl⟩
  rw [← hU] at hV hVS ⊢
  have hbU : Below U.heap.size U (U.alloc (.cells #[.string S, .string N, .string ⟨#[]⟩, .slice a1 n1 c1, .slice none 0 0] 70)) := (Below.refl _ _).alloc (Nat.le_refl _) _
  have hV2 := hV.alloc (.cells #[.string S, .string N, .string ⟨#[]⟩, .slice a1 n1 c1, .slice none 0 0] 70)
  generalize (U.alloc (.cells #[.string S, .string N, .string ⟨#[]⟩, .slice a1 n1 c1, .slice none 0 0] 70)) = V at *
  have r0 := hV2.cell 0
  have r1 := hV2.cell 1
  have r2 := hV2.cell 2
  have r3 := hV2.cell 3
  have r4 := hV2.cell 4
  have hSV : Save w.heap.size (w1.setCell ⟨R, 2, none⟩ (.slice ab1 nb cb1)) V := hVS.trans (Save.of_below hbU)
  have hsz2 : (w1.setCell ⟨R, 2, none⟩ (.slice ab1 nb cb1)).heap.size = w1.heap.size := by simp [World.setCell]
  have hsV := hSV.size
  rw [hsz2] at hsV
  have hkeep : ∀ k, k < w1.heap.size → k ≠ R → k ≠ w.heap.size → V.heap[k]? = w1.heap[k]? := fun k h1 h2 h3 => (hSV.block k (by rw [hsz2]; exact h1) h3).trans (hSR.block k h1 h2)
  refine bodyPost_ret (v := .tuple #[.agg #[.string S, .string N, .string ⟨#[]⟩, .slice a1 n1 c1, .slice none 0 0], .int .i64 0]) (by simp [results, Tryz.results40, go_sem, r0, r1, r2, r3, r4]) rfl ⟨S, N, a1, n1, c1, none, 0, 0, bo ++ [], .slice ab1 nb cb1, rfl, ?_, ?_, ⟨q1, ?_, hq1.out⟩, ?_, ?_⟩
  · rw [← hN.out, ← hSS.out]
    exact .el sp nm (attsX so o) [] _ _ bo [] (tA.out.keep fun k hk => hkeep k (hbo.out k hk).2.1 (by have := (hbo.out k hk).1; rw [hsw.out] at this; omega) (by have := (hbo.out k hk).1; rw [hsw.out] at this; omega)) .nil
  · intro k hk
    rw [List.append_nil] at hk
    have h5 := hbo.out k hk
    rw [hsw.out] at h5
    exact ⟨by omega, by omega, by rw [eB]; exact h5.2.2⟩
  · exact hR2.belowB (hSV.below (Nat.le_refl _) (by omega)) hLlt hRlt hAlt.out
  · exact own_save hb3 hSV (by rw [eB]; exact hbw)
  · refine ⟨hSV.os.trans (hSR.os.trans X1.os), hSV.tape.trans (hSR.tape.trans X1.tape), hSV.output.trans (hSR.output.trans X1.output), by have := X1.size; omega, fun k h1 h2 h3 h4 => (hkeep k (by have := X1.size; omega) h3 (by omega)).trans (X1.block k h1 h2 h3 h4), ?_⟩
    rw [eB]
    exact X1.own
set_option maxHeartbeats 8000000 in
set_option maxRecDepth 100000 in
theorem xml_elemP_open {w : World} {L R B0 c p m m2 d : Nat} {bv : Value} {A : Option Addr} {bs r r1 r2 r3 r' pre nm sp so : List UInt8} {B E : List (List UInt8 × List UInt8)} {l o : List (List UInt8 × List UInt8 × List UInt8)} {ks : List Nx} (hd : d ≤ 900) (hE : ElemD L R B0 A c bs d) (hLB : L < B0) (hRB : R < B0) (hA0 : 0 < bs.length → ∀ x, A = some x → x.block < B0) (hB0 : B0 ≤ w.heap.size) (h : RS w L R bv A c bs p m) (hb : Bnd w B0 bv B) (hr : Rest bs p r) (hm : m < 4000) (hM : MarkP r pre nm l false r1) (hS : Says B E pre sp so l o)
    (hK : ContX (d + 1) (m + 1) E r1 ks m2 r2) (hn : FullN r2 pre nm r3) (hend : r3.drop (ws r3) = 62 :: r') :
    Calls Tryz.prog 118 #[.pointer (some ⟨R, 0, none⟩), .int .i64 ((d : Int) + 1)] w (ElemQ w L R B0 bv A c bs B (.el sp nm (attsX so o) ks) m2 r') := by
  have hb0 : Below w.heap.size w (w.alloc (.cells z5 70)) := (Below.refl _ _).alloc (Nat.le_refl _) _
  have h0 := h.below hb0
  have hb1 := own_belowB hb hb0
  have hnew := Blk.new w 70 z5
  have hRlt := h.rdr.lt
  have hLlt := h.cur.L_lt
  have hAlt := Lib.hid h.A_lt
  obtain ⟨N, hN⟩ : ∃ N : ByteArray, str nm = .string N := ⟨_, rfl⟩
  obtain ⟨P, hP⟩ : ∃ N : ByteArray, str pre = .string N := ⟨_, rfl⟩
  obtain ⟨S, hSS⟩ : ∃ N : ByteArray, str sp = .string N := ⟨_, rfl⟩
  have hdi : (((d + 1 : Nat) : Int)) = (d : Int) + 1 := by omega
  have hsw : (w.alloc (.cells z5 70)).heap.size = w.heap.size + 1 := World.size_alloc _ _
  have cm := xml_markP (d + 1) (by omega) (by omega) hm hS h0 hr hM hb1 hLB hRB (by omega) hA0
  unfold MarkR at cm
  rw [hN, hP, hSS, hdi] at cm
  have hbl := hb.lt
  obtain ⟨E2, hE2⟩ := bindsOf_app l B
  have hEE : E = B ++ E2 := by rw [← hE2]; exact hS.new.symm
  obtain ⟨ab, cb, rfl⟩ := sl_of hb
  have c02 := h0.rdr.cell 2
  have hBE : B.length ≤ E.length := by rw [hEE]; simp
  obtain ⟨nb, hnb⟩ : ∃ n, n = B.length := ⟨_, rfl⟩
  obtain ⟨ne, hne⟩ : ∃ n, n = E.length := ⟨_, rfl⟩
  rw [← hnb] at cm c02 h0 hb1 hbl hBE hb h ⊢
  rw [← hne] at hBE
  have hbs : nb ≤ 1000 := by rw [hnb]; exact hS.small
  have cc : ∀ W u q, B0 ≤ W.heap.size → RS W L R u A c bs q (m + 1) → Bnd W B0 u E → Rest bs q r1 → Calls Tryz.prog 147 #[.pointer (some ⟨R, 0, none⟩), .int .i64 ((d : Int) + 1)] W (ContQ W L R B0 u A c bs E ks m2 r2) := fun W u q hz hW hu hq => xml_contentP (by omega) hE hW hu hLB hRB hz hA0 hq hK
  have cf : ∀ W u q, RS W L R u A c bs q m2 → Rest bs q r2 → Calls Tryz.prog 148 #[.pointer (some ⟨R, 0, none⟩)] W fun e w' => e = .returned (.tuple #[.string P, .string N, .int .i64 0]) ∧ End W L R u A c bs m2 r3 w' := fun W u q hW hq => by
    have := xml_fullN hW hq hn
    rw [hP, hN] at this
    exact this
  have cb9 : ∀ W u q, RS W L R u A c bs q m2 → Rest bs q r3 → Calls Tryz.prog 144 #[.pointer (some ⟨R, 0, none⟩)] W fun e w' => e = .returned (.int .i64 (ws r3 : Nat)) ∧ RS w' L R u A c bs (q + ws r3) m2 ∧ Fr L R W w' := fun W u q hW hq => xml_blank hW hq.eq
  have cg : ∀ W u q, RS W L R u A c bs q m2 → Rest bs q (62 :: r') → Calls Tryz.prog 42 #[.pointer (some ⟨L, 0, none⟩), .string ⟨#[62]⟩] W fun e w' => e = .returned (.bool true) ∧ RS w' L R u A c bs (q + 1) m2 ∧ Fr L R W w' := fun W u q hW hq => rs_yes hW ⟨#[62]⟩ r' (by decide) (by decide) hq.eq
  have hws : ∀ q, Rest bs q r3 → Rest bs (q + ws r3) (62 :: r') := fun q h => by rw [← hend]; exact h.ws_
  replace hnb := Lib.hid hnb
  replace hne := Lib.hid hne
  replace hN := Lib.hid hN
  replace hP := Lib.hid hP
  replace hSS := Lib.hid hSS
  replace h0 := Lib.hid h0
  replace hb0 := Lib.hid hb0
  replace hb1 := Lib.hid hb1
  replace hnew := Lib.hid hnew
  replace hEE := Lib.hid hEE
  replace hbl := Lib.hid hbl
  replace hsw := Lib.hid hsw
  replace cc := Lib.hid cc
  replace cf := Lib.hid cf
  replace cb9 := Lib.hid cb9
  replace cg := Lib.hid cg
  replace hws := Lib.hid hws
  replace hA0 := Lib.hid hA0
  clear h hr hM hdi hb hS hE2 hK hn hend hE
  generalize ws r3 = nw at *
  go_enter Tryz.func118, Tryz.ntmps118
  go_wp2_with (first
    | (go_at_call 146; (with_reducible refine cm.mono ?_); rintro e w1 ⟨bv1, av, rfl, ⟨q1, h1, hq1⟩, b1, f1, t1⟩; obtain ⟨bo, tA, hbo⟩ := t1.atX; obtain ⟨ab1, cb1, rfl⟩ := sl_of b1; have hc1 := b1.cap.2; rw [← hne.out] at hc1 b1 f1 h1 hbo; have hav : ∃ a n cp, av = .slice a n cp := (by rcases tA with ⟨_, e, _⟩ | ⟨_, _, _, _, e, _⟩ <;> exact ⟨_, _, _, e⟩); obtain ⟨a1, n1, c1, rfl⟩ := hav; have hz4 : Blk w1 w.heap.size 70 z5 := (f1.block w.heap.size (by rw [hsw.out]; omega) (by omega) (by omega) (fun e => by have := (hbl.out _ e).2; omega)).trans hnew.out; have hbn : Below w1.heap.size w1 (w1.alloc (.cells #[.string S, .string N, .string ⟨#[]⟩, .slice a1 n1 c1, .slice none 0 0] 70)) := (Below.refl _ _).alloc (Nat.le_refl _) _; have hzb := Blk.new w1 70 #[.string S, .string N, .string ⟨#[]⟩, .slice a1 n1 c1, .slice none 0 0]; have hsb : (w1.alloc (.cells #[.string S, .string N, .string ⟨#[]⟩, .slice a1 n1 c1, .slice none 0 0] 70)).heap.size = w1.heap.size + 1 := World.size_alloc _ _; have hg4 : w.heap.size < w1.heap.size := hz4.lt; have h11 := h1.below hbn; have b11 := own_belowB b1 hbn; have hz44 := hz4.alloc (.cells #[.string S, .string N, .string ⟨#[]⟩, .slice a1 n1 c1, .slice none 0 0] 70); have kc := cc.out _ _ q1 (by omega) h11 (by have := hne.out; subst this; exact b11) hq1; have hR1 : R < w1.heap.size := h1.rdr.lt; have hL1 : L < w1.heap.size := h1.cur.L_lt; have hbl1 := b1.lt; replace h11 := Lib.hid h11; replace b11 := Lib.hid b11; replace hbn := Lib.hid hbn; replace h1 := Lib.hid h1; replace hz4 := Lib.hid hz4; replace hz44 := Lib.hid hz44; replace hzb := Lib.hid hzb; replace hsb := Lib.hid hsb; replace tA := Lib.hid tA; replace hbo := Lib.hid hbo; replace hq1 := Lib.hid hq1; replace f1 := Lib.hid f1; replace b1 := Lib.hid b1; replace hbl1 := Lib.hid hbl1; clear t1)
    | (go_at_call 147; (with_reducible refine kc.mono ?_); rintro e w2 ⟨a5, n5, cp5, bk, bv2, rfl, hks, hbk, ⟨q2, h2, hq2⟩, b2, f2⟩; have hbk1 : (Value.slice ab1 ne cb1).ownBlock ≠ some w1.heap.size := fun e => (by have := (hbl1.out _ e).2; omega); have hbw1 : (Value.slice ab1 ne cb1).ownBlock ≠ some w.heap.size := fun e => f1.out.own.elim (fun h5 => by rw [h5] at e; have := (hbl.out _ e).2; omega) (fun h5 => by have := h5 _ e; rw [hsw.out] at this; omega); have hzb2 : Blk w2 w1.heap.size 70 #[.string S, .string N, .string ⟨#[]⟩, .slice a1 n1 c1, .slice none 0 0] := (f2.block w1.heap.size (by rw [hsb.out]; omega) (by omega) (by omega) hbk1).trans hzb.out; have hz42 : Blk w2 w.heap.size 70 z5 := (f2.block w.heap.size (by rw [hsb.out]; omega) (by omega) (by omega) hbw1).trans hz44.out; have b4 := hzb2.cell 4; have b4f := hzb2.frozen 4; have hB2 : Below w.heap.size w2 (w2.setCell ⟨w1.heap.size, 4, none⟩ (.slice a5 n5 cp5)) := (Below.refl w.heap.size w2).setCell (p := ⟨w1.heap.size, 4, none⟩) (Nat.le_of_lt hg4) _; have h22 := h2.belowB hB2 hLlt hRlt hAlt.out; have kf := cf.out _ _ q2 h22 hq2; have hzb3 := hzb2.set_ 4 (.slice a5 n5 cp5); have hz43 : Blk (w2.setCell ⟨w1.heap.size, 4, none⟩ (.slice a5 n5 cp5)) w.heap.size 70 z5 := hz42.far (by show w.heap.size ≠ w1.heap.size; omega) _; have hlt2 : w1.heap.size < (w2.setCell ⟨w1.heap.size, 4, none⟩ (.slice a5 n5 cp5)).heap.size := hzb3.lt; obtain ⟨ab2, cb2, rfl⟩ := sl_of b2; have hc2 := b2.cap.2; rw [← hne.out] at hc2 b2 f2 h2 h22 kf hbk; replace h2 := Lib.hid h2; replace h22 := Lib.hid h22; replace hq2 := Lib.hid hq2; replace f2 := Lib.hid f2; replace b2 := Lib.hid b2; replace hks := Lib.hid hks; replace hbk := Lib.hid hbk; replace hbk1 := Lib.hid hbk1; replace hbw1 := Lib.hid hbw1; replace hzb2 := Lib.hid hzb2; replace hz42 := Lib.hid hz42; replace hzb3 := Lib.hid hzb3; replace hz43 := Lib.hid hz43; replace hB2 := Lib.hid hB2; replace hlt2 := Lib.hid hlt2)
    | (go_at_call 148; (with_reducible refine kf.mono ?_); rintro e w3 ⟨rfl, ⟨⟨q3, h3, hq3⟩, f3⟩⟩; have kb := cb9.out w3 _ q3 h3 hq3; have hq4 := hws.out q3 hq3; replace h3 := Lib.hid h3; replace hq3 := Lib.hid hq3; replace f3 := Lib.hid f3; replace hq4 := Lib.hid hq4)
    | (go_at_call 144; (with_reducible refine kb.mono ?_); rintro e w4 ⟨rfl, h4, f4⟩; have kg := cg.out w4 _ _ h4 hq4.out; have c40 := h4.rdr.cell 0; replace h4 := Lib.hid h4; replace f4 := Lib.hid f4)
    | (go_at_call 42; (with_reducible refine kg.mono ?_); rintro e w5 ⟨rfl, h5, f5⟩; have F5 := f3.out.trans (f4.out.trans f5); have hz45 : Blk w5 w.heap.size 70 z5 := (F5.block w.heap.size (by have := hlt2.out; omega) (by omega) (by omega)).trans hz43.out; have hzb5 : Blk w5 w1.heap.size 70 #[.string S, .string N, .string ⟨#[]⟩, .slice a1 n1 c1, .slice a5 n5 cp5] := (F5.block w1.heap.size hlt2.out (by omega) (by omega)).trans hzb3.out; have c52 := h5.rdr.cell 2; have c52f := h5.rdr.frozen 2; have e0 := hzb5.cell 0; have e1 := hzb5.cell 1; have e2 := hzb5.cell 2; have e3 := hzb5.cell 3; have e4 := hzb5.cell 4; have a0 := hz45.cell 0; have a1' := hz45.cell 1; have a2 := hz45.cell 2; have a3 := hz45.cell 3; have a4 := hz45.cell 4; have y0 := hz45.frozen 0; have y1 := hz45.frozen 1; have y2 := hz45.frozen 2; have y3 := hz45.frozen 3; have y4 := hz45.frozen 4; replace F5 := Lib.hid F5; replace h5 := Lib.hid h5; replace hz45 := Lib.hid hz45; replace hzb5 := Lib.hid hzb5; replace f5 := Lib.hid f5))
  have eB : ∀ n, (Value.slice ab2 n cb2).ownBlock = (Value.slice ab2 ne cb2).ownBlock := fun n => by cases ab2 <;> rfl
  have X1 := (FrX.of_fr (bv := .slice ab nb cb) (Fr.of_below (L := L) (R := R) hb0.out)).trans f1.out
  have X2 := (X1.trans (FrX.of_fr (Fr.of_below (L := L) (R := R) hbn.out))).trans f2.out
  have n1w : (Value.slice ab2 ne cb2).ownBlock ≠ some w1.heap.size := fun e => by
    rcases f2.out.own with h5' | h5'
    · rw [h5'] at e; exact hbk1.out e
    · have := h5' _ e; rw [hsb.out] at this; omega
  have n0w : (Value.slice ab2 ne cb2).ownBlock ≠ some w.heap.size := fun e => by
    rcases f2.out.own with h5' | h5'
    · rw [h5'] at e; exact hbw1.out e
    · have := h5' _ e; rw [hsb.out] at this; omega
  have hb2 : Bnd w2 B0 (.slice ab2 nb cb2) B := by
    have := b2.out
    rw [hEE.out] at this
    rw [hnb.out]
    exact this.take
  have hb3 : (w2.setCell ⟨w1.heap.size, 4, none⟩ (.slice a5 n5 cp5)).ownsRow B0 220 2 (.slice ab2 nb cb2) B.length (bndV B) := own_save hb2 ((Save.refl w1.heap.size w2).store 4 (.slice a5 n5 cp5)) (by rw [eB]; exact n1w)
  have hb5 := own_fr hb3 F5.out hLB hRB
  have hb6 := own_farB (u := .slice ab2 nb cb2) (p := ⟨R, 2, none⟩) hb5 hRB
  have hzR : Blk (w5.setCell ⟨R, 2, none⟩ (.slice ab2 nb cb2)) w.heap.size 70 z5 := hz45.out.far (by show w.heap.size ≠ R; omega) _
  have hV := put5_blk hzR (.string S) (.string N) (.string ⟨#[]⟩) (.slice a1 n1 c1) (.slice a5 n5 cp5)
  have hSV := put5_save (w5.setCell ⟨R, 2, none⟩ (.slice ab2 nb cb2)) w.heap.size (.string S) (.string N) (.string ⟨#[]⟩) (.slice a1 n1 c1) (.slice a5 n5 cp5)
  have hR2 := h5.out.setB (.slice ab2 nb cb2)
  have hSR : Save R w5 (w5.setCell ⟨R, 2, none⟩ (.slice ab2 nb cb2)) := (Save.refl R w5).store 2 _
  unfold put5 at hV hSV
  obtain ⟨V, hU⟩ : ∃ U, U = (((((w5.setCell ⟨R, 2, none⟩ (.slice ab2 nb cb2)).setCell ⟨w.heap.size, 0, none⟩ (.string S)).setCell ⟨w.heap.size, 1, none⟩ (.string N)).setCell ⟨w.heap.size, 2, none⟩ (.string ⟨#[]⟩)).setCell ⟨w.heap.size, 3, none⟩ (.slice a1 n1 c1)).setCell ⟨w.heap.size, 4, none⟩ (.slice a5 n5 cp5) := ⟨_, rfl⟩
  rw [← hU] at hV hSV ⊢
  have r0 := hV.cell 0
  have r1 := hV.cell 1
  have r2 := hV.cell 2
  have r3 := hV.cell 3
  have r4 := hV.cell 4
  have hsz5 : (w5.setCell ⟨R, 2, none⟩ (.slice ab2 nb cb2)).heap.size = w5.heap.size := by simp [World.setCell]
  have k5 : ∀ k, k < w5.heap.size → k ≠ R → k ≠ w.heap.size → V.heap[k]? = w5.heap[k]? := fun k h1 h2 h3 => (hSV.block k (by rw [hsz5]; exact h1) h3).trans (hSR.block k h1 h2)
  have hsz2 : (w2.setCell ⟨w1.heap.size, 4, none⟩ (.slice a5 n5 cp5)).heap.size = w2.heap.size := by simp [World.setCell]
  have z25 := F5.out.size
  rw [hsz2] at z25
  have k2 : ∀ k, k < w2.heap.size → k ≠ L → k ≠ R → k ≠ w.heap.size → k ≠ w1.heap.size → V.heap[k]? = w2.heap[k]? := fun k h1 h2 h3 h4 h5 =>
    (k5 k (by omega) h3 h4).trans ((F5.out.block k (by rw [hsz2]; exact h1) h2 h3).trans (Below.heap_setCell _ _ _ _ h5))
  have z12 := f2.out.size
  rw [hsb.out] at z12
  have k1 : ∀ k, k < w1.heap.size → k ≠ L → k ≠ R → k ≠ w.heap.size → (Value.slice ab1 ne cb1).ownBlock ≠ some k → V.heap[k]? = w1.heap[k]? := fun k h1 h2 h3 h4 h5 =>
    (k2 k (by omega) h2 h3 h4 (by omega)).trans ((f2.out.block k (by rw [hsb.out]; omega) h2 h3 h5).trans (hbn.out.block k h1))
  have z5V := hSV.size
  rw [hsz5] at z5V
  refine bodyPost_ret (v := .tuple #[.agg #[.string S, .string N, .string ⟨#[]⟩, .slice a1 n1 c1, .slice a5 n5 cp5], .int .i64 0]) (by simp [results, Tryz.results40, go_sem, r0, r1, r2, r3, r4]) rfl ⟨S, N, a1, n1, c1, a5, n5, cp5, bo ++ bk, .slice ab2 nb cb2, rfl, ?_, ?_, ⟨_, ?_, hq4.out.app (s := [62])⟩, ?_, ?_⟩
  · rw [← hN.out, ← hSS.out]
    refine .el sp nm (attsX so o) ks _ _ bo bk (tA.out.keep fun k hk => ?_) (KxAt.keep hks.out fun k hk => ?_)
    · have h7 := hbo.out k hk
      rw [hsw.out] at h7
      exact k1 k h7.2.1 (by omega) (by omega) (by omega) h7.2.2
    · have h7 := hbk.out k hk
      rw [hsb.out] at h7
      exact k2 k h7.2.1 (by omega) (by omega) (by omega) (by omega)
  · intro k hk
    rcases List.mem_append.1 hk with hk | hk
    · have h7 := hbo.out k hk
      rw [hsw.out] at h7
      refine ⟨by omega, by omega, ?_⟩
      rw [eB]
      intro e
      rcases f2.out.own with h5' | h5'
      · rw [h5'] at e; exact h7.2.2 e
      · have := h5' _ e; rw [hsb.out] at this; omega
    · have h7 := hbk.out k hk
      rw [hsb.out] at h7
      exact ⟨by omega, by omega, by rw [eB]; exact h7.2.2⟩
  · exact hR2.belowB (hSV.below (Nat.le_refl _) (by rw [hsz5]; omega)) hLlt hRlt hAlt.out
  · exact own_save hb6 hSV (by rw [eB]; exact n0w)
  · refine ⟨hSV.os.trans (hSR.os.trans (F5.out.os.trans X2.os)), hSV.tape.trans (hSR.tape.trans (F5.out.tape.trans X2.tape)), hSV.output.trans (hSR.output.trans (F5.out.output.trans X2.output)), by have := X2.size; omega, fun k h1 h2 h3 h4 => (k2 k (by have := X2.size; omega) h2 h3 (by omega) (by omega)).trans (X2.block k h1 h2 h3 h4), ?_⟩
    rw [eB]
    exact X2.own
theorem xml_elementP {L R B0 c : Nat} {A : Option Addr} {bs : List UInt8} (hLB : L < B0) (hRB : R < B0) (hA0 : 0 < bs.length → ∀ x, A = some x → x.block < B0) : ∀ d, d ≤ 900 → ElemD L R B0 A c bs d := by
  intro d
  induction d with
  | zero =>
    intro _ w bv p m B r n m2 r' _ _ _ _ hE
    cases hE
  | succ d ih =>
    intro hd w bv p m B r n m2 r' hz hS hb hr hE
    have hdi : (((d + 1 : Nat) : Int)) = (d : Int) + 1 := by omega
    rw [hdi]
    match hE with
    | .shut _ _ _ E _ pre nm sp so l o r1 hm hM hs => exact xml_elemP_shut (by omega) hLB hRB hA0 hz hS hb hr hm hM hs
    | .open _ _ _ _ E _ pre nm sp so l o r1 ks r2 r3 r4 hm hM hs hC hn hend =>
      exact xml_elemP_open (by omega) (ih (by omega)) hLB hRB hA0 hz hS hb hr hm hM hs hC hn hend
end Go.Proofs.YtkpikpaepgknnaaGreatDoor

/- The reader reads all. No condition. -/
namespace Go.Proofs.YtkpikpaepgknnaaGreatDoor
open Go Go.RowKit Go.Wk Go.Xt Go.Xe
def NodeQ (w : World) (L R : Nat) (n : Nx) (e : Ending) (w' : World) : Prop :=
  ∃ (S N : ByteArray) (a1 : Option Addr) (n1 c1 : Nat) (a2 : Option Addr) (n2 c2 : Nat) (bl : List Nat), e = .returned (.tuple #[.agg #[.string S, .string N, .string ⟨#[]⟩, .slice a1 n1 c1, .slice a2 n2 c2], .int .i64 0]) ∧
    NxAt w' n [.string S, .string N, .string ⟨#[]⟩, .slice a1 n1 c1, .slice a2 n2 c2] bl ∧ (∀ k ∈ bl, w.heap.size ≤ k ∧ k < w'.heap.size) ∧ Fr L R w w'
theorem FrX.fr {L R : Nat} {bv' : Value} {w w' : World} (h : FrX L R (.slice none 0 0) bv' w w') : Fr L R w w' := ⟨h.os, h.tape, h.output, h.size, fun k h1 h2 h3 => h.block k h1 h2 h3 (by simp [Value.ownBlock])⟩
set_option maxHeartbeats 8000000 in
set_option maxRecDepth 100000 in
theorem xml_allP {w : World} {L R c p m2 : Nat} {A : Option Addr} {bs r r1 r2 : List UInt8} {n : Nx} (h : RS w L R (.slice none 0 0) A c bs p 0) (hr : Rest bs p r) (h1 : Around r r1) (h2 : ElemX 32 0 [] r1 n m2 r2) (h3 : Around r2 []) :
    Calls Tryz.prog 96 #[.pointer (some ⟨R, 0, none⟩)] w (NodeQ w L R n) := by
  have hb0 : Below w.heap.size w (w.alloc (.cells z5 70)) := (Below.refl _ _).alloc (Nat.le_refl _) _
  have h0 := h.below hb0
  have hnew := Blk.new w 70 z5
  have hRlt := h.rdr.lt
  have hLlt := h.cur.L_lt
  have hAlt := Lib.hid h.A_lt
  have ca := xml_around h0 hr h1
  have ce : ∀ W q, w.heap.size ≤ W.heap.size → RS W L R (.slice none 0 0) A c bs q 0 → Rest bs q r1 → Calls Tryz.prog 118 #[.pointer (some ⟨R, 0, none⟩), .int .i64 32] W (ElemQ W L R w.heap.size (.slice none 0 0) A c bs [] n m2 r2) := fun W q hz hW hq => xml_elementP hLlt hRlt hAlt.out 32 (by omega) W _ q 0 [] r1 n m2 r2 hz hW (World.ownsRow_nil _ _ _ _) hq h2
  have cz := fun W u q (hW : RS W L R u A c bs q m2) (hq : Rest bs q r2) => xml_around hW hq h3
  have cl := fun W u q (hW : RS W L R u A c bs q m2) => rs_left hW
  have hl0 : ∀ q, Rest bs q [] → ((bs.length : Int) - (q : Int)) = 0 := fun q hq => by have := hq.len; simp at this; omega
  replace ce := Lib.hid ce
  replace cz := Lib.hid cz
  replace cl := Lib.hid cl
  replace hl0 := Lib.hid hl0
  replace h0 := Lib.hid h0
  replace hb0 := Lib.hid hb0
  replace hnew := Lib.hid hnew
  have cps := fun (w : World) => xml_passed (w := w) true
  simp only [if_true] at cps
  clear h hr h1 h2 h3
  go_enter Tryz.func96, Tryz.ntmps96
  go_wp2_with (first
    | (go_at_call 117; (with_reducible refine ca.mono ?_); rintro e w1 ⟨rfl, ⟨⟨q1, h1, hq1⟩, f1⟩⟩; have zz1 := f1.size; rw [World.size_alloc] at zz1; have k2 := ce.out w1 q1 (by omega) h1 hq1; replace f1 := Lib.hid f1; replace h1 := Lib.hid h1; replace hq1 := Lib.hid hq1)
    | (go_at_call 118; (with_reducible refine k2.mono ?_); rintro e w2 ⟨S, N, a1, n1, c1, a2, n2, c2, bl, bv2, rfl, hnd, hbl, ⟨q2, h2, hq2⟩, b2, f2x⟩; have f2 := f2x.fr; have hbn : Below w2.heap.size w2 (w2.alloc (.cells #[.string S, .string N, .string ⟨#[]⟩, .slice a1 n1 c1, .slice a2 n2 c2] 70)) := (Below.refl _ _).alloc (Nat.le_refl _) _; have hzb := Blk.new w2 70 #[.string S, .string N, .string ⟨#[]⟩, .slice a1 n1 c1, .slice a2 n2 c2]; have h22 := h2.below hbn; have k3 := cz.out _ _ q2 h22 hq2; replace f2 := Lib.hid f2; replace h2 := Lib.hid h2; replace hq2 := Lib.hid hq2; replace hnd := Lib.hid hnd; replace hbl := Lib.hid hbl; replace hbn := Lib.hid hbn; replace hzb := Lib.hid hzb; replace h22 := Lib.hid h22)
    | (go_at_call 117; (with_reducible refine k3.mono ?_); rintro e w3 ⟨rfl, ⟨⟨q3, h3, hq3⟩, f3⟩⟩; replace f3 := Lib.hid f3; replace h3 := Lib.hid h3; replace hq3 := Lib.hid hq3))
  have hz3 : Blk w3 w2.heap.size 70 #[.string S, .string N, .string ⟨#[]⟩, .slice a1 n1 c1, .slice a2 n2 c2] := (f3.out.block w2.heap.size (by simp) (by have := h2.out.cur.L_lt; omega) (by have := h2.out.rdr.lt; omega)).trans hzb.out
  have F2 := f1.out.trans f2.out
  have hw2 : w.heap.size < w2.heap.size := by have := F2.size; simp at this; omega
  have F3 := (F2.trans (Fr.of_below hbn.out)).trans f3.out
  have hz4 : Blk w3 w.heap.size 70 z5 := (F3.block w.heap.size (by simp) (by omega) (by omega)).trans hnew.out
  have kl : ∀ W, Below w.heap.size w3 W → Calls Tryz.prog 75 #[.pointer (some ⟨L, 0, none⟩)] W fun e w' => e = .returned (.int .i64 0) ∧ W = w' := fun W hW => by
    have := rs_left (h3.out.belowB hW hLlt hRlt hAlt.out)
    rw [hl0.out q3 hq3.out] at this
    exact this
  have c30 := h3.out.rdr.cell 0
  obtain ⟨g2, hg2⟩ : ∃ g, g = w.heap.size := ⟨_, rfl⟩
  obtain ⟨g5, hg5⟩ : ∃ g, g = w2.heap.size := ⟨_, rfl⟩
  have hRg : R ≠ g2 := by omega
  have hgg : g2 ≠ g5 := by omega
  rw [← hg2] at hz4 kl ⊢
  rw [← hg5] at hz3 ⊢
  have a0 := hz4.cell 0
  have a1' := hz4.cell 1
  have a2' := hz4.cell 2
  have a3 := hz4.cell 3
  have a4 := hz4.cell 4
  have y0 := hz4.frozen 0
  have y1 := hz4.frozen 1
  have y2 := hz4.frozen 2
  have y3 := hz4.frozen 3
  have y4 := hz4.frozen 4
  have e0 := hz3.cell 0
  have e1 := hz3.cell 1
  have e2 := hz3.cell 2
  have e3 := hz3.cell 3
  have e4 := hz3.cell 4
  replace hz3 := Lib.hid hz3
  replace hz4 := Lib.hid hz4
  replace F2 := Lib.hid F2
  replace F3 := Lib.hid F3
  replace kl := Lib.hid kl
  replace hg2 := Lib.hid hg2
  replace hg5 := Lib.hid hg5
  go_region_with (first
    | (go_at_call 75; refine (kl.out _ (by first | exact Below.refl _ _ | (repeat (first | exact Below.refl _ _ | refine Below.drew ?_ | refine Below.setCell ?_ (Nat.le_refl _) _)))).mono ?_; rintro e w' ⟨rfl, rfl⟩)
    | (go_at_call 119; refine (cps _).mono ?_; rintro e w' ⟨rfl, rfl⟩))
  all_goals
    go_wp2
    have hV := (put5_blk hz4.out (.string S) (.string N) (.string ⟨#[]⟩) (.slice a1 n1 c1) (.slice a2 n2 c2)).drew
    have hSV := (put5_save w3 g2 (.string S) (.string N) (.string ⟨#[]⟩) (.slice a1 n1 c1) (.slice a2 n2 c2)).drawn 1
    unfold put5 at hV hSV
    obtain ⟨V, hU⟩ : ∃ U, U = ((((((w3.setCell ⟨g2, 0, none⟩ (.string S)).setCell ⟨g2, 1, none⟩ (.string N)).setCell ⟨g2, 2, none⟩ (.string ⟨#[]⟩)).setCell ⟨g2, 3, none⟩ (.slice a1 n1 c1)).setCell ⟨g2, 4, none⟩ (.slice a2 n2 c2)).drew) := ⟨_, rfl⟩
    have hSV2 : Save g2 w3 V := by rw [hU]; exact hSV
    rw [← hU] at hV ⊢
    clear hSV
    have r0 := hV.cell 0
    have r1 := hV.cell 1
    have r2 := hV.cell 2
    have r3 := hV.cell 3
    have r4 := hV.cell 4
    have hs2 : (w2.alloc (.cells #[.string S, .string N, .string ⟨#[]⟩, .slice a1 n1 c1, .slice a2 n2 c2] 70)).heap.size = w2.heap.size + 1 := World.size_alloc _ _
    have z23 := f3.out.size
    rw [hs2] at z23
    have z3V := hSV2.size
    have hg2' := hg2.out
    have zw1 := f1.out.size
    rw [World.size_alloc] at zw1
    refine bodyPost_ret (v := .tuple #[.agg #[.string S, .string N, .string ⟨#[]⟩, .slice a1 n1 c1, .slice a2 n2 c2], .int .i64 0]) (by simp [results, Tryz.results28, go_sem, Act.put, r0, r1, r2, r3, r4]) rfl ⟨S, N, a1, n1, c1, a2, n2, c2, bl, rfl, ?_, ?_, ?_⟩
    · refine hnd.out.keep fun k hk => ?_
      have := hbl.out k hk
      exact (hSV2.block k (by omega) (by omega)).trans ((f3.out.block k (by rw [hs2]; omega) (by omega) (by omega)).trans (hbn.out.block k this.2.1))
    · intro k hk
      have := hbl.out k hk
      omega
    · exact ((Fr.of_below hb0.out).trans F3.out).tail (hSV2.below (by omega) (by omega))
end Go.Proofs.YtkpikpaepgknnaaGreatDoor

/- Parts of the root: the cursor, the reader newly made. No condition. -/
namespace Go.Proofs.YtkpikpaepgknnaaGreatDoor
open Go Go.RowKit Go.Wk Go.Xt Go.Xe
set_option maxHeartbeats 1000000 in
set_option maxRecDepth 100000 in
theorem cur_seek0 {w : World} {L c p : Nat} {A : Option Addr} {bs : List UInt8} (h : Cur w w L A c bs p) :
    Calls Tryz.prog 94 #[.pointer (some ⟨L, 0, none⟩), .int .i64 0] w fun e w' => e = .returned (.bool true) ∧ Cur w w' L A c bs 0 := by
  have hg := h.go 0 (Nat.zero_le _)
  have cb := h.cb
  have ca := h.ca
  have fr := h.fr
  have hneg : ¬ (bs.length : Int) < 0 := by omega
  replace h := Lib.hid h
  replace hg := Lib.hid hg
  go_enter Tryz.func94, Tryz.ntmps94
  go_wp2
  go_ret
  exact ⟨rfl, hg.out⟩
set_option maxHeartbeats 1000000 in
theorem cur_len {w : World} {L c p : Nat} {A : Option Addr} {bs : List UInt8} (h : Cur w w L A c bs p) :
    Calls Tryz.prog 95 #[.pointer (some ⟨L, 0, none⟩)] w fun e w' => e = .returned (.int .i64 bs.length) ∧ w = w' := by
  have cb := h.cb
  replace h := Lib.hid h
  go_enter Tryz.func95, Tryz.ntmps95
  go_wp2
  go_ret
  exact ⟨rfl, rfl⟩
theorem cur_new (A : Option Addr) (n c : Nat) (w : World) (hc : n ≤ c) (hn : n ≤ 10000000) :
    Calls Tryz.prog 41 #[.slice A n c] w fun e w' => e = .returned (.pointer (some ⟨w.heap.size, 0, none⟩)) ∧ w' = w.alloc (.cells #[.slice A n n, .int .i64 0] 117) := by
  go_enter Tryz.func41, Tryz.ntmps41
  cases A with
  | none =>
    go_wp2
    go_ret
    exact ⟨rfl, rfl⟩
  | some a =>
    go_wp2
    go_ret
    exact ⟨rfl, rfl⟩
theorem new_cur {w : World} {A : Option Addr} {bs : List UInt8} (h : Byt w A bs) (hs : bs.length ≤ 10000000) : Cur (w.alloc (.cells #[.slice A bs.length bs.length, .int .i64 0] 117)) (w.alloc (.cells #[.slice A bs.length bs.length, .int .i64 0] 117)) w.heap.size A bs.length bs 0 := by
  have hB := Blk.new w 117 #[.slice A bs.length bs.length, .int .i64 0]
  refine ⟨fun h0 x hx => ?_, Save.refl _ _, hB.cell 0, hB.cell 1, hB.frozen 1, h.below ((Below.refl _ _).alloc (Nat.le_refl _) _), Nat.zero_le _, hs⟩
  obtain ⟨b, o, e, hc⟩ := h.2 h0
  have := cell_lt (hc 0 h0)
  rw [hx] at e
  cases e
  exact Nat.ne_of_lt this
set_option maxHeartbeats 1000000 in
theorem xml_New (A : Option Addr) (c : Nat) (bs : List UInt8) (w : World) (hb : Byt w A bs) (hc : bs.length ≤ c) (hs : bs.length ≤ 10000000) :
    Calls Tryz.prog 66 #[.slice A bs.length c] w fun e w' => e = .returned (.pointer (some ⟨w.heap.size + 1, 0, none⟩)) ∧ RS w' w.heap.size (w.heap.size + 1) (.slice none 0 0) A bs.length bs 0 0 ∧ Below w.heap.size w w' := by
  have cn := cur_new A bs.length c w hc hs
  have hC := new_cur hb hs
  have hAl : 0 < bs.length → ∀ x, A = some x → x.block < w.heap.size := by
    rintro h0 x rfl
    obtain ⟨b, o, e, hcell⟩ := hb.2 h0
    cases e
    exact cell_lt (hcell 0 h0)
  obtain ⟨W, hW⟩ : ∃ W, W = w.alloc (.cells #[.slice A bs.length bs.length, .int .i64 0] 117) := ⟨_, rfl⟩
  have hWz : W.heap.size = w.heap.size + 1 := by rw [hW, World.size_alloc]
  have hBW : Below w.heap.size w W := by rw [hW]; exact (Below.refl _ _).alloc (Nat.le_refl _) _
  rw [← hW] at cn hC
  replace hW := Lib.hid hW
  have hR := Blk.new W 134 #[.pointer (some ⟨w.heap.size, 0, none⟩), .int .i64 0, .slice none 0 0]
  have hb2 : Below W.heap.size W (W.alloc (.cells #[.pointer (some ⟨w.heap.size, 0, none⟩), .int .i64 0, .slice none 0 0] 134)) := (Below.refl _ _).alloc (Nat.le_refl _) _
  have hRS : RS (W.alloc (.cells #[.pointer (some ⟨w.heap.size, 0, none⟩), .int .i64 0, .slice none 0 0] 134)) w.heap.size (w.heap.size + 1) (.slice none 0 0) A bs.length bs 0 0 := by
    have hL : w.heap.size < W.heap.size := by omega
    refine ⟨⟨hC.ne, Save.refl _ _, (hb2.cell (p := ⟨w.heap.size, 0, none⟩) hL).trans hC.cb, (hb2.cell (p := ⟨w.heap.size, 1, none⟩) hL).trans hC.ca, (hb2.frozen (p := ⟨w.heap.size, 1, none⟩) hL).trans hC.fr, hC.byt.below hb2, hC.le, hC.small⟩, ?_, by omega, fun h0 x hx => by have := hAl h0 x hx; omega, Nat.le_refl _⟩
    rw [← hWz]; exact hR
  have hfin : Below w.heap.size w (W.alloc (.cells #[.pointer (some ⟨w.heap.size, 0, none⟩), .int .i64 0, .slice none 0 0] 134)) := bthen hBW hb2
  replace hRS := Lib.hid hRS
  replace hfin := Lib.hid hfin
  replace hC := Lib.hid hC
  replace hR := Lib.hid hR
  replace hb2 := Lib.hid hb2
  replace hBW := Lib.hid hBW
  replace hAl := Lib.hid hAl
  clear hb hc hs
  go_enter Tryz.func66, Tryz.ntmps66
  go_wp2_with (go_at_call 41; (with_reducible refine cn.mono ?_); rintro e w1 ⟨rfl, rfl⟩)
  go_ret
  exact ⟨rfl, hRS.out, hfin.out⟩
end Go.Proofs.YtkpikpaepgknnaaGreatDoor

/- The root: a walk over any answer of the reader. No condition. -/
namespace Go.Proofs.YtkpikpaepgknnaaGreatDoor
open Go Go.RowKit Go.Wk Go.Xt Go.Xe
theorem RS.stored {w : World} {L R c p : Nat} {bv : Value} {A : Option Addr} {bs : List UInt8} (h : RS w L R bv A c bs p 0) :
    RS ((w.setCell ⟨R, 1, none⟩ (.int .i64 0)).setCell ⟨R, 2, none⟩ (.slice none 0 0)) L R (.slice none 0 0) A c bs p 0 ∧ Fr L R w ((w.setCell ⟨R, 1, none⟩ (.int .i64 0)).setCell ⟨R, 2, none⟩ (.slice none 0 0)) := by
  have hc := h.cur
  have hn := h.ne
  have hF : Fr L R w ((w.setCell ⟨R, 1, none⟩ (.int .i64 0)).setCell ⟨R, 2, none⟩ (.slice none 0 0)) := ((Fr.refl L R w).store 1 _).store 2 _
  have e1 : ∀ q, ((w.setCell ⟨R, 1, none⟩ (.int .i64 0)).setCell ⟨R, 2, none⟩ (.slice none 0 0)).cell? ⟨L, q, none⟩ = w.cell? ⟨L, q, none⟩ := fun q => by
    rw [World.cell?_setCell_other _ _ _ _ (by intro e; apply hn; injection e with e1 _; exact e1.symm), World.cell?_setCell_other _ _ _ _ (by intro e; apply hn; injection e with e1 _; exact e1.symm)]
  refine ⟨⟨⟨hc.ne, Save.refl _ _, (e1 0).trans hc.cb, (e1 1).trans hc.ca, by simp [hc.fr], ?_, hc.le, hc.small⟩, (h.rdr.set_ 1 (.int .i64 0)).set_ 2 (.slice none 0 0), hn, h.neA, h.cap⟩, hF⟩
  refine ⟨hc.byt.1, fun h0 => ?_⟩
  obtain ⟨b, o, e, hcell⟩ := hc.byt.2 h0
  have hne := h.neA h0 _ e
  refine ⟨b, o, e, fun i hi => ?_⟩
  rw [World.cell?_setCell_other _ _ _ _ (by intro e; apply hne; injection e with e1 _; exact e1.symm), World.cell?_setCell_other _ _ _ _ (by intro e; apply hne; injection e with e1 _; exact e1.symm)]
  exact hcell i hi
def AllOf (L R : Nat) (P : World → World → Array Value → Int → Prop) (W : World) (e : Ending) (w' : World) : Prop :=
  ∃ (N0 N1 N2 : ByteArray) (a1 : Option Addr) (n1 c1 : Nat) (a2 : Option Addr) (n2 c2 : Nat) (k : Int), e = .returned (.tuple #[.agg #[.string N0, .string N1, .string N2, .slice a1 n1 c1, .slice a2 n2 c2], .int .i64 k]) ∧ Fr L R W w' ∧ P W w' #[.string N0, .string N1, .string N2, .slice a1 n1 c1, .slice a2 n2 c2] k ∧ (k ≠ 0 → #[.string N0, .string N1, .string N2, .slice a1 n1 c1, .slice a2 n2 c2] = z5)
def RootOf (L R : Nat) (P : World → World → Array Value → Int → Prop) (w : World) (e : Ending) (w' : World) : Prop :=
  ∃ (N0 N1 N2 : ByteArray) (a1 : Option Addr) (n1 c1 : Nat) (a2 : Option Addr) (n2 c2 : Nat) (k : Int) (W W1 : World), e = .returned (.tuple #[.agg #[.string N0, .string N1, .string N2, .slice a1 n1 c1, .slice a2 n2 c2], .int .i64 k]) ∧ P W W1 #[.string N0, .string N1, .string N2, .slice a1 n1 c1, .slice a2 n2 c2] k ∧ Fr L R w W ∧ w.heap.size < W.heap.size ∧ Fr L R W W1 ∧ Save w.heap.size W1 w'
set_option maxHeartbeats 4000000 in
set_option maxRecDepth 100000 in
theorem xml_Root {w : World} {L R c p : Nat} {bv : Value} {A : Option Addr} {bs : List UInt8} {P : World → World → Array Value → Int → Prop} (h : RS w L R bv A c bs p 0) (hs : signsB bs = true) (hT : Lib.Utf8Tabs 0 1 w) (hL : 2 ≤ L) (hR : 2 ≤ R) (hne : bs ≠ [])
    (call : ∀ W, RS W L R (.slice none 0 0) A c bs 0 0 → Calls Tryz.prog 96 #[.pointer (some ⟨R, 0, none⟩)] W (AllOf L R P W)) :
    Calls Tryz.prog 67 #[.pointer (some ⟨R, 0, none⟩)] w (RootOf L R P w) := by
  have hb0 : Below w.heap.size w (w.alloc (.cells z5 70)) := (Below.refl _ _).alloc (Nat.le_refl _) _
  have h0 := h.below hb0
  have hnew := Blk.new w 70 z5
  have hRlt := h.rdr.lt
  have hLlt := h.cur.L_lt
  have hlen : 1 ≤ bs.length := List.length_pos_iff.2 hne
  have hsm := h.cur.small
  have c00 := h0.rdr.cell 0
  have k1 := cur_seek0 h0.cur
  have cS : ∀ W A' c', Byt W A' bs → Fr L R w W → Calls Tryz.prog 53 #[.slice A' bs.length c'] W fun e w' => e = .returned (.bool true) ∧ Below W.heap.size W w' := fun W A' c' hb hF => by
    rw [← hs]
    have := hF.size
    exact xml_Signs c' hb hsm (tabs_kept hT (hF.block 0 (by omega) (by omega) (by omega)) (hF.block 1 (by omega) (by omega) (by omega))) (by omega)
  obtain ⟨m, hm⟩ : ∃ m, m = bs.length := ⟨_, rfl⟩
  rw [← hm] at cS
  replace cS := Lib.hid cS
  replace call := Lib.hid call
  replace h0 := Lib.hid h0
  replace hb0 := Lib.hid hb0
  replace hnew := Lib.hid hnew
  replace hm := Lib.hid hm
  replace hsm := Lib.hid hsm
  replace hlen := Lib.hid hlen
  clear h hs hT hne
  go_enter Tryz.func67, Tryz.ntmps67
  go_upto_region 4 with (first
    | (go_at_call 94; (with_reducible refine k1.mono ?_); rintro e w1 ⟨rfl, h1⟩; obtain ⟨h2, f1⟩ := h0.out.cur_to h1; have c10 := h2.rdr.cell 0; replace h1 := Lib.hid h1; replace h2 := Lib.hid h2; replace f1 := Lib.hid f1))
  have cl : ∀ V, Below w1.heap.size w1 V → Calls Tryz.prog 95 #[.pointer (some ⟨L, 0, none⟩)] V fun e w' => e = .returned (.int .i64 m) ∧ V = w' := fun V hV => by rw [hm.out]; exact cur_len (h2.out.below hV).cur
  have ct : ∀ V, Below w1.heap.size w1 V → Calls Tryz.prog 76 #[.pointer (some ⟨L, 0, none⟩), .int .i64 m] V fun e w' => ∃ A' c', e = .returned (.tuple #[.slice A' m c', .bool true]) ∧ Byt w' A' bs ∧ RS w' L R bv A c bs m 0 ∧ Fr L R w1 w' := fun V hV => by
    have hm' := hm.out
    have hl' := hlen.out
    have hs' := hsm.out
    refine (cur_take m (h2.out.below hV).cur h2.out.cap (by omega) (by omega)).mono ?_
    rintro e w' ⟨A', c', rfl, hb, hc⟩
    have e1 : takeS bs 0 m = bs := by unfold takeS; rw [if_pos (by omega), hm']; simp
    have e2 : takeB bs 0 m = true := by unfold takeB; simp; omega
    rw [e1] at hb ⊢
    rw [e2] at hc ⊢
    rw [← hm'] at *
    simp only [if_true, Nat.zero_add] at hc
    obtain ⟨r1, r2⟩ := (h2.out.below hV).cur_to hc
    exact ⟨A', c', rfl, hb, r1, (Fr.of_below hV).trans r2⟩
  replace cl := Lib.hid cl
  replace ct := Lib.hid ct
  go_cut [4] (fun s4 wx => ∃ A' c', s4 = .slice A' m c' ∧ Byt wx A' bs ∧ RS wx L R bv A c bs m 0 ∧ Fr L R w1 wx)
  case first =>
    go_region_with (first
      | (go_at_call 95; refine (cl.out _ (by first | exact Below.refl _ _ | (repeat (first | exact Below.refl _ _ | refine Below.drew ?_)))).mono ?_; rintro e w' ⟨rfl, rfl⟩)
      | (go_at_call 76; refine (ct.out _ (by first | exact Below.refl _ _ | (repeat (first | exact Below.refl _ _ | refine Below.drew ?_)))).mono ?_; rintro e w' ⟨A', c', rfl, hb, hr, hf⟩; replace hb := Lib.hid hb; replace hr := Lib.hid hr; replace hf := Lib.hid hf))
    all_goals (go_wp2_with fail; go_meet; exact ⟨_, _, rfl, hb.out, hr.out, hf.out⟩)
  case rest =>
    obtain ⟨A', c', rfl, hb, hr, hf⟩ := hcut
    have cg := cS.out wc A' c' hb (((Fr.of_below hb0.out).trans f1.out).trans hf)
    have cr0 := hr.rdr.cell 0
    replace hb := Lib.hid hb
    replace hr := Lib.hid hr
    replace hf := Lib.hid hf
    go_upto_region 10 with (first
      | (go_at_call 53; (with_reducible refine cg.mono ?_); rintro e w3 ⟨rfl, hb3⟩; have h3 := hr.out.below hb3; have k3 := cur_seek0 h3.cur; have c30 := h3.rdr.cell 0; replace hb3 := Lib.hid hb3; replace h3 := Lib.hid h3)
      | (go_at_call 94; (with_reducible refine k3.mono ?_); rintro e w4 ⟨rfl, hs4⟩; obtain ⟨h4, f4⟩ := h3.out.cur_to hs4; obtain ⟨h5, f5⟩ := h4.stored; have k5 := call.out _ h5; have c40 := h4.rdr.cell 0; have c41 := h4.rdr.cell 1; have c42 := h4.rdr.cell 2; have y41 := h4.rdr.frozen 1; have y42 := h4.rdr.frozen 2; replace hs4 := Lib.hid hs4; replace h4 := Lib.hid h4; replace h5 := Lib.hid h5; replace f4 := Lib.hid f4; replace f5 := Lib.hid f5)
      | (go_at_call 96; (with_reducible refine k5.mono ?_); rintro e w5 ⟨N0, N1, N2, A1, n1, c1, A2, n2, c2, k, rfl, f6, hP, hk⟩; have F := ((((f1.out.trans hf.out).trans (Fr.of_below hb3.out)).trans f4.out).trans f5.out).trans f6; have hz : Blk w5 w.heap.size 70 z5 := (F.block w.heap.size (by simp) (by omega) (by omega)).trans hnew.out; have hg5 : w.heap.size < w5.heap.size := hz.lt; have a0 := hz.cell 0; have a1 := hz.cell 1; have a2 := hz.cell 2; have a3 := hz.cell 3; have a4 := hz.cell 4; have y0 := hz.frozen 0; have y1 := hz.frozen 1; have y2 := hz.frozen 2; have y3 := hz.frozen 3; have y4 := hz.frozen 4; replace hz := Lib.hid hz; replace F := Lib.hid F; replace f6 := Lib.hid f6; replace hP := Lib.hid hP; replace hk := Lib.hid hk))
    have hF := (⟨((((Fr.of_below hb0.out).trans f1.out).trans hf.out).trans (Fr.of_below hb3.out)).trans (f4.out.trans f5.out), Nat.lt_of_lt_of_le (by simp) ((((f1.out.trans hf.out).trans (Fr.of_below hb3.out)).trans (f4.out.trans f5.out)).size)⟩ : Fr L R w ((w4.setCell ⟨R, 1, none⟩ (.int .i64 0)).setCell ⟨R, 2, none⟩ (.slice none 0 0)) ∧ w.heap.size < ((w4.setCell ⟨R, 1, none⟩ (.int .i64 0)).setCell ⟨R, 2, none⟩ (.slice none 0 0)).heap.size)
    by_cases hk0 : k = 0
    · subst hk0
      go_wp2
      have hV := put5_blk hz.out (.string N0) (.string N1) (.string N2) (.slice A1 n1 c1) (.slice A2 n2 c2)
      have hSV := put5_save w5 w.heap.size (.string N0) (.string N1) (.string N2) (.slice A1 n1 c1) (.slice A2 n2 c2)
      unfold put5 at hV hSV
      obtain ⟨V, hU⟩ : ∃ U, U = (((((w5.setCell ⟨w.heap.size, 0, none⟩ (.string N0)).setCell ⟨w.heap.size, 1, none⟩ (.string N1)).setCell ⟨w.heap.size, 2, none⟩ (.string N2)).setCell ⟨w.heap.size, 3, none⟩ (.slice A1 n1 c1)).setCell ⟨w.heap.size, 4, none⟩ (.slice A2 n2 c2)) := ⟨_, rfl⟩
      rw [← hU] at hV hSV ⊢
      have hbU : Below V.heap.size V (V.alloc (.cells #[.string N0, .string N1, .string N2, .slice A1 n1 c1, .slice A2 n2 c2] 70)) := (Below.refl _ _).alloc (Nat.le_refl _) _
      have hV2 := hV.alloc (.cells #[.string N0, .string N1, .string N2, .slice A1 n1 c1, .slice A2 n2 c2] 70)
      have q0 := hV2.cell 0
      have q1 := hV2.cell 1
      have q2 := hV2.cell 2
      have q3 := hV2.cell 3
      have q4 := hV2.cell 4
      refine bodyPost_ret (v := .tuple #[.agg #[.string N0, .string N1, .string N2, .slice A1 n1 c1, .slice A2 n2 c2], .int .i64 0]) (by simp [results, Tryz.results17, go_sem, q0, q1, q2, q3, q4]) rfl ⟨N0, N1, N2, A1, n1, c1, A2, n2, c2, 0, _, w5, rfl, hP.out, hF.1, hF.2, f6.out, hSV.trans (Save.of_below hbU)⟩
    · have hkz := hk.out hk0
      have hkb : (k != 0) = true := by simp [hk0]
      injection hkz with hkz
      injection hkz with u0 hkz
      injection hkz with u1 hkz
      injection hkz with u2 hkz
      injection hkz with u3 hkz
      injection hkz with u4 hkz
      injection u0 with u0
      injection u1 with u1
      injection u2 with u2
      injection u3 with v1 v2 v3
      injection u4 with v4 v5 v6
      subst u0 u1 u2 v1 v2 v3 v4 v5 v6
      replace hk := Lib.hid hk
      go_wp2
      have hV := put5_blk hz.out (.string ⟨#[]⟩) (.string ⟨#[]⟩) (.string ⟨#[]⟩) (.slice none 0 0) (.slice none 0 0)
      have hSV := put5_save w5 w.heap.size (.string ⟨#[]⟩) (.string ⟨#[]⟩) (.string ⟨#[]⟩) (.slice none 0 0) (.slice none 0 0)
      unfold put5 at hV hSV
      obtain ⟨V, hU⟩ : ∃ U, U = (((((w5.setCell ⟨w.heap.size, 0, none⟩ (.string ⟨#[]⟩)).setCell ⟨w.heap.size, 1, none⟩ (.string ⟨#[]⟩)).setCell ⟨w.heap.size, 2, none⟩ (.string ⟨#[]⟩)).setCell ⟨w.heap.size, 3, none⟩ (.slice none 0 0)).setCell ⟨w.heap.size, 4, none⟩ (.slice none 0 0)) := ⟨_, rfl⟩
      rw [← hU] at hV hSV ⊢
      have hbU : Below V.heap.size V (V.alloc (.cells #[.string ⟨#[]⟩, .string ⟨#[]⟩, .string ⟨#[]⟩, .slice none 0 0, .slice none 0 0] 70)) := (Below.refl _ _).alloc (Nat.le_refl _) _
      have hV2 := hV.alloc (.cells #[.string ⟨#[]⟩, .string ⟨#[]⟩, .string ⟨#[]⟩, .slice none 0 0, .slice none 0 0] 70)
      have q0 := hV2.cell 0
      have q1 := hV2.cell 1
      have q2 := hV2.cell 2
      have q3 := hV2.cell 3
      have q4 := hV2.cell 4
      refine bodyPost_ret (v := .tuple #[.agg #[.string ⟨#[]⟩, .string ⟨#[]⟩, .string ⟨#[]⟩, .slice none 0 0, .slice none 0 0], .int .i64 k]) (by simp [results, Tryz.results17, go_sem, q0, q1, q2, q3, q4]) rfl ⟨_, _, _, _, _, _, _, _, _, k, _, w5, rfl, hP.out, hF.1, hF.2, f6.out, hSV.trans (Save.of_below hbU)⟩
end Go.Proofs.YtkpikpaepgknnaaGreatDoor

/- Parse: a walk over any answer of the reader. No condition. -/
namespace Go.Proofs.YtkpikpaepgknnaaGreatDoor
open Go Go.RowKit Go.Wk Go.Xt Go.Xe
def ParseOf (P : World → World → Array Value → Int → Prop) (w : World) (e : Ending) (w' : World) : Prop :=
  ∃ (N0 N1 N2 : ByteArray) (a1 : Option Addr) (n1 c1 : Nat) (a2 : Option Addr) (n2 c2 : Nat) (k : Int) (W W1 : World), e = .returned (.tuple #[.agg #[.string N0, .string N1, .string N2, .slice a1 n1 c1, .slice a2 n2 c2], .int .i64 k]) ∧ P W W1 #[.string N0, .string N1, .string N2, .slice a1 n1 c1, .slice a2 n2 c2] k ∧ w.heap.size ≤ W.heap.size ∧ (∀ k, W.heap.size ≤ k → k < W1.heap.size → w'.heap[k]? = W1.heap[k]?) ∧ W1.heap.size ≤ w'.heap.size ∧ Below w.heap.size w w'
set_option maxHeartbeats 4000000 in
set_option maxRecDepth 100000 in
theorem xml_Parse {w : World} {A : Option Addr} {c : Nat} {bs : List UInt8} {P : World → World → Array Value → Int → Prop} (hb : Byt w A bs) (hc : bs.length ≤ c) (hsm : bs.length ≤ 10000000) (hs : signsB bs = true) (hT : Lib.Utf8Tabs 0 1 w) (h2 : 2 ≤ w.heap.size) (hne : bs ≠ [])
    (call : ∀ W, RS W (w.heap.size + 1) (w.heap.size + 2) (.slice none 0 0) A bs.length bs 0 0 → Calls Tryz.prog 96 #[.pointer (some ⟨w.heap.size + 2, 0, none⟩)] W (AllOf (w.heap.size + 1) (w.heap.size + 2) P W)) :
    Calls Tryz.prog 32 #[.slice A bs.length c] w (ParseOf P w) := by
  have hb0 : Below w.heap.size w (w.alloc (.cells z5 70)) := (Below.refl _ _).alloc (Nat.le_refl _) _
  have hnew := Blk.new w 70 z5
  have cN := xml_New A c bs _ (hb.below hb0) hc hsm
  have hT0 := tabs_kept hT (hb0.block 0 (by omega)) (hb0.block 1 (by omega))
  have hz0 : (w.alloc (.cells z5 70)).heap.size = w.heap.size + 1 := World.size_alloc _ _
  rw [hz0] at cN
  have cR : ∀ W, RS W (w.heap.size + 1) (w.heap.size + 2) (.slice none 0 0) A bs.length bs 0 0 → Below (w.heap.size + 1) (w.alloc (.cells z5 70)) W → Calls Tryz.prog 67 #[.pointer (some ⟨w.heap.size + 2, 0, none⟩)] W (RootOf (w.heap.size + 1) (w.heap.size + 2) P W) := fun W hW hB =>
    xml_Root hW hs (tabs_kept hT0 (hB.block 0 (by omega)) (hB.block 1 (by omega))) (by omega) (by omega) hne call
  replace cN : Calls Tryz.prog 66 #[.slice A bs.length c] (w.alloc (.cells z5 70)) fun e w' => e = .returned (.pointer (some ⟨w.heap.size + 2, 0, none⟩)) ∧ RS w' (w.heap.size + 1) (w.heap.size + 2) (.slice none 0 0) A bs.length bs 0 0 ∧ Below (w.heap.size + 1) (w.alloc (.cells z5 70)) w' := cN
  replace cR := Lib.hid cR
  replace hb0 := Lib.hid hb0
  replace hnew := Lib.hid hnew
  replace hz0 := Lib.hid hz0
  obtain ⟨m, hm⟩ : ∃ m, m = bs.length := ⟨_, rfl⟩
  rw [← hm] at cN ⊢
  replace hm := Lib.hid hm
  clear call hb hc hsm hs hT hT0 hne
  go_enter Tryz.func32, Tryz.ntmps32
  go_wp2_with (first
    | (go_at_call 66; (with_reducible refine cN.mono ?_); rintro e w1 ⟨rfl, h1, b1⟩; have k1 := cR.out w1 (hm.out ▸ h1) b1; replace h1 := Lib.hid h1; replace b1 := Lib.hid b1)
    | (go_at_call 67; (with_reducible refine k1.mono ?_); rintro e w2 ⟨N0, N1, N2, A1, n1, c1, A2, n2, c2, k, W, W1, rfl, hP, hF, hlt, hF1, hS⟩; have hz := hz0.out; have z1 := b1.out.size; have hW1 := hF1.size; have hB2 : Below (w.heap.size + 1) w1 w2 := ((hF.below (B := w.heap.size + 1) (by omega) (by omega) (by omega)).trans (hF1.below (by omega) (by omega) (by omega))).trans (hS.below (by omega) (by omega)); have hB3 := b1.out.trans hB2; have hz : Blk w2 w.heap.size 70 z5 := (hB3.block w.heap.size (by omega)).trans hnew.out; have a0 := hz.cell 0; have a1 := hz.cell 1; have a2 := hz.cell 2; have a3 := hz.cell 3; have a4 := hz.cell 4; have y0 := hz.frozen 0; have y1 := hz.frozen 1; have y2 := hz.frozen 2; have y3 := hz.frozen 3; have y4 := hz.frozen 4; replace hz := Lib.hid hz; replace hB2 := Lib.hid hB2; replace hB3 := Lib.hid hB3; replace hP := Lib.hid hP; replace hF := Lib.hid hF; replace hF1 := Lib.hid hF1; replace hS := Lib.hid hS))
  have hV := put5_blk hz.out (.string N0) (.string N1) (.string N2) (.slice A1 n1 c1) (.slice A2 n2 c2)
  have hSV := put5_save w2 w.heap.size (.string N0) (.string N1) (.string N2) (.slice A1 n1 c1) (.slice A2 n2 c2)
  unfold put5 at hV hSV
  obtain ⟨V, hU⟩ : ∃ U, U = (((((w2.setCell ⟨w.heap.size, 0, none⟩ (.string N0)).setCell ⟨w.heap.size, 1, none⟩ (.string N1)).setCell ⟨w.heap.size, 2, none⟩ (.string N2)).setCell ⟨w.heap.size, 3, none⟩ (.slice A1 n1 c1)).setCell ⟨w.heap.size, 4, none⟩ (.slice A2 n2 c2)) := ⟨_, rfl⟩
  rw [← hU] at hV hSV ⊢
  have q0 := hV.cell 0
  have q1 := hV.cell 1
  have q2 := hV.cell 2
  have q3 := hV.cell 3
  have q4 := hV.cell 4
  have hzz := hz0.out
  have s1 := b1.out.size
  have s2 := hF1.out.size
  have s3 := hS.out.size
  have s4 := hSV.size
  refine bodyPost_ret (v := .tuple #[.agg #[.string N0, .string N1, .string N2, .slice A1 n1 c1, .slice A2 n2 c2], .int .i64 k]) (by simp [results, Tryz.results9, go_sem, q0, q1, q2, q3, q4]) rfl ⟨N0, N1, N2, A1, n1, c1, A2, n2, c2, k, W, W1, rfl, hP.out, by omega, ?_, by omega, (hb0.out.trans (hB3.out.mono (by omega))).trans (hSV.below (Nat.le_refl _) (by omega))⟩
  intro j hj hj2
  exact (hSV.block j (by omega) (by omega)).trans (hS.out.block j hj2 (by omega))
end Go.Proofs.YtkpikpaepgknnaaGreatDoor

/- A packet is read: the tree that it says. No condition. -/
namespace Go.Proofs.YtkpikpaepgknnaaGreatDoor
open Go Go.RowKit Go.Wk Go.Xt Go.Xe Go.Xw
theorem parse_packet {w : World} {A : Option Addr} {c : Nat} {l : List Pr} (hb : Byt w A (innerL l)) (hc : (innerL l).length ≤ c) (hsm : (innerL l).length ≤ 10000000) (h : ∀ p ∈ l, mayB p = true) (hm : 2 + kidsM l ≤ 4000) (hT : Lib.Utf8Tabs 0 1 w) (h2 : 2 ≤ w.heap.size) :
    Calls Tryz.prog 32 #[.slice A (innerL l).length c] w fun e w' => ∃ (N0 N1 N2 : ByteArray) (a1 : Option Addr) (n1 c1 : Nat) (a2 : Option Addr) (n2 c2 : Nat) (bl : List Nat), e = .returned (.tuple #[.agg #[.string N0, .string N1, .string N2, .slice a1 n1 c1, .slice a2 n2 c2], .int .i64 0]) ∧
      NxAt w' (rootN l) [.string N0, .string N1, .string N2, .slice a1 n1 c1, .slice a2 n2 c2] bl ∧ (∀ k ∈ bl, w.heap.size ≤ k ∧ k < w'.heap.size) ∧ Below w.heap.size w w' := by
  have hne : innerL l ≠ [] := by unfold innerL; simp
  refine (xml_Parse (P := fun W W1 vs k => k = 0 ∧ ∃ bl, NxAt W1 (rootN l) vs.toList bl ∧ (∀ j ∈ bl, W.heap.size ≤ j ∧ j < W1.heap.size)) hb hc hsm (signs_inner l h) hT h2 hne fun W hW => ?_).mono ?_
  · refine (xml_allP hW ⟨by simp, Nat.zero_le _⟩ (inner_around l) (meta_elem h hm [10]) end_around).mono ?_
    rintro e w' ⟨S, N, a1, n1, c1, a2, n2, c2, bl, rfl, hN, hbl, hF⟩
    exact ⟨S, N, ⟨#[]⟩, a1, n1, c1, a2, n2, c2, 0, rfl, hF, ⟨rfl, bl, hN, hbl⟩, fun h => absurd rfl h⟩
  · rintro e w' ⟨N0, N1, N2, a1, n1, c1, a2, n2, c2, k, W, W1, rfl, ⟨rfl, bl, hN, hbl⟩, h3, h4, h5, hB⟩
    exact ⟨N0, N1, N2, a1, n1, c1, a2, n2, c2, bl, rfl, hN.keep fun j hj => h4 j (hbl j hj).1 (hbl j hj).2, fun j hj => by have := hbl j hj; omega, hB⟩
end Go.Proofs.YtkpikpaepgknnaaGreatDoor

/- The packet's last mark: where it stands. No condition. -/
namespace Go.Proofs.YtkpikpaepgknnaaGreatDoor
open Go Go.RowKit Go.Wk Go.Xt Go.Xe Go.Xw
/-- the bytes of the packet's end -/
def tb (j : Nat) : Int := ((tailPI.getD j 0).toNat : Int)
def H1 : Nat → Int
  | 0 => 0
  | k + 1 => (H1 k * 16777619 % 4294967296 + tb (18 - k) % 4294967296) % 4294967296
def H2 : Nat → Int
  | 0 => 3281374766
  | k + 1 => ((H2 k * 16777619 + tb (9 - k)) % 4294967296 - 558416115 * (tb (18 - k) % 4294967296) % 4294967296) % 4294967296
example : H1 9 = 3281374766 := by decide
example : H2 10 = 3058190937 := by decide
theorem h2_ne : ∀ k, k < 9 → ¬ (H2 (k + 1) = 3058190937) := by decide
theorem sep_bytes {w : World} {g o : Nat} (h0 : w.cell? ⟨g, o + 0, none⟩ = some (.int .u8 60)) (h1 : w.cell? ⟨g, o + 1, none⟩ = some (.int .u8 63)) (h2 : w.cell? ⟨g, o + 2, none⟩ = some (.int .u8 120)) (h3 : w.cell? ⟨g, o + 3, none⟩ = some (.int .u8 112)) (h4 : w.cell? ⟨g, o + 4, none⟩ = some (.int .u8 97)) (h5 : w.cell? ⟨g, o + 5, none⟩ = some (.int .u8 99)) (h6 : w.cell? ⟨g, o + 6, none⟩ = some (.int .u8 107)) (h7 : w.cell? ⟨g, o + 7, none⟩ = some (.int .u8 101)) (h8 : w.cell? ⟨g, o + 8, none⟩ = some (.int .u8 116)) : Lib.Bytes w g o ⟨#[60, 63, 120, 112, 97, 99, 107, 101, 116]⟩ := by
  intro i hi
  match i, hi with
  | 0, _ => exact h0
  | 1, _ => exact h1
  | 2, _ => exact h2
  | 3, _ => exact h3
  | 4, _ => exact h4
  | 5, _ => exact h5
  | 6, _ => exact h6
  | 7, _ => exact h7
  | 8, _ => exact h8
set_option maxHeartbeats 8000000 in
set_option maxRecDepth 100000 in
theorem last_rk {w : World} (b o n m c g c2 : Nat) (hn : n = m + 19) (hc : n ≤ c) (hbig : n ≤ 10000000) (hs : ∀ j, j < 19 → w.cell? ⟨b, o + (m + j), none⟩ = some (.int .u8 (tb j)))
    (h0 : w.cell? ⟨g, 0, none⟩ = some (.int .u8 60)) (h1 : w.cell? ⟨g, 1, none⟩ = some (.int .u8 63)) (h2 : w.cell? ⟨g, 2, none⟩ = some (.int .u8 120)) (h3 : w.cell? ⟨g, 3, none⟩ = some (.int .u8 112)) (h4 : w.cell? ⟨g, 4, none⟩ = some (.int .u8 97)) (h5 : w.cell? ⟨g, 5, none⟩ = some (.int .u8 99)) (h6 : w.cell? ⟨g, 6, none⟩ = some (.int .u8 107)) (h7 : w.cell? ⟨g, 7, none⟩ = some (.int .u8 101)) (h8 : w.cell? ⟨g, 8, none⟩ = some (.int .u8 116)) :
    Calls Tryz.prog 127 #[.slice (some ⟨b, o, none⟩) n c, .slice (some ⟨g, 0, none⟩) 9 c2] w fun e w' => e = .returned (.int .i64 (m : Nat)) ∧ ∃ q, w' = w.drewN q := by
  have ch := hash_rev g c2 h0 h1 h2 h3 h4 h5 h6 h7 h8
  subst hn
  replace hs := Lib.hid hs
  go_enter Tryz.func127, Tryz.ntmps127
  go_wp2_with (go_at_call 151; (with_reducible refine ch.mono ?_); rintro e w1 ⟨rfl, rfl⟩)
  go_loopw [9, 10] (fun s9 s10 wr => ∃ k j : Nat, k ≤ 9 ∧ j + k = m + 18 ∧ s9 = .int .u32 (H1 k) ∧ s10 = .int .i64 (j : Nat) ∧ wr = w) (fun _ s10 _ => (RowKit.intOf s10).toNat)
  case atStart => exact ⟨0, m + 18, by omega, by omega, rfl, by go_num, rfl⟩
  case round =>
    obtain ⟨k, j, hk, hj, rfl, rfl, rfl⟩ := hrel
    by_cases h9 : k < 9
    · have x0 := hs.out (18 - k) (by omega)
      rw [show m + (18 - k) = j by omega] at x0
      have e1 : H1 (k + 1) = (H1 k * 16777619 % 4294967296 + tb (18 - k) % 4294967296) % 4294967296 := rfl
      generalize H1 k = hh at e1
      generalize tb (18 - k) = tt at e1 x0
      replace e1 := Lib.hid e1
      go_wp2
      go_roundw
      case rel => exact ⟨k + 1, j - 1, by omega, by omega, by rw [e1.out], by go_num, trivial⟩
      case measure => simp [RowKit.intOf]; omega
    · obtain rfl : k = 9 := by omega
      have e9 : H1 9 = 3281374766 := by decide
      rw [e9]
      go_wp2_with fail
      go_quiet (fail)
      go_wp2
      go_loopw [9, 11] (fun s9 s11 wx => ∃ k j q : Nat, k ≤ 9 ∧ j + k = m + 9 ∧ s9 = .int .u32 (H2 k) ∧ s11 = .int .i64 (j : Nat) ∧ wx = wr.drewN q) (fun _ s11 _ => (RowKit.intOf s11).toNat)
      case atStart => exact ⟨0, m + 9, nq, by omega, by omega, rfl, by go_num, rfl⟩
      case round =>
        obtain ⟨k, i, q, hk, hi, rfl, rfl, rfl⟩ := hrel
        by_cases h9 : k < 9
        · have x0 := hs.out (9 - k) (by omega)
          have x1 := hs.out (18 - k) (by omega)
          rw [show m + (9 - k) = i by omega] at x0
          rw [show m + (18 - k) = i + 9 by omega] at x1
          have e2 : H2 (k + 1) = ((H2 k * 16777619 + tb (9 - k)) % 4294967296 - 558416115 * (tb (18 - k) % 4294967296) % 4294967296) % 4294967296 := rfl
          have hne := h2_ne k h9
          rw [e2] at hne
          generalize H2 k = hh at hne e2
          generalize tb (9 - k) = ta at x0 hne e2
          generalize tb (18 - k) = tt at x1 hne e2
          rw [← Int.sub_emod] at e2 hne
          replace e2 := Lib.hid e2
          have hn1 := beq_false_of_ne hne
          have hn2 := decide_eq_false hne
          go_wp2_with fail
          go_quiet (fail)
          go_wp2
          go_roundw
          case rel => exact ⟨k + 1, i - 1, _, by omega, by omega, by rw [e2.out, ← Int.sub_emod], by go_num, by first | rfl | exact World.drewN_drewN _ _ _⟩
          case measure => simp [RowKit.intOf]; omega
        · obtain rfl : k = 9 := by omega
          obtain rfl : i = m := by omega
          have x0 := hs.out 0 (by omega)
          have x1 := hs.out 9 (by omega)
          rw [Nat.add_zero, show tb 0 = 60 from by decide] at x0
          rw [show tb 9 = 32 from by decide] at x1
          rw [show H2 9 = 1749841839 from by decide]
          have hv1 : ∀ n cap, (convert 25 9 (.slice (some ⟨g, 0, none⟩) 9 cap)).run Tryz.prog (wr.drewN n) = .ok (.string ⟨#[60, 63, 120, 112, 97, 99, 107, 101, 116]⟩) (wr.drewN n) := fun n cap =>
            Lib.run_convert_whole (P := Tryz.prog) (wr.drewN n) 25 5 9 Tryz.underlying25 Tryz.underlying5 Tryz.underlying9 g 0 ⟨#[60, 63, 120, 112, 97, 99, 107, 101, 116]⟩ (Lib.Bytes.drewN (sep_bytes h0 h1 h2 h3 h4 h5 h6 h7 h8) n) cap
          have hv2 : ∀ n cap, (convert 25 9 (.slice (some ⟨b, o + i, none⟩) 9 cap)).run Tryz.prog (wr.drewN n) = .ok (.string ⟨#[60, 63, 120, 112, 97, 99, 107, 101, 116]⟩) (wr.drewN n) := fun n cap =>
            Lib.run_convert_whole (P := Tryz.prog) (wr.drewN n) 25 5 9 Tryz.underlying25 Tryz.underlying5 Tryz.underlying9 b (o + i) ⟨#[60, 63, 120, 112, 97, 99, 107, 101, 116]⟩ (Lib.Bytes.drewN (sep_bytes (by have := hs.out 0 (by omega); exact this) (by have := hs.out 1 (by omega); rwa [← Nat.add_assoc] at this) (by have := hs.out 2 (by omega); rwa [← Nat.add_assoc] at this) (by have := hs.out 3 (by omega); rwa [← Nat.add_assoc] at this) (by have := hs.out 4 (by omega); rwa [← Nat.add_assoc] at this) (by have := hs.out 5 (by omega); rwa [← Nat.add_assoc] at this) (by have := hs.out 6 (by omega); rwa [← Nat.add_assoc] at this) (by have := hs.out 7 (by omega); rwa [← Nat.add_assoc] at this) (by have := hs.out 8 (by omega); rwa [← Nat.add_assoc] at this)) n) cap
          obtain ⟨SP, hSP⟩ : ∃ SP : ByteArray, SP = ⟨#[60, 63, 120, 112, 97, 99, 107, 101, 116]⟩ := ⟨_, rfl⟩
          rw [← hSP] at hv1 hv2
          replace hSP := Lib.hid hSP
          go_wp2_with fail
          go_quiet (fail)
          go_wp2
          go_ret
          exact ⟨rfl, _, World.drewN_drewN _ _ _⟩
end Go.Proofs.YtkpikpaepgknnaaGreatDoor

/- Where a packet's marks stand. No condition. -/
namespace Go.Proofs.YtkpikpaepgknnaaGreatDoor
open Go Go.RowKit Go.Wk Go.Xt Go.Xe Go.Xw
def markB : ByteArray := ⟨#[60, 63, 120, 112, 97, 99, 107, 101, 116]⟩
theorem tail_cells {w : World} {b o : Nat} {bs pre : List UInt8} (hbs : bs = pre ++ tailPI) (hc : ∀ i (h : i < bs.length), w.cell? ⟨b, o + i, none⟩ = some (.int .u8 (bs[i].toNat : Int))) : ∀ j, j < 19 → w.cell? ⟨b, o + (pre.length + j), none⟩ = some (.int .u8 (tb j)) := by
  intro j hj
  have hl : tailPI.length = 19 := rfl
  have h := hc (pre.length + j) (by rw [hbs, List.length_append, hl]; omega)
  rw [h]
  unfold tb
  congr 3
  subst hbs
  rw [List.getElem_append_right (by omega)]
  simp [List.getD, hj, hl]
set_option maxHeartbeats 4000000 in
set_option maxRecDepth 100000 in
theorem cur_last {w : World} (A : Option Addr) (c : Nat) (bs pre : List UInt8) (hb : Byt w A bs) (hbs : bs = pre ++ tailPI) (hc : bs.length ≤ c) (hbig : bs.length ≤ 10000000) :
    Calls Tryz.prog 71 #[.slice A bs.length c, .string markB] w fun e w' => e = .returned (.int .i64 (pre.length : Nat)) ∧ Below w.heap.size w w' := by
  obtain ⟨m, hm⟩ : ∃ m, m = pre.length := ⟨_, rfl⟩
  have hl : bs.length = m + 19 := by rw [hbs, List.length_append, hm]; rfl
  obtain ⟨b, o, rfl, hcs⟩ := hb.2 (by omega)
  have ht := tail_cells hbs hcs
  rw [← hm] at ht ⊢
  rw [hl] at hc hbig ⊢
  obtain ⟨c9, W1, hcv, hby, hb1, hc9, hz1⟩ := conv_bytes w markB (by decide)
  have hcv : (convert 9 25 (.string markB)).run Tryz.prog w = .ok (.slice (some ⟨w.heap.size, 0, none⟩) 9 c9) W1 := hcv
  obtain ⟨b', o', e', hm9⟩ := hby.2 (by decide)
  cases e'
  have hm0 := hm9 0 (by decide)
  have hm1 := hm9 1 (by decide)
  have hm2 := hm9 2 (by decide)
  have hm3 := hm9 3 (by decide)
  have hm4 := hm9 4 (by decide)
  have hm5 := hm9 5 (by decide)
  have hm6 := hm9 6 (by decide)
  have hm7 := hm9 7 (by decide)
  have hm8 := hm9 8 (by decide)
  have cr := last_rk (w := W1) b o (m + 19) m c w.heap.size c9 rfl hc hbig (fun j hj => (hb1.cell (cell_lt (ht j hj))).trans (ht j hj)) hm0 hm1 hm2 hm3 hm4 hm5 hm6 hm7 hm8
  have ci : Calls Tryz.prog 102 #[.slice (some ⟨b, o, none⟩) (m + 19) c, .slice (some ⟨w.heap.size, 0, none⟩) 9 c9] W1 fun e w' => e = .returned (.int .i64 (m : Nat)) ∧ ∃ q, w' = W1.drewN q := by
    clear hm hl hbs hcv hby hm9 hm0 hm1 hm2 hm3 hm4 hm5 hm6 hm7 hm8 ht hcs hb
    go_enter Tryz.func102, Tryz.ntmps102
    go_wp2_with (go_at_call 127; (with_reducible refine cr.mono ?_); rintro e w2 ⟨rfl, q, rfl⟩)
    go_ret
    exact ⟨rfl, q, rfl⟩
  replace hb1 := Lib.hid hb1
  replace hm := Lib.hid hm
  clear hl hbs cr hby hm9 hm0 hm1 hm2 hm3 hm4 hm5 hm6 hm7 hm8 ht hcs hb
  replace ci : Calls Tryz.prog 102 #[.slice (some ⟨b, o, none⟩) (m + 19) c, .slice (some ⟨w.heap.size, 0, none⟩) markB.size c9] W1 fun e w' => e = .returned (.int .i64 (m : Nat)) ∧ ∃ q, w' = W1.drewN q := ci
  go_enter Tryz.func71, Tryz.ntmps71
  go_wp2_with (go_at_call 102; (with_reducible refine ci.mono ?_); rintro e w2 ⟨rfl, q, rfl⟩)
  go_ret
  exact ⟨rfl, below_drewN hb1.out q⟩
def endB : ByteArray := ⟨#[63, 62]⟩
def nums (l : List UInt8) : List Int := l.map fun x => (x.toNat : Int)
theorem nums_bytes (l : List UInt8) : Lib.bytesOf (nums l) = l := by
  unfold Lib.bytesOf nums
  rw [List.map_map]
  conv => rhs; rw [← List.map_id l]
  apply List.map_congr_left
  intro x _
  simp
theorem nums_range (l : List UInt8) : ∀ x ∈ nums l, 0 ≤ x ∧ x < 256 := by
  intro x hx
  obtain ⟨y, _, rfl⟩ := List.mem_map.1 hx
  exact ⟨by omega, u8_lt y⟩
theorem nums_cell {w : World} {b o : Nat} {l : List UInt8} (hc : ∀ i (h : i < l.length), w.cell? ⟨b, o + i, none⟩ = some (.int .u8 (l[i].toNat : Int))) : ∀ i, i < l.length → w.cell? ((⟨b, o, none⟩ : Addr).add i) = some (.int .u8 ((nums l).getD i 0)) := fun i hi => by
  rw [Wk.add_none, hc i hi]
  simp [nums, List.getD, hi]
theorem index_end (R : List UInt8) : Lib.index (headPI ++ R) [63, 62] = 48 := by
  refine Lib.index_first (i := 48) (by rw [List.length_append]; have : headPI.length = 50 := rfl; omega) ?_ ?_
  · unfold Lib.occAt headPI
    rfl
  · intro j hj
    unfold Lib.occAt headPI
    have h : ∀ j : Fin 48, ([63, 62] : List UInt8).isPrefixOf (([60, 63, 120, 112, 97, 99, 107, 101, 116, 32, 98, 101, 103, 105, 110, 61, 34, 34, 32, 105, 100, 61, 34, 87, 53, 77, 48, 77, 112, 67, 101, 104, 105, 72, 122, 114, 101, 83, 122, 78, 84, 99, 122, 107, 99, 57, 100, 34, 63, 62] : List UInt8).drop j) = false := by decide
    have h2 := h ⟨j, hj⟩
    have e : ∀ l : List UInt8, 2 ≤ l.length → ([63, 62] : List UInt8).isPrefixOf (l ++ R) = ([63, 62] : List UInt8).isPrefixOf l := fun l hl => by
      match l, hl with
      | a :: b :: l, _ => simp [List.isPrefixOf]
    rw [List.drop_append_of_le_length (by simp; omega), e _ (by simp; omega)]
    exact h2
set_option maxHeartbeats 4000000 in
set_option maxRecDepth 100000 in
theorem cur_find {w : World} (A : Option Addr) (c : Nat) (bs R : List UInt8) (hb : Byt w A bs) (hbs : bs = headPI ++ R) (hc : bs.length ≤ c) (hbig : bs.length ≤ 10000000) (mx : Int) (hmx : w.cell? ⟨2, 0, none⟩ = some (.int .i64 mx)) :
    Calls Tryz.prog 70 #[.slice A bs.length c, .string endB, .int .i64 0] w fun e w' => e = .returned (.int .i64 48) ∧ Below w.heap.size w w' := by
  obtain ⟨n, hn⟩ : ∃ n, n = bs.length := ⟨_, rfl⟩
  have hl : 50 ≤ bs.length := by rw [hbs, List.length_append]; have : headPI.length = 50 := rfl; omega
  obtain ⟨b, o, rfl, hcs⟩ := hb.2 (by omega)
  obtain ⟨c9, W1, hcv, hby, hb1, hc9, hz1⟩ := conv_bytes w endB (by decide)
  obtain ⟨b', o', e', hm9⟩ := hby.2 (by decide)
  cases e'
  have hi : Lib.index (Lib.bytesOf (nums bs)) (Lib.bytesOf (nums endB.data.toList)) = 48 := by
    rw [nums_bytes, nums_bytes, hbs]; exact index_end R
  have ci := Tryz.bytes_Index_at ⟨b, o, none⟩ ⟨w.heap.size, 0, none⟩ n c endB.size c9 (nums bs) (nums endB.data.toList) mx W1 (by rw [hn]; simp [nums]) rfl (nums_range _) (nums_range _)
    (fun i hi => by rw [hn] at hi; have h := nums_cell hcs i hi; exact (hb1.cell (cell_lt h)).trans h) (fun i hi => nums_cell hm9 i hi) (by rw [hn]; exact hc) (by rw [hn]; omega) (by decide) ((hb1.cell (cell_lt hmx)).trans hmx)
  rw [hi] at ci
  have hnc : (n : Int) ≤ (c : Int) := by omega
  have hn50 : 50 ≤ n := by omega
  rw [← hn] at hc hbig ⊢
  replace hb1 := Lib.hid hb1
  clear hn hl hbs hi hm9 hby hcs hb
  go_enter Tryz.func70, Tryz.ntmps70
  go_wp2_with (go_at_call 101; (with_reducible refine ci.mono ?_); rintro e w2 ⟨rfl, q, rfl⟩)
  go_ret
  exact ⟨rfl, below_drewN hb1.out q⟩
end Go.Proofs.YtkpikpaepgknnaaGreatDoor

/- What kind a name says. No condition. -/
namespace Go.Proofs.YtkpikpaepgknnaaGreatDoor
open Go Go.RowKit Go.Wk Go.Xt Go.Xe Go.Xw
set_option maxHeartbeats 2000000 in
theorem xmp_kind {w : World} (k : Int) (hk : k = 1 ∨ k = 2 ∨ k = 3) : Calls Tryz.prog 105 #[str (kindL k)] w fun e w' => e = .returned (.tuple #[.int .i64 k, .bool true]) ∧ w = w' := by
  obtain ⟨S, hS⟩ : ∃ S : ByteArray, str (kindL k) = .string S := ⟨_, rfl⟩
  have hl := toList_str _ _ hS
  rw [hS]
  clear hS
  rcases hk with rfl | rfl | rfl
  · have h1 : (S.toList == [65, 108, 116]) = true := by rw [hl]; rfl
    clear hl
    go_enter Tryz.func105, Tryz.ntmps105
    go_wp2
    go_ret2
    exact ⟨rfl, rfl⟩
  · have h1 : (S.toList == [65, 108, 116]) = false := by rw [hl]; rfl
    have h2 : (S.toList == [83, 101, 113]) = true := by rw [hl]; rfl
    clear hl
    go_enter Tryz.func105, Tryz.ntmps105
    go_wp2
    go_ret2
    exact ⟨rfl, rfl⟩
  · have h1 : (S.toList == [65, 108, 116]) = false := by rw [hl]; rfl
    have h2 : (S.toList == [83, 101, 113]) = false := by rw [hl]; rfl
    have h3 : (S.toList == [66, 97, 103]) = true := by rw [hl]; rfl
    clear hl
    go_enter Tryz.func105, Tryz.ntmps105
    go_wp2
    go_ret2
    exact ⟨rfl, rfl⟩
end Go.Proofs.YtkpikpaepgknnaaGreatDoor

/- A property of a name, looked for: the test. No condition. -/
namespace Go.Proofs.YtkpikpaepgknnaaGreatDoor
open Go Go.RowKit Go.Wk Go.Xt Go.Xe Go.Xw
set_option maxHeartbeats 2000000 in
theorem find_is {w : World} (p : Pr) (A : Option Addr) (n c g1 g2 : Nat) (S N : ByteArray) (h1 : w.cell? ⟨g1, 0, none⟩ = some (.string S)) (h2 : w.cell? ⟨g2, 0, none⟩ = some (.string N)) :
    Calls Tryz.prog 38 #[prV p (.slice A n c), .pointer (some ⟨g1, 0, none⟩), .pointer (some ⟨g2, 0, none⟩)] w fun e w' => e = .returned (.bool (p.sp.toList == S.toList && p.nm.toList == N.toList)) ∧ Below w.heap.size w w' := by
  obtain ⟨W1, hW1⟩ : ∃ W, W = w.alloc (.cells #[.string p.sp, .string p.nm, .int .i64 p.kd, .slice A n c] 38) := ⟨_, rfl⟩
  have hb1 : Below w.heap.size w W1 := by rw [hW1]; exact (Below.refl _ _).alloc (Nat.le_refl _) _
  have hR : Blk W1 w.heap.size 38 #[.string p.sp, .string p.nm, .int .i64 p.kd, .slice A n c] := by rw [hW1]; exact Blk.new w 38 _
  obtain ⟨r0, r1, r2, r3⟩ := blk4 hR
  have k1 := (hb1.cell (cell_lt h1)).trans h1
  have k2 := (hb1.cell (cell_lt h2)).trans h2
  unfold prV
  replace hb1 := Lib.hid hb1
  clear hR h1 h2
  cases e1 : (p.sp.toList == S.toList) with
  | false =>
    go_enter Tryz.func38, Tryz.ntmps38
    go_upto_region 1 with (fail)
    rw [← hW1]
    replace hW1 := Lib.hid hW1
    go_wp2
    go_ret
    exact ⟨rfl, hb1.out⟩
  | true =>
    obtain ⟨b, hb⟩ : ∃ b, (p.nm.toList == N.toList) = b := ⟨_, rfl⟩
    rw [hb]
    go_enter Tryz.func38, Tryz.ntmps38
    go_upto_region 1 with (fail)
    rw [← hW1]
    replace hW1 := Lib.hid hW1
    go_wp2
    go_ret
    exact ⟨rfl, hb1.out⟩
end Go.Proofs.YtkpikpaepgknnaaGreatDoor

/- A property of a name, looked for: where it stands. No condition. -/
namespace Go.Proofs.YtkpikpaepgknnaaGreatDoor
open Go Go.RowKit Go.Wk Go.Xt Go.Xe Go.Xw
def isF (S N : ByteArray) (p : Pr) : Bool := p.sp.toList == S.toList && p.nm.toList == N.toList
def Found (S N : ByteArray) (l : List PA) (e : Ending) : Prop := (e = .returned (.int .i64 (-1)) ∧ ∀ x ∈ l, isF S N x.1 = false) ∨ ∃ i, ∃ hi : i < l.length, e = .returned (.int .i64 (i : Nat)) ∧ isF S N l[i].1 = true
set_option maxHeartbeats 4000000 in
set_option maxRecDepth 100000 in
theorem find_index {w : World} (A : Option Addr) (g cap g1 g2 : Nat) (l : List PA) (hA : 0 < l.length → A = some ⟨g, 0, none⟩) (hn : l.length ≤ 20) (hcp : l.length ≤ cap) (hc : CellsP w g l) (S N : ByteArray) (h1 : w.cell? ⟨g1, 0, none⟩ = some (.string S)) (h2 : w.cell? ⟨g2, 0, none⟩ = some (.string N)) :
    Calls Tryz.prog 37 #[.slice A l.length cap, .func (.func 38) #[] #[.pointer (some ⟨g1, 0, none⟩), .pointer (some ⟨g2, 0, none⟩)]] w fun e w' => Found S N l e ∧ Below w.heap.size w w' := by
  obtain ⟨n, hnn⟩ : ∃ n, n = l.length := ⟨_, rfl⟩
  rw [← hnn]
  rw [← hnn] at hA hn hcp
  have ct := fun W (hW : Below w.heap.size w W) (x : PA) => find_is (w := W) x.1 x.2.1 x.1.it.length x.2.2 g1 g2 S N ((hW.cell (cell_lt h1)).trans h1) ((hW.cell (cell_lt h2)).trans h2)
  replace ct := Lib.hid ct
  replace hc := Lib.hid hc
  replace hnn := Lib.hid hnn
  replace hA := Lib.hid hA
  clear h1 h2
  go_enter Tryz.func37, Tryz.ntmps37
  go_wp2
  go_loopw [8] (fun s8 wr => ∃ i : Nat, i ≤ n ∧ s8 = .int .i64 i ∧ (∀ j (hj : j < l.length), j < i → isF S N l[j].1 = false) ∧ Below w.heap.size w wr) (fun s8 _ => n - (RowKit.intOf s8).toNat)
  case atStart => exact ⟨0, Nat.zero_le _, rfl, fun j _ h => by omega, Below.refl _ _⟩
  case round =>
    obtain ⟨i, hi, rfl, hno, hB⟩ := hrel
    replace hno := Lib.hid hno
    by_cases hin : i < n
    · have hil : i < l.length := by rw [← hnn.out]; exact hin
      have hAe := hA.out (by omega)
      subst hAe
      obtain ⟨x0, x1, x2, x3⟩ := hc.out.below hB i hil
      have c1 := ct.out wr hB l[i]
      have hit : isF S N l[i].1 = true → ∃ j, ∃ hj : j < l.length, (i : Int) = (j : Int) ∧ isF S N l[j].1 = true := fun h => ⟨i, hil, rfl, h⟩
      have hnx : isF S N l[i].1 = false → ∀ j (hj : j < l.length), j < i + 1 → isF S N l[j].1 = false := fun h j hj hji => by
        by_cases e : j = i
        · subst e; exact h
        · exact hno.out j hj (by omega)
      generalize l[i] = x at x0 x1 x2 x3 c1 hit hnx
      unfold prV at c1
      change Calls _ _ _ _ (fun e w' => e = .returned (.bool (isF S N x.1)) ∧ Below wr.heap.size wr w') at c1
      generalize isF S N x.1 = b at c1 hit hnx
      replace hit := Lib.hid hit
      replace hnx := Lib.hid hnx
      replace hB := Lib.hid hB
      cases b with
      | true =>
        go_wp2_with (go_at_call 38; (with_reducible refine c1.mono ?_); rintro e w2 ⟨rfl, hb2⟩; replace hb2 := Lib.hid hb2)
        go_ret
        obtain ⟨j, hj, e, h⟩ := hit.out (by simp)
        exact ⟨.inr ⟨j, hj, congrArg (fun z => Ending.returned (.int .i64 z)) e, h⟩, bthen hB.out hb2.out⟩
      | false =>
        go_wp2_with (go_at_call 38; (with_reducible refine c1.mono ?_); rintro e w2 ⟨rfl, hb2⟩; replace hb2 := Lib.hid hb2)
        go_roundw
        case rel => exact ⟨i + 1, by omega, by go_num, hnx.out (by simp), bthen hB.out hb2.out⟩
        case measure => simp [RowKit.intOf]; omega
    · obtain rfl : i = n := by omega
      replace hB := Lib.hid hB
      go_wp2
      go_ret
      exact ⟨.inl ⟨rfl, fun x hx => by obtain ⟨j, hj, rfl⟩ := List.getElem_of_mem hx; exact hno.out j hj (by rw [hnn.out]; exact hj)⟩, hB.out⟩
end Go.Proofs.YtkpikpaepgknnaaGreatDoor

/- Inner: the text in a node with one text or none. No condition. -/
namespace Go.Proofs.YtkpikpaepgknnaaGreatDoor
open Go Go.RowKit Go.Wk Go.Xt Go.Xe
set_option maxHeartbeats 2000000 in
set_option maxRecDepth 100000 in
theorem xml_Inner_one {w : World} (N0 N1 N2 : ByteArray) (a1 : Option Addr) (n1 c1 g cap : Nat) (t : List UInt8) (ht : t.length ≤ 100000) (hcap : 1 ≤ cap)
    (h0 : w.cell? ⟨g, 0, none⟩ = some (.string ⟨#[]⟩)) (h1 : w.cell? ⟨g, 1, none⟩ = some (.string ⟨#[]⟩)) (h2 : w.cell? ⟨g, 2, none⟩ = some (str t)) (h3 : w.cell? ⟨g, 3, none⟩ = some (.slice none 0 0)) (h4 : w.cell? ⟨g, 4, none⟩ = some (.slice none 0 0)) :
    Calls Tryz.prog 135 #[.agg #[.string N0, .string N1, .string N2, .slice a1 n1 c1, .slice (some ⟨g, 0, none⟩) 1 cap]] w fun e w' => e = .returned (.tuple #[str t, .bool true]) ∧ Below w.heap.size w w' := by
  have hg := cell_lt h0
  obtain ⟨T, hT⟩ : ∃ T : ByteArray, T = ⟨t.toArray⟩ := ⟨_, rfl⟩
  have hTs : str t = .string T := by rw [hT]; rfl
  rw [hTs] at h2 ⊢
  have hw1 : (w.alloc (.cells #[.string N0, .string N1, .string N2, .slice a1 n1 c1, .slice (some ⟨g, 0, none⟩) 1 cap] 70)).heap.size = w.heap.size + 1 := World.size_alloc _ _
  have hnew := bld_new (w.alloc (.cells #[.string N0, .string N1, .string N2, .slice a1 n1 c1, .slice (some ⟨g, 0, none⟩) 1 cap] 70))
  rw [hw1] at hnew
  have cw : ∀ W, Lib.IsBuilder 154 5 (w.heap.size + 1) (w.heap.size + 1) [] W → w.heap.size + 1 ≤ W.heap.size → Calls Tryz.prog 114 #[.pointer (some ⟨w.heap.size + 1, 0, none⟩), .string T] W fun e w' => e = .returned (.tuple #[.int .i64 T.size, .nilIface]) ∧ Lib.IsBuilder 154 5 (w.heap.size + 1) (w.heap.size + 1) (Lib.byteCells t) w' ∧ Below (w.heap.size + 1) W w' := fun W hW hz => by
    refine (bld_str (w.heap.size + 1) (w.heap.size + 1) [] T W hW ?_ hz).mono ?_
    · have : T.size = t.length := by rw [hT]; show t.toArray.size = _; simp
      simp; omega
    · rintro e w' ⟨rfl, h, hb⟩
      refine ⟨rfl, ?_, hb⟩
      have : Lib.strCells T = Lib.byteCells t := by rw [hT]; rfl
      rw [List.nil_append, this] at h
      exact h
  have cz : ∀ W, Lib.IsBuilder 154 5 (w.heap.size + 1) (w.heap.size + 1) (Lib.byteCells t) W → w.heap.size + 1 ≤ W.heap.size → Calls Tryz.prog 115 #[.pointer (some ⟨w.heap.size + 1, 0, none⟩)] W fun e w' => e = .returned (.string T) ∧ Below (w.heap.size + 1) W w' := fun W hW hz => by
    rw [hT]; exact Tryz.Builder_String_any _ _ t W hW hz
  have hb52 : Below (w.heap.size + 1) (w.alloc (.cells #[.string N0, .string N1, .string N2, .slice a1 n1 c1, .slice (some ⟨g, 0, none⟩) 1 cap] 70)) (((w.alloc (.cells #[.string N0, .string N1, .string N2, .slice a1 n1 c1, .slice (some ⟨g, 0, none⟩) 1 cap] 70)).alloc (.cells #[.pointer none, .slice none 0 0] 154)).alloc (.cells #[.string ⟨#[]⟩, .string ⟨#[]⟩, .string T, .slice none 0 0, .slice none 0 0] 70)) := ((Below.refl _ _).alloc (by rw [hw1]; omega) _).alloc (by rw [World.size_alloc, hw1]; omega) _
  have hU := bld_fr hnew (Fr.of_below (L := 0) (R := 0) ((Below.refl _ _).alloc (Nat.le_refl _) (.cells #[.string ⟨#[]⟩, .string ⟨#[]⟩, .string T, .slice none 0 0, .slice none 0 0] 70))) (by omega) (by omega)
  have k114 := cw _ hU (by rw [World.size_alloc, World.size_alloc, hw1]; omega)
  have hB : Below w.heap.size w (w.alloc (.cells #[.string N0, .string N1, .string N2, .slice a1 n1 c1, .slice (some ⟨g, 0, none⟩) 1 cap] 70)) := (Below.refl _ _).alloc (Nat.le_refl _) _
  have hBU := hB.trans (hb52.mono (by omega))
  have hUs := hb52.size
  rw [hw1] at hUs
  replace hT := Lib.hid hT
  replace hTs := Lib.hid hTs
  replace cw := Lib.hid cw
  replace cz := Lib.hid cz
  replace hnew := Lib.hid hnew
  replace hw1 := Lib.hid hw1
  replace hb52 := Lib.hid hb52
  replace hU := Lib.hid hU
  replace hB := Lib.hid hB
  replace hBU := Lib.hid hBU
  replace hUs := Lib.hid hUs
  go_enter Tryz.func135, Tryz.ntmps135
  go_wp2
  refine wp_loop_rounds 2 ?_; rw [rounds_succ]
  go_wp2_with (fail)
  go_at_call 114
  refine k114.mono ?_
  rintro e w1 ⟨rfl, hb1, bl1⟩
  have k115 := cz.out w1 hb1 (Nat.le_trans hUs.out bl1.size)
  replace hb1 := Lib.hid hb1
  replace bl1 := Lib.hid bl1
  clear k114 h0 h1 h2 h3 h4
  go_wp2
  rw [rounds_succ]
  go_wp2_with (go_at_call 115; (with_reducible refine k115.mono ?_); rintro e w2 ⟨rfl, b2⟩; replace b2 := Lib.hid b2)
  go_ret2
  exact ⟨rfl, (hBU.out.trans (bl1.out.mono (by omega))).trans (b2.out.mono (by omega))⟩
set_option maxHeartbeats 2000000 in
set_option maxRecDepth 100000 in
theorem xml_Inner_nil {w : World} (N0 N1 N2 : ByteArray) (a1 : Option Addr) (n1 c1 : Nat) (a2 : Option Addr) (c2 : Nat) :
    Calls Tryz.prog 135 #[.agg #[.string N0, .string N1, .string N2, .slice a1 n1 c1, .slice a2 0 c2]] w fun e w' => e = .returned (.tuple #[.string ⟨#[]⟩, .bool true]) ∧ Below w.heap.size w w' := by
  have hw1 : (w.alloc (.cells #[.string N0, .string N1, .string N2, .slice a1 n1 c1, .slice a2 0 c2] 70)).heap.size = w.heap.size + 1 := World.size_alloc _ _
  have hnew := bld_new (w.alloc (.cells #[.string N0, .string N1, .string N2, .slice a1 n1 c1, .slice a2 0 c2] 70))
  rw [hw1] at hnew
  have hB : Below w.heap.size w ((w.alloc (.cells #[.string N0, .string N1, .string N2, .slice a1 n1 c1, .slice a2 0 c2] 70)).alloc (.cells #[.pointer none, .slice none 0 0] 154)) := ((Below.refl _ _).alloc (Nat.le_refl _) _).alloc (by rw [hw1]; omega) _
  have k115 : Calls Tryz.prog 115 #[.pointer (some ⟨w.heap.size + 1, 0, none⟩)] ((w.alloc (.cells #[.string N0, .string N1, .string N2, .slice a1 n1 c1, .slice a2 0 c2] 70)).alloc (.cells #[.pointer none, .slice none 0 0] 154)) fun e w' => e = .returned (.string ⟨#[]⟩) ∧ Below (w.heap.size + 1) _ w' :=
    Tryz.Builder_String_any _ _ [] _ hnew (by rw [World.size_alloc, hw1]; omega)
  replace hw1 := Lib.hid hw1
  replace hnew := Lib.hid hnew
  replace hB := Lib.hid hB
  go_enter Tryz.func135, Tryz.ntmps135
  go_wp2
  refine wp_loop_rounds 1 ?_; rw [rounds_succ]
  go_wp2_with (fail)
  go_at_call 115
  refine k115.mono ?_
  rintro e w2 ⟨rfl, b2⟩
  replace b2 := Lib.hid b2
  clear k115
  go_wp2
  go_ret2
  exact ⟨rfl, hB.out.trans (b2.out.mono (by omega))⟩
set_option maxHeartbeats 2000000 in
set_option maxRecDepth 100000 in
theorem xml_Inner_el {w : World} (N0 N1 N2 : ByteArray) (a1 : Option Addr) (n1 c1 g n cap : Nat) (hn : 1 ≤ n) (S N T : ByteArray) (x1 : Option Addr) (y1 z1 : Nat) (x2 : Option Addr) (y2 z2 : Nat) (hN : (N.toList == []) = false)
    (h0 : w.cell? ⟨g, 0, none⟩ = some (.string S)) (h1 : w.cell? ⟨g, 1, none⟩ = some (.string N)) (h2 : w.cell? ⟨g, 2, none⟩ = some (.string T)) (h3 : w.cell? ⟨g, 3, none⟩ = some (.slice x1 y1 z1)) (h4 : w.cell? ⟨g, 4, none⟩ = some (.slice x2 y2 z2)) :
    Calls Tryz.prog 135 #[.agg #[.string N0, .string N1, .string N2, .slice a1 n1 c1, .slice (some ⟨g, 0, none⟩) n cap]] w fun e w' => e = .returned (.tuple #[.string ⟨#[]⟩, .bool false]) ∧ Below w.heap.size w w' := by
  have hN2 : N.toList.isEmpty = false := by simpa using hN
  have hw1 : (w.alloc (.cells #[.string N0, .string N1, .string N2, .slice a1 n1 c1, .slice (some ⟨g, 0, none⟩) n cap] 70)).heap.size = w.heap.size + 1 := World.size_alloc _ _
  have hB : Below w.heap.size w (((w.alloc (.cells #[.string N0, .string N1, .string N2, .slice a1 n1 c1, .slice (some ⟨g, 0, none⟩) n cap] 70)).alloc (.cells #[.pointer none, .slice none 0 0] 154)).alloc (.cells #[.string S, .string N, .string T, .slice x1 y1 z1, .slice x2 y2 z2] 70)) := (((Below.refl _ _).alloc (Nat.le_refl _) _).alloc (by rw [hw1]; omega) _).alloc (by rw [World.size_alloc, hw1]; omega) _
  have hg := cell_lt h0
  replace hw1 := Lib.hid hw1
  replace hB := Lib.hid hB
  go_enter Tryz.func135, Tryz.ntmps135
  go_wp2
  refine wp_loop_rounds 1 ?_; rw [rounds_succ]
  go_wp2_with (fail)
  go_ret2
  exact ⟨rfl, hB.out⟩
end Go.Proofs.YtkpikpaepgknnaaGreatDoor

/- Nodes in memory, one of many. No condition. -/
namespace Go.Proofs.YtkpikpaepgknnaaGreatDoor
open Go Go.RowKit Go.Wk Go.Xt Go.Xe Go.Xw
def isElX : Nx → Bool
  | .el .. => true
  | .tx _ => false
/-- an element with a name, or a white text -/
def OkX : Nx → Prop
  | .el _ nm _ _ => nm ≠ []
  | .tx t => t = [10]
def elsX (ks : List Nx) : List Nx := ks.filter isElX
theorem els_take {ks : List Nx} {i : Nat} (h : i < ks.length) : elsX (ks.take (i + 1)) = elsX (ks.take i) ++ (if isElX ks[i] then [ks[i]] else []) := by
  unfold elsX
  rw [List.take_succ_eq_append_getElem h, List.filter_append]
  congr 1
  simp only [List.filter_cons, List.filter_nil]
theorem els_len (ks : List Nx) (i : Nat) : (elsX (ks.take i)).length ≤ ks.length := Nat.le_trans (List.length_filter_le _ _) (by rw [List.length_take]; exact Nat.min_le_right _ _)
theorem AtX.slice {w : World} {l : List (List UInt8 × List UInt8 × List UInt8)} {v : Value} {b : List Nat} (h : AtX w l v b) : ∃ a c, v = .slice a l.length c := by
  rcases h with ⟨rfl, rfl, _⟩ | ⟨a, g, cap, rfl, rfl, _⟩
  · exact ⟨none, 0, rfl⟩
  · exact ⟨_, cap, rfl⟩
theorem KxAt.slice {w : World} {ks : List Nx} {v : Value} {b : List Nat} (h : KxAt w ks v b) : ∃ a c, v = .slice a ks.length c := by
  cases h with
  | nil => exact ⟨none, 0, rfl⟩
  | row _ g cap vs b h1 h2 => exact ⟨_, cap, rfl⟩
theorem own_lt2 {w : World} {B e s n g c : Nat} {xs : List Value} (h : w.ownsRow B e s (.slice (some ⟨g, 0, none⟩) n c) n xs) : g < w.heap.size := by
  rcases h.2 with ⟨e, _⟩ | ⟨g', cap', cur, e, _, hh, _⟩
  · cases e
  · cases e; exact (Array.getElem?_eq_some_iff.1 hh).1
theorem AtX.lt {w : World} {l : List (List UInt8 × List UInt8 × List UInt8)} {v : Value} {b : List Nat} (h : AtX w l v b) : ∀ k ∈ b, k < w.heap.size := by
  rcases h with ⟨_, _, rfl⟩ | ⟨a, g, cap, _, _, c0, _, _, rfl⟩
  · simp
  · intro k hk; rw [List.mem_singleton.1 hk]; exact cell_lt c0
mutual
theorem NxAt.lt {w : World} {n : Nx} {vs : List Value} {b : List Nat} : NxAt w n vs b → ∀ k ∈ b, k < w.heap.size
  | .el sp nm l ks va vk ba bk h1 h2, k, hk => (List.mem_append.1 hk).elim (h1.lt k) (KxAt.lt h2 k)
  | .tx t, k, hk => by simp at hk
theorem KxAt.lt {w : World} {ks : List Nx} {v : Value} {b : List Nat} : KxAt w ks v b → ∀ k ∈ b, k < w.heap.size
  | .nil, k, hk => by simp at hk
  | .row ks g cap vs b h1 h2, k, hk => (List.mem_cons.1 hk).elim (fun e => by rw [e]; exact own_lt2 h1) (RxAt.lt h2 k)
theorem RxAt.lt {w : World} {ks : List Nx} {vs : List Value} {b : List Nat} : RxAt w ks vs b → ∀ k ∈ b, k < w.heap.size
  | .nil, k, hk => by simp at hk
  | .cons k ks vs vss b bs h1 h2, j, hj => (List.mem_append.1 hj).elim (NxAt.lt h1 j) (RxAt.lt h2 j)
end
/-- what a node is in memory -/
theorem NxAt.shape {w : World} {k : Nx} {us : List Value} {b : List Nat} (h : NxAt w k us b) : ∃ (S N T : ByteArray) (a1 : Option Addr) (n1 c1 : Nat) (a2 : Option Addr) (n2 c2 : Nat), us = [.string S, .string N, .string T, .slice a1 n1 c1, .slice a2 n2 c2] := by
  cases h with
  | el sp nm l ks va vk ba bk h1 h2 =>
    obtain ⟨a1, c1, rfl⟩ := h1.slice
    obtain ⟨a2, c2, rfl⟩ := h2.slice
    exact ⟨_, _, _, _, _, _, _, _, _, rfl⟩
  | tx t => exact ⟨_, _, _, _, _, _, _, _, _, rfl⟩
theorem RxAt.at {w : World} {ks : List Nx} {vs : List Value} {b : List Nat} (h : RxAt w ks vs b) {i : Nat} (hi : i < ks.length) : ∃ us bi, NxAt w ks[i] us bi ∧ (∀ k ∈ bi, k ∈ b) ∧ ∀ j, j < 5 → vs[i * 5 + j]? = us[j]? := by
  induction ks generalizing vs b i with
  | nil => simp at hi
  | cons x ks ih =>
    cases h with
    | cons _ _ vs1 vs2 b1 b2 h1 h2 =>
      have h5 := h1.five
      cases i with
      | zero => exact ⟨vs1, b1, h1, fun k hk => List.mem_append_left _ hk, fun j hj => by rw [Nat.zero_mul, Nat.zero_add, List.getElem?_append_left (by omega)]⟩
      | succ i =>
        obtain ⟨us, bi, h3, h4, h6⟩ := ih h2 (i := i) (by simpa using hi)
        refine ⟨us, bi, h3, fun k hk => List.mem_append_right _ (h4 k hk), fun j hj => ?_⟩
        rw [List.getElem?_append_right (by rw [h5]; omega), h5, ← h6 j hj]
        congr 1; omega
/-- the cells of a row of nodes -/
theorem kids_cells {w : World} {g cap n : Nat} {vs : List Value} {B : Nat} (h : w.ownsRow B 70 5 (.slice (some ⟨g, 0, none⟩) n cap) n vs) {i : Nat} (hi : i < n) {S N T : ByteArray} {a1 : Option Addr} {n1 c1 : Nat} {a2 : Option Addr} {n2 c2 : Nat}
    (hu : ∀ j, j < 5 → vs[i * 5 + j]? = [Value.string S, .string N, .string T, .slice a1 n1 c1, .slice a2 n2 c2][j]?) :
    w.cell? ⟨g, i * 5, none⟩ = some (.string S) ∧ w.cell? ⟨g, i * 5 + 1, none⟩ = some (.string N) ∧ w.cell? ⟨g, i * 5 + 2, none⟩ = some (.string T) ∧ w.cell? ⟨g, i * 5 + 3, none⟩ = some (.slice a1 n1 c1) ∧ w.cell? ⟨g, i * 5 + 4, none⟩ = some (.slice a2 n2 c2) := by
  rcases h.2 with ⟨e, _⟩ | ⟨g', cap', cur, e, _, hh, hnc, _, _, htk⟩
  · cases e
  · cases e
    have hc : ∀ j u, j < 5 → [Value.string S, .string N, .string T, .slice a1 n1 c1, .slice a2 n2 c2][j]? = some u → w.cell? ⟨g, i * 5 + j, none⟩ = some u := fun j u hj hu2 => by
      rw [cell_of_row w g _ cur 70 (0, 0) hh, ← Array.getElem?_toList]
      have h1 := hu j hj
      rw [hu2, ← htk, List.getElem?_take, if_pos (by omega)] at h1
      exact h1
    exact ⟨hc 0 _ (by omega) rfl, hc 1 _ (by omega) rfl, hc 2 _ (by omega) rfl, hc 3 _ (by omega) rfl, hc 4 _ (by omega) rfl⟩
/-- a row of kids, opened -/
theorem KxAt.open {w : World} {ks : List Nx} {a : Option Addr} {n c : Nat} {b : List Nat} (h : KxAt w ks (.slice a n c) b) : n = ks.length ∧ (0 < ks.length → ∃ g vs b', a = some ⟨g, 0, none⟩ ∧ b = g :: b' ∧ w.ownsRow 0 70 5 (.slice (some ⟨g, 0, none⟩) n c) n vs ∧ RxAt w ks vs b') := by
  generalize hv : Value.slice a n c = v at h
  cases h with
  | nil => cases hv; exact ⟨rfl, fun h => by simp at h⟩
  | row _ g cap vs b' h1 h2 => cases hv; exact ⟨rfl, fun _ => ⟨g, vs, b', rfl, rfl, h1, h2⟩⟩
end Go.Proofs.YtkpikpaepgknnaaGreatDoor

/- Walks and laws, joined: part E. No condition. -/
import Derived.Test.YtgomlebemefdcaaDoorXsJD
import Derived.RegionTactic
import Derived.BigRegion
import Derived.Deep.DeepCutAuto
import Derived.Test.YtgomlebemefdcaaDoorXsJA
import Derived.Lib.ConvBytes
import Derived.Laws.AppendOwn
import Derived.Laws.OwnMore
import Derived.Lib.LaidU8T
set_option linter.unusedSimpArgs false
set_option linter.unusedVariables false
/- The reader reads an element. No condition. -/
namespace Go.Proofs.YtgomlebemefdcaaDoor
open Go Go.RowKit Go.Wk Go.Xt Go.Xe
theorem RS.same {w : World} {L R c p many : Nat} {A : Option Addr} {bs : List UInt8} (h : RS w L R A c bs p many) : RS (w.setCell ⟨R, 2, none⟩ (.slice none 0 0)) L R A c bs p many := by
  have hc := h.cur
  have hne : ∀ o, (⟨R, 2, none⟩ : Addr) ≠ ⟨L, o, none⟩ := fun o e => h.ne (by cases e; rfl)
  refine ⟨⟨hc.ne, Save.refl _ _, ?_, ?_, ?_, ⟨hc.byt.1, fun h0 => ?_⟩, hc.le, hc.small⟩, h.rdr.set_ 2 _, h.ne, h.neA, h.cap⟩
  · rw [World.cell?_setCell_other _ _ _ _ (hne 0)]; exact hc.cb
  · rw [World.cell?_setCell_other _ _ _ _ (hne 1)]; exact hc.ca
  · rw [World.frozen?_setCell]; exact hc.fr
  · obtain ⟨b, o, rfl, hcell⟩ := hc.byt.2 h0
    have hb : b ≠ R := h.neA h0 _ rfl
    refine ⟨b, o, rfl, fun i hi => ?_⟩
    rw [World.cell?_setCell_other _ _ _ _ (fun e => hb (congrArg Addr.block e).symm)]
    exact hcell i hi
theorem Fr.bump2 {L R : Nat} (w : World) (u : Value) : Fr L R w (w.setCell ⟨R, 2, none⟩ u) := (Fr.refl L R w).store 2 u
set_option maxHeartbeats 4000000 in
set_option maxRecDepth 100000 in
theorem xml_elem_shut {w : World} {L R c p m d : Nat} {A : Option Addr} {bs r r' nm : List UInt8} {l : List (List UInt8 × List UInt8)} (hd : d ≤ 900) (h : RS w L R A c bs p m) (hr : Rest bs p r) (hm : m < 4000) (hM : Xe.Mark r nm l true r') :
    Calls Tryd.prog 40 #[.pointer (some ⟨R, 0, none⟩), .int .i64 ((d : Int) + 1)] w (ElemR w L R A c bs (.el nm l []) (m + 1) r') := by
  have hb0 : Below w.heap.size w (w.alloc (.cells z5 27)) := (Below.refl _ _).alloc (Nat.le_refl _) _
  have h0 := h.below hb0
  have hnew := Blk.new w 27 z5
  have hRlt := h.rdr.lt
  have hLlt := h.cur.L_lt
  have hAlt := Lib.hid h.A_lt
  obtain ⟨N, hN⟩ : ∃ N : ByteArray, (⟨nm.toArray⟩ : ByteArray) = N := ⟨_, rfl⟩
  have hdi : (((d + 1 : Nat) : Int)) = (d : Int) + 1 := by omega
  have cm := xml_mark (d + 1) (by omega) (by omega) hm h0 hr hM
  rw [hN, hdi] at cm
  have c02 := h0.rdr.cell 2
  replace hN := Lib.hid hN
  replace h0 := Lib.hid h0
  replace hb0 := Lib.hid hb0
  replace hnew := Lib.hid hnew
  clear h hr hM hdi
  go_enter Tryd.func40, Tryd.ntmps40
  go_wp2_with (go_at_call 51; (with_reducible refine cm.mono ?_); rintro e w1 ⟨a1, n1, c1, ba, rfl, hA, hba, ⟨⟨q1, h1, hq1⟩, f1⟩⟩; have hz4 : Blk w1 w.heap.size 27 z5 := (f1.block w.heap.size (by simp) (by omega) (by omega)).trans hnew.out; have hbn : Below w1.heap.size w1 (w1.alloc (.cells #[.string ⟨#[]⟩, .string N, .string ⟨#[]⟩, .slice a1 n1 c1, .slice none 0 0] 27)) := (Below.refl _ _).alloc (Nat.le_refl _) _; have h11 := h1.below hbn; have c21 := h1.rdr.cell 2; have f21 := h1.rdr.frozen 2; have hR1 : R < w1.heap.size := h1.rdr.lt; have hg4 : w.heap.size < w1.heap.size := hz4.lt; have a0 := hz4.cell 0; have a1' := hz4.cell 1; have a2 := hz4.cell 2; have a3 := hz4.cell 3; have a4 := hz4.cell 4; have y0 := hz4.frozen 0; have y1 := hz4.frozen 1; have y2 := hz4.frozen 2; have y3 := hz4.frozen 3; have y4 := hz4.frozen 4; replace h11 := Lib.hid h11; replace hbn := Lib.hid hbn; replace h1 := Lib.hid h1; replace hz4 := Lib.hid hz4; replace hA := Lib.hid hA; replace hba := Lib.hid hba; replace hq1 := Lib.hid hq1; replace f1 := Lib.hid f1)
  obtain ⟨g4, hg⟩ : ∃ g, g = w.heap.size := ⟨_, rfl⟩
  have hzR : Blk (w1.setCell ⟨R, 2, none⟩ (.slice none 0 0)) w.heap.size 27 z5 := hz4.out.far (by show w.heap.size ≠ R; omega) _
  have hV := put5_blk hzR (.string ⟨#[]⟩) (.string N) (.string ⟨#[]⟩) (.slice a1 n1 c1) (.slice none 0 0)
  have hS := put5_save (w1.setCell ⟨R, 2, none⟩ (.slice none 0 0)) w.heap.size (.string ⟨#[]⟩) (.string N) (.string ⟨#[]⟩) (.slice a1 n1 c1) (.slice none 0 0)
  have hR2 := h1.out.same
  have hSR : Save R w1 (w1.setCell ⟨R, 2, none⟩ (.slice none 0 0)) := (Save.refl R w1).store 2 _
  unfold put5 at hV hS
  obtain ⟨U, hU⟩ : ∃ U, U = (((((w1.setCell ⟨R, 2, none⟩ (.slice none 0 0)).setCell ⟨w.heap.size, 0, none⟩ (.string ⟨#[]⟩)).setCell ⟨w.heap.size, 1, none⟩ (.string N)).setCell ⟨w.heap.size, 2, none⟩ (.string ⟨#[]⟩)).setCell ⟨w.heap.size, 3, none⟩ (.slice a1 n1 c1)).setCell ⟨w.heap.size, 4, none⟩ (.slice none 0 0) := ⟨_, rfl⟩
  rw [← hU] at hV hS ⊢
  have hbU : Below U.heap.size U (U.alloc (.cells #[.string ⟨#[]⟩, .string N, .string ⟨#[]⟩, .slice a1 n1 c1, .slice none 0 0] 27)) := (Below.refl _ _).alloc (Nat.le_refl _) _
  have hV2 := hV.alloc (.cells #[.string ⟨#[]⟩, .string N, .string ⟨#[]⟩, .slice a1 n1 c1, .slice none 0 0] 27)
  generalize (U.alloc (.cells #[.string ⟨#[]⟩, .string N, .string ⟨#[]⟩, .slice a1 n1 c1, .slice none 0 0] 27)) = V at *
  have r0 := hV2.cell 0
  have r1 := hV2.cell 1
  have r2 := hV2.cell 2
  have r3 := hV2.cell 3
  have r4 := hV2.cell 4
  have hSV : Save w.heap.size (w1.setCell ⟨R, 2, none⟩ (.slice none 0 0)) V := hS.trans (Save.of_below hbU)
  have hsz2 : (w1.setCell ⟨R, 2, none⟩ (.slice none 0 0)).heap.size = w1.heap.size := by simp [World.setCell]
  have hkeep : ∀ k, k < w1.heap.size → k ≠ R → k ≠ w.heap.size → V.heap[k]? = w1.heap[k]? := fun k h1 h2 h3 => (hSV.block k (by rw [hsz2]; exact h1) h3).trans (hSR.block k h1 h2)
  have hN2 : str nm = .string N := by rw [← hN.out]; rfl
  have hsw : (w.alloc (.cells z5 27)).heap.size = w.heap.size + 1 := World.size_alloc _ _
  refine bodyPost_ret (v := .tuple #[.agg #[.string ⟨#[]⟩, .string N, .string ⟨#[]⟩, .slice a1 n1 c1, .slice none 0 0], .int .i64 0]) (by simp [results, Tryd.results40, go_sem, r0, r1, r2, r3, r4]) rfl ⟨N, a1, n1, c1, none, 0, 0, ba ++ [], rfl, ?_, ?_, ⟨q1, ?_, hq1.out⟩, ?_⟩
  · rw [← hN2]
    exact .el nm l [] _ _ ba [] (hA.out.keep fun k hk => hkeep k (hba.out k hk).2 (by have := (hba.out k hk).1; omega) (by have := (hba.out k hk).1; omega)) .nil
  · intro k hk
    rw [List.append_nil] at hk
    have := hba.out k hk
    have := hSV.size
    omega
  · exact hR2.belowB (hSV.below (Nat.le_refl _) (by omega)) hLlt hRlt hAlt.out
  · exact ((Fr.of_below hb0.out).trans (f1.out.trans (Fr.bump2 w1 (.slice none 0 0)))).tail (hSV.below (Nat.le_refl _) (by omega))
set_option maxHeartbeats 8000000 in
set_option maxRecDepth 100000 in
theorem xml_elem_open {w : World} {L R c p m m2 d : Nat} {A : Option Addr} {bs r r1 r2 r3 r' nm : List UInt8} {l : List (List UInt8 × List UInt8)} {ks : List Nd} (hd : d ≤ 900) (hE : ElemC L R A c bs d) (h : RS w L R A c bs p m) (hr : Rest bs p r) (hm : m < 4000) (hM : Xe.Mark r nm l false r1)
    (hK : Cont (d + 1) (m + 1) [] r1 ks m2 r2) (hn : nameS r2 = nm) (hne : nm ≠ []) (hdr : r2.drop nm.length = r3) (hno : ¬ [58] <+: r3) (hend : r3.drop (ws r3) = 62 :: r') :
    Calls Tryd.prog 40 #[.pointer (some ⟨R, 0, none⟩), .int .i64 ((d : Int) + 1)] w (ElemR w L R A c bs (.el nm l ks) m2 r') := by
  have hb0 : Below w.heap.size w (w.alloc (.cells z5 27)) := (Below.refl _ _).alloc (Nat.le_refl _) _
  have h0 := h.below hb0
  have hnew := Blk.new w 27 z5
  have hRlt := h.rdr.lt
  have hLlt := h.cur.L_lt
  have hAlt := Lib.hid h.A_lt
  obtain ⟨N, hN⟩ : ∃ N : ByteArray, (⟨nm.toArray⟩ : ByteArray) = N := ⟨_, rfl⟩
  have hN2 : str nm = .string N := by rw [← hN]; rfl
  have hdi : (((d + 1 : Nat) : Int)) = (d : Int) + 1 := by omega
  have cm := xml_mark (d + 1) (by omega) (by omega) hm h0 hr hM
  rw [hN, hdi] at cm
  have c02 := h0.rdr.cell 2
  have cc : ∀ W q, RS W L R A c bs q (m + 1) → Rest bs q r1 → Calls Tryd.prog 52 #[.pointer (some ⟨R, 0, none⟩), .int .i64 ((d : Int) + 1)] W (ContR W L R A c bs ks m2 r2) := fun W q hW hq => xml_content (by omega) hE hW hq hK
  have cf : ∀ W q, RS W L R A c bs q m2 → Rest bs q r2 → Calls Tryd.prog 53 #[.pointer (some ⟨R, 0, none⟩)] W fun e w' => e = .returned (.tuple #[.string ⟨#[]⟩, .string N, .int .i64 0]) ∧ End W L R A c bs m2 r3 w' := fun W q hW hq => by
    have := xml_full hW hq hn hne (by rw [hdr]; exact hno)
    rw [hdr, hN2] at this
    exact this
  have cb : ∀ W q, RS W L R A c bs q m2 → Rest bs q r3 → Calls Tryd.prog 49 #[.pointer (some ⟨R, 0, none⟩)] W fun e w' => e = .returned (.int .i64 (ws r3 : Nat)) ∧ RS w' L R A c bs (q + ws r3) m2 ∧ Fr L R W w' := fun W q hW hq => xml_blank hW hq.eq
  have cg : ∀ W q, RS W L R A c bs q m2 → Rest bs q (62 :: r') → Calls Tryd.prog 54 #[.pointer (some ⟨L, 0, none⟩), .string ⟨#[62]⟩] W fun e w' => e = .returned (.bool true) ∧ RS w' L R A c bs (q + 1) m2 ∧ Fr L R W w' := fun W q hW hq => rs_yes hW ⟨#[62]⟩ r' (by decide) (by decide) hq.eq
  have hws : ∀ q, Rest bs q r3 → Rest bs (q + ws r3) (62 :: r') := fun q h => by rw [← hend]; exact h.ws_
  replace hN := Lib.hid hN
  replace hN2 := Lib.hid hN2
  replace h0 := Lib.hid h0
  replace hb0 := Lib.hid hb0
  replace hnew := Lib.hid hnew
  replace cc := Lib.hid cc
  replace cf := Lib.hid cf
  replace cb := Lib.hid cb
  replace cg := Lib.hid cg
  replace hws := Lib.hid hws
  clear h hr hM hdi hK hn hne hdr hno hend hE
  generalize ws r3 = nw at *
  go_enter Tryd.func40, Tryd.ntmps40
  go_wp2_with (first
    | (go_at_call 51; (with_reducible refine cm.mono ?_); rintro e w1 ⟨a1, n1, c1, ba, rfl, hA, hba, ⟨⟨q1, h1, hq1⟩, f1⟩⟩; have hz4 : Blk w1 w.heap.size 27 z5 := (f1.block w.heap.size (by simp) (by omega) (by omega)).trans hnew.out; have hbn : Below w1.heap.size w1 (w1.alloc (.cells #[.string ⟨#[]⟩, .string N, .string ⟨#[]⟩, .slice a1 n1 c1, .slice none 0 0] 27)) := (Below.refl _ _).alloc (Nat.le_refl _) _; have hzb := Blk.new w1 27 #[.string ⟨#[]⟩, .string N, .string ⟨#[]⟩, .slice a1 n1 c1, .slice none 0 0]; have hsb : (w1.alloc (.cells #[.string ⟨#[]⟩, .string N, .string ⟨#[]⟩, .slice a1 n1 c1, .slice none 0 0] 27)).heap.size = w1.heap.size + 1 := World.size_alloc _ _; have h11 := h1.below hbn; have hz44 := hz4.alloc (.cells #[.string ⟨#[]⟩, .string N, .string ⟨#[]⟩, .slice a1 n1 c1, .slice none 0 0] 27); have kc := cc.out _ q1 h11 hq1; have hR1 : R < w1.heap.size := h1.rdr.lt; have hL1 : L < w1.heap.size := h1.cur.L_lt; have hg4 : w.heap.size < w1.heap.size := hz4.lt; replace h11 := Lib.hid h11; replace hbn := Lib.hid hbn; replace h1 := Lib.hid h1; replace hz4 := Lib.hid hz4; replace hz44 := Lib.hid hz44; replace hzb := Lib.hid hzb; replace hsb := Lib.hid hsb; replace hA := Lib.hid hA; replace hba := Lib.hid hba; replace hq1 := Lib.hid hq1; replace f1 := Lib.hid f1)
    | (go_at_call 52; (with_reducible refine kc.mono ?_); rintro e w2 ⟨a5, n5, cp5, bk, rfl, hks, hbk, ⟨⟨q2, h2, hq2⟩, f2⟩⟩; have hzb2 : Blk w2 w1.heap.size 27 #[.string ⟨#[]⟩, .string N, .string ⟨#[]⟩, .slice a1 n1 c1, .slice none 0 0] := (f2.block w1.heap.size (by rw [hsb.out]; omega) (by omega) (by omega)).trans hzb.out; have hz42 : Blk w2 w.heap.size 27 z5 := (f2.block w.heap.size (by rw [hsb.out]; omega) (by omega) (by omega)).trans hz44.out; have b4 := hzb2.cell 4; have b4f := hzb2.frozen 4; have hB2 : Below w.heap.size w2 (w2.setCell ⟨w1.heap.size, 4, none⟩ (.slice a5 n5 cp5)) := (Below.refl w.heap.size w2).setCell (p := ⟨w1.heap.size, 4, none⟩) (Nat.le_of_lt hg4) _; have h22 := h2.belowB hB2 hLlt hRlt hAlt.out; have kf := cf.out _ q2 h22 hq2; have hzb3 := hzb2.set_ 4 (.slice a5 n5 cp5); have hz43 : Blk (w2.setCell ⟨w1.heap.size, 4, none⟩ (.slice a5 n5 cp5)) w.heap.size 27 z5 := hz42.far (by show w.heap.size ≠ w1.heap.size; omega) _; have hlt2 : w1.heap.size < (w2.setCell ⟨w1.heap.size, 4, none⟩ (.slice a5 n5 cp5)).heap.size := hzb3.lt; replace h2 := Lib.hid h2; replace h22 := Lib.hid h22; replace hq2 := Lib.hid hq2; replace f2 := Lib.hid f2; replace hks := Lib.hid hks; replace hbk := Lib.hid hbk; replace hzb2 := Lib.hid hzb2; replace hz42 := Lib.hid hz42; replace hzb3 := Lib.hid hzb3; replace hz43 := Lib.hid hz43; replace hB2 := Lib.hid hB2; replace hlt2 := Lib.hid hlt2)
    | (go_at_call 53; (with_reducible refine kf.mono ?_); rintro e w3 ⟨rfl, ⟨⟨q3, h3, hq3⟩, f3⟩⟩; have kb := cb.out w3 q3 h3 hq3; have hq4 := hws.out q3 hq3; replace h3 := Lib.hid h3; replace hq3 := Lib.hid hq3; replace f3 := Lib.hid f3; replace hq4 := Lib.hid hq4)
    | (go_at_call 49; (with_reducible refine kb.mono ?_); rintro e w4 ⟨rfl, h4, f4⟩; have kg := cg.out w4 _ h4 hq4.out; have c40 := h4.rdr.cell 0; replace h4 := Lib.hid h4; replace f4 := Lib.hid f4)
    | (go_at_call 54; (with_reducible refine kg.mono ?_); rintro e w5 ⟨rfl, h5, f5⟩; have F5 := f3.out.trans (f4.out.trans f5); have hz45 : Blk w5 w.heap.size 27 z5 := (F5.block w.heap.size (by have := hlt2.out; omega) (by omega) (by omega)).trans hz43.out; have hzb5 : Blk w5 w1.heap.size 27 #[.string ⟨#[]⟩, .string N, .string ⟨#[]⟩, .slice a1 n1 c1, .slice a5 n5 cp5] := (F5.block w1.heap.size hlt2.out (by omega) (by omega)).trans hzb3.out; have c52 := h5.rdr.cell 2; have c52f := h5.rdr.frozen 2; have e0 := hzb5.cell 0; have e1 := hzb5.cell 1; have e2 := hzb5.cell 2; have e3 := hzb5.cell 3; have e4 := hzb5.cell 4; have a0 := hz45.cell 0; have a1' := hz45.cell 1; have a2 := hz45.cell 2; have a3 := hz45.cell 3; have a4 := hz45.cell 4; have y0 := hz45.frozen 0; have y1 := hz45.frozen 1; have y2 := hz45.frozen 2; have y3 := hz45.frozen 3; have y4 := hz45.frozen 4; replace F5 := Lib.hid F5; replace h5 := Lib.hid h5; replace hz45 := Lib.hid hz45; replace hzb5 := Lib.hid hzb5; replace f5 := Lib.hid f5))
  have hzR : Blk (w5.setCell ⟨R, 2, none⟩ (.slice none 0 0)) w.heap.size 27 z5 := hz45.out.far (by show w.heap.size ≠ R; omega) _
  have hV := put5_blk hzR (.string ⟨#[]⟩) (.string N) (.string ⟨#[]⟩) (.slice a1 n1 c1) (.slice a5 n5 cp5)
  have hSV := put5_save (w5.setCell ⟨R, 2, none⟩ (.slice none 0 0)) w.heap.size (.string ⟨#[]⟩) (.string N) (.string ⟨#[]⟩) (.slice a1 n1 c1) (.slice a5 n5 cp5)
  have hR2 := h5.out.same
  have hSR : Save R w5 (w5.setCell ⟨R, 2, none⟩ (.slice none 0 0)) := (Save.refl R w5).store 2 _
  unfold put5 at hV hSV
  obtain ⟨V, hU⟩ : ∃ U, U = (((((w5.setCell ⟨R, 2, none⟩ (.slice none 0 0)).setCell ⟨w.heap.size, 0, none⟩ (.string ⟨#[]⟩)).setCell ⟨w.heap.size, 1, none⟩ (.string N)).setCell ⟨w.heap.size, 2, none⟩ (.string ⟨#[]⟩)).setCell ⟨w.heap.size, 3, none⟩ (.slice a1 n1 c1)).setCell ⟨w.heap.size, 4, none⟩ (.slice a5 n5 cp5) := ⟨_, rfl⟩
  rw [← hU] at hV hSV ⊢
  have r0 := hV.cell 0
  have r1 := hV.cell 1
  have r2 := hV.cell 2
  have r3 := hV.cell 3
  have r4 := hV.cell 4
  have hsz5 : (w5.setCell ⟨R, 2, none⟩ (.slice none 0 0)).heap.size = w5.heap.size := by simp [World.setCell]
  have k5 : ∀ k, k < w5.heap.size → k ≠ R → k ≠ w.heap.size → V.heap[k]? = w5.heap[k]? := fun k h1 h2 h3 => (hSV.block k (by rw [hsz5]; exact h1) h3).trans (hSR.block k h1 h2)
  have hsz2 : (w2.setCell ⟨w1.heap.size, 4, none⟩ (.slice a5 n5 cp5)).heap.size = w2.heap.size := by simp [World.setCell]
  have z25 := F5.out.size
  rw [hsz2] at z25
  have k2 : ∀ k, k < w2.heap.size → k ≠ L → k ≠ R → k ≠ w.heap.size → k ≠ w1.heap.size → V.heap[k]? = w2.heap[k]? := fun k h1 h2 h3 h4 h5 =>
    (k5 k (by omega) h3 h4).trans ((F5.out.block k (by rw [hsz2]; exact h1) h2 h3).trans (Below.heap_setCell _ _ _ _ h5))
  have z12 := f2.out.size
  rw [hsb.out] at z12
  have k1 : ∀ k, k < w1.heap.size → k ≠ L → k ≠ R → k ≠ w.heap.size → V.heap[k]? = w1.heap[k]? := fun k h1 h2 h3 h4 =>
    (k2 k (by omega) h2 h3 h4 (by omega)).trans ((f2.out.block k (by rw [hsb.out]; omega) h2 h3).trans (hbn.out.block k h1))
  have hsw : (w.alloc (.cells z5 27)).heap.size = w.heap.size + 1 := World.size_alloc _ _
  have z5V := hSV.size
  rw [hsz5] at z5V
  refine bodyPost_ret (v := .tuple #[.agg #[.string ⟨#[]⟩, .string N, .string ⟨#[]⟩, .slice a1 n1 c1, .slice a5 n5 cp5], .int .i64 0]) (by simp [results, Tryd.results40, go_sem, r0, r1, r2, r3, r4]) rfl ⟨N, a1, n1, c1, a5, n5, cp5, ba ++ bk, rfl, ?_, ?_, ⟨_, ?_, hq4.out.app (s := [62])⟩, ?_⟩
  · rw [← hN2.out]
    refine .el nm l ks _ _ ba bk (hA.out.keep fun k hk => ?_) (KsAt.keep hks.out fun k hk => ?_)
    · have := hba.out k hk
      exact k1 k this.2 (by omega) (by omega) (by omega)
    · have := hbk.out k hk
      rw [hsb.out] at this
      exact k2 k this.2 (by omega) (by omega) (by omega) (by omega)
  · intro k hk
    rcases List.mem_append.1 hk with hk | hk
    · have := hba.out k hk
      omega
    · have := hbk.out k hk
      rw [hsb.out] at this
      omega
  · exact hR2.belowB (hSV.below (Nat.le_refl _) (by rw [hsz5]; omega)) hLlt hRlt hAlt.out
  · exact (((((Fr.of_below hb0.out).trans f1.out).trans ((Fr.of_below hbn.out).trans f2.out)).tail hB2.out).trans (F5.out.trans (Fr.bump2 w5 (.slice none 0 0)))).tail (hSV.below (Nat.le_refl _) (by rw [hsz5]; omega))
theorem mark_ne {r r' nm : List UInt8} {l : List (List UInt8 × List UInt8)} {cl : Bool} : Xe.Mark r nm l cl r' → nm ≠ []
  | .open _ _ _ _ _ _ h _ _ _ => h
  | .shut _ _ _ _ _ _ h _ _ _ => h
theorem xml_element {L R c : Nat} {A : Option Addr} {bs : List UInt8} : ∀ d, d ≤ 900 → ElemC L R A c bs d := by
  intro d
  induction d with
  | zero =>
    intro _ w p m r n m2 r' _ _ hE
    cases hE
  | succ d ih =>
    intro hd w p m r n m2 r' hS hr hE
    have hdi : (((d + 1 : Nat) : Int)) = (d : Int) + 1 := by omega
    rw [hdi]
    match hE with
    | .shut _ _ _ nm l r1 hm hM => exact xml_elem_shut (by omega) hS hr hm hM
    | .open _ _ _ _ nm l r1 ks r2 r3 r4 hm hM hC hn hdr hno hend =>
      exact xml_elem_open (by omega) (ih (by omega)) hS hr hm hM hC hn (mark_ne hM) hdr hno hend
end Go.Proofs.YtgomlebemefdcaaDoor

/- The reader meets an element too deep. No condition. -/
namespace Go.Proofs.YtgomlebemefdcaaDoor
open Go Go.RowKit Go.Wk Go.Xt Go.Xe
def DeepE (w : World) (L R : Nat) (e : Ending) (w' : World) : Prop := e = .returned (.tuple #[.agg z5, .int .i64 6]) ∧ Fr L R w w'
set_option maxHeartbeats 4000000 in
set_option maxRecDepth 100000 in
theorem xml_mark_deep {w : World} {L R c p many : Nat} {A : Option Addr} {bs r nm : List UInt8} (hm : many < 4000) (h : RS w L R A c bs p many) (hr : Rest bs p (60 :: r)) (hn : nameS r = nm) (hne : nm ≠ []) (hno : ¬ [58] <+: r.drop nm.length) :
    Calls Tryd.prog 51 #[.pointer (some ⟨R, 0, none⟩), .int .i64 0] w fun e w' => e = .returned (.tuple #[.string ⟨#[]⟩, .string ⟨#[]⟩, .bool false, .agg z5, .int .i64 6]) ∧ Fr L R w w' := by
  have hb0 : Below w.heap.size w (w.alloc (.cells z5 27)) := (Below.refl _ _).alloc (Nat.le_refl _) _
  have h0 := h.below hb0
  have hnew := Blk.new w 27 z5
  have c0 := h0.rdr.cell 0
  have hRlt := h.rdr.lt
  have hLlt := h.cur.L_lt
  obtain ⟨N, hN⟩ : ∃ N : ByteArray, (⟨nm.toArray⟩ : ByteArray) = N := ⟨_, rfl⟩
  have hN2 : str nm = .string N := by rw [← hN]; rfl
  have m1 : Calls Tryd.prog 54 #[.pointer (some ⟨L, 0, none⟩), .string ⟨#[60]⟩] _ fun e w' => e = .returned (.bool true) ∧ RS w' L R A c bs (p + 1) many ∧ Fr L R _ w' := rs_yes h0 ⟨#[60]⟩ r (by decide) (by decide) hr.eq
  have hr1 : Rest bs (p + 1) r := hr.app (s := [60])
  have cf := fun w1 (h1 : RS w1 L R A c bs (p + 1) many) => xml_full h1 hr1 hn hne hno
  simp only [hN2] at cf
  replace cf := Lib.hid cf
  replace h0 := Lib.hid h0
  replace hnew := Lib.hid hnew
  replace hb0 := Lib.hid hb0
  clear hn hne hno h hr hr1 hN hN2
  go_enter Tryd.func51, Tryd.ntmps51
  go_wp2_with (first
    | (go_at_call 54; (with_reducible refine m1.mono ?_); rintro e w1 ⟨rfl, h1, f1⟩; have k2 := cf.out w1 h1; replace f1 := Lib.hid f1; replace h1 := Lib.hid h1; clear m1)
    | (go_at_call 53; (with_reducible refine k2.mono ?_); rintro e w2 ⟨rfl, ⟨⟨q, h2, hq⟩, f2⟩⟩; have F := f1.out.trans f2; have hz : Blk w2 w.heap.size 27 z5 := (F.block w.heap.size (by simp) (by omega) (by omega)).trans hnew.out; have c21 := h2.rdr.cell 1; have f21 := h2.rdr.frozen 1; have a0 := hz.cell 0; have a1 := hz.cell 1; have a2 := hz.cell 2; have a3 := hz.cell 3; have a4 := hz.cell 4; have y0 := hz.frozen 0; have y1 := hz.frozen 1; have y2 := hz.frozen 2; have y3 := hz.frozen 3; have y4 := hz.frozen 4; replace F := Lib.hid F; replace hz := Lib.hid hz; replace f2 := Lib.hid f2; replace h2 := Lib.hid h2; replace hq := Lib.hid hq))
  have hzR : Blk (w2.setCell ⟨R, 1, none⟩ (.int .i64 ((many : Int) + 1))) w.heap.size 27 z5 := hz.out.far (by show w.heap.size ≠ R; omega) _
  have hV := put5_blk hzR (.string ⟨#[]⟩) (.string ⟨#[]⟩) (.string ⟨#[]⟩) (.slice none 0 0) (.slice none 0 0)
  have hSV := put5_save (w2.setCell ⟨R, 1, none⟩ (.int .i64 ((many : Int) + 1))) w.heap.size (.string ⟨#[]⟩) (.string ⟨#[]⟩) (.string ⟨#[]⟩) (.slice none 0 0) (.slice none 0 0)
  unfold put5 at hV hSV
  obtain ⟨V, hU⟩ : ∃ U, U = (((((w2.setCell ⟨R, 1, none⟩ (.int .i64 ((many : Int) + 1))).setCell ⟨w.heap.size, 0, none⟩ (.string ⟨#[]⟩)).setCell ⟨w.heap.size, 1, none⟩ (.string ⟨#[]⟩)).setCell ⟨w.heap.size, 2, none⟩ (.string ⟨#[]⟩)).setCell ⟨w.heap.size, 3, none⟩ (.slice none 0 0)).setCell ⟨w.heap.size, 4, none⟩ (.slice none 0 0) := ⟨_, rfl⟩
  rw [← hU] at hV hSV ⊢
  have r0 := hV.cell 0
  have r1 := hV.cell 1
  have r2 := hV.cell 2
  have r3 := hV.cell 3
  have r4 := hV.cell 4
  have hsz2 : (w2.setCell ⟨R, 1, none⟩ (.int .i64 ((many : Int) + 1))).heap.size = w2.heap.size := by simp [World.setCell]
  refine bodyPost_ret (v := .tuple #[.string ⟨#[]⟩, .string ⟨#[]⟩, .bool false, .agg z5, .int .i64 6]) (by simp [results, Tryd.results51, go_sem, r0, r1, r2, r3, r4]) rfl ⟨rfl, ?_⟩
  have := F.out.size
  exact ((Fr.of_below hb0.out).trans (F.out.trans (Fr.bump w2 _))).tail (hSV.below (Nat.le_refl _) (by rw [hsz2]; simp at this; omega))
set_option maxHeartbeats 4000000 in
set_option maxRecDepth 100000 in
theorem xml_elem_here {w : World} {L R c p m : Nat} {A : Option Addr} {bs r nm : List UInt8} (hm : m < 4000) (h : RS w L R A c bs p m) (hr : Rest bs p (60 :: r)) (hn : nameS r = nm) (hne : nm ≠ []) (hno : ¬ [58] <+: r.drop nm.length) :
    Calls Tryd.prog 40 #[.pointer (some ⟨R, 0, none⟩), .int .i64 0] w (DeepE w L R) := by
  have hb0 : Below w.heap.size w (w.alloc (.cells z5 27)) := (Below.refl _ _).alloc (Nat.le_refl _) _
  have h0 := h.below hb0
  have hnew := Blk.new w 27 z5
  have c02 := h0.rdr.cell 2
  have hRlt := h.rdr.lt
  have hLlt := h.cur.L_lt
  have cm := xml_mark_deep hm h0 hr hn hne hno
  replace h0 := Lib.hid h0
  replace hnew := Lib.hid hnew
  replace hb0 := Lib.hid hb0
  clear hn hne hno h hr
  go_enter Tryd.func40, Tryd.ntmps40
  go_wp2_with (go_at_call 51; (with_reducible refine cm.mono ?_); rintro e w1 ⟨rfl, f1⟩; have hz : Blk w1 w.heap.size 27 z5 := (f1.block w.heap.size (by simp) (by omega) (by omega)).trans hnew.out; have hg4 : w.heap.size < w1.heap.size := hz.lt; have a0 := hz.cell 0; have a1 := hz.cell 1; have a2 := hz.cell 2; have a3 := hz.cell 3; have a4 := hz.cell 4; have y0 := hz.frozen 0; have y1 := hz.frozen 1; have y2 := hz.frozen 2; have y3 := hz.frozen 3; have y4 := hz.frozen 4; replace hz := Lib.hid hz; replace f1 := Lib.hid f1)
  have hzR := hz.out
  have hV := put5_blk hzR (.string ⟨#[]⟩) (.string ⟨#[]⟩) (.string ⟨#[]⟩) (.slice none 0 0) (.slice none 0 0)
  have hSV := put5_save (w1) w.heap.size (.string ⟨#[]⟩) (.string ⟨#[]⟩) (.string ⟨#[]⟩) (.slice none 0 0) (.slice none 0 0)
  unfold put5 at hV hSV
  obtain ⟨V, hU⟩ : ∃ U, U = (((((w1).setCell ⟨w.heap.size, 0, none⟩ (.string ⟨#[]⟩)).setCell ⟨w.heap.size, 1, none⟩ (.string ⟨#[]⟩)).setCell ⟨w.heap.size, 2, none⟩ (.string ⟨#[]⟩)).setCell ⟨w.heap.size, 3, none⟩ (.slice none 0 0)).setCell ⟨w.heap.size, 4, none⟩ (.slice none 0 0) := ⟨_, rfl⟩
  rw [← hU] at hV hSV ⊢
  have hbU : Below V.heap.size V (V.alloc (.cells z5 27)) := (Below.refl _ _).alloc (Nat.le_refl _) _
  have hV2 := hV.alloc (.cells z5 27)
  obtain ⟨X, hX⟩ : ∃ X, X = V.alloc (.cells z5 27) := ⟨_, rfl⟩
  have hX2 : V.alloc (.cells #[.string ⟨#[]⟩, .string ⟨#[]⟩, .string ⟨#[]⟩, .slice none 0 0, .slice none 0 0] 27) = X := hX.symm
  rw [← hX] at hbU hV2
  rw [hX2]
  have r0 := hV2.cell 0
  have r1 := hV2.cell 1
  have r2 := hV2.cell 2
  have r3 := hV2.cell 3
  have r4 := hV2.cell 4
  refine bodyPost_ret (v := .tuple #[.agg z5, .int .i64 6]) (by simp [results, Tryd.results40, go_sem, r0, r1, r2, r3, r4]) rfl ⟨rfl, ?_⟩
  exact ((Fr.of_below hb0.out).trans f1.out).tail ((hSV.trans (Save.of_below hbU)).below (Nat.le_refl _) (by omega))
def DeepC (L R : Nat) (A : Option Addr) (c : Nat) (bs : List UInt8) (d : Nat) : Prop :=
  ∀ w p m r, RS w L R A c bs p m → Rest bs p r → ElemD d m r → Calls Tryd.prog 40 #[.pointer (some ⟨R, 0, none⟩), .int .i64 (d : Int)] w (DeepE w L R)
set_option maxHeartbeats 4000000 in
set_option maxRecDepth 100000 in
theorem xml_cont_deep {w : World} {L R c p m d : Nat} {A : Option Addr} {bs r : List UInt8} (hd : d ≤ 1000) (hE : DeepC L R A c bs d) (h : RS w L R A c bs p m) (hr : Rest bs p r) (hT : Txt (-1) r [] r) (hM : Misc r false r) (hx3 : ¬ [60, 47] <+: r) (hEl : ElemD d m r) :
    Calls Tryd.prog 52 #[.pointer (some ⟨R, 0, none⟩), .int .i64 ((d : Int) + 1)] w fun e w' => e = .returned (.tuple #[.slice none 0 0, .int .i64 6]) ∧ Fr L R w w' := by
  have ct : Calls Tryd.prog 63 #[.pointer (some ⟨R, 0, none⟩), .int .i64 (-1)] w fun e w' => e = .returned (.tuple #[.string ⟨#[]⟩, .int .i64 0]) ∧ End w L R A c bs m r w' := xml_text (-1) (by omega) h hr hT
  have cm := fun w1 q1 (h1 : RS w1 L R A c bs q1 m) (hq1 : Rest bs q1 r) => xml_misc h1 hq1 hM
  have c54 : ∀ w2 q2, RS w2 L R A c bs q2 m → Rest bs q2 r → Calls Tryd.prog 54 #[.pointer (some ⟨L, 0, none⟩), .string ⟨#[60, 47]⟩] w2 fun e w' => e = .returned (.bool false) ∧ RS w' L R A c bs q2 m ∧ Fr L R w2 w' := fun w2 q2 h2 hq2 => rs_no h2 ⟨#[60, 47]⟩ (by decide) (by decide) (by rw [hq2.eq]; exact hx3)
  have cE := fun w3 q3 (h3 : RS w3 L R A c bs q3 m) (hq3 : Rest bs q3 r) => hE w3 q3 m r h3 hq3 hEl
  have hee : ((⟨#[]⟩ : ByteArray) ++ ⟨#[]⟩).toList.isEmpty = true := by rw [ByteArray.toList_eq]; rfl
  replace cm := Lib.hid cm
  replace c54 := Lib.hid c54
  replace cE := Lib.hid cE
  clear hE h hr hT hM hx3 hEl
  go_enter Tryd.func52, Tryd.ntmps52
  go_wp2
  refine wp_loop_rounds 1 ?_; rw [rounds_succ]
  go_wp2_with (first
    | (go_at_call 63; (with_reducible refine ct.mono ?_); rintro e w1 ⟨rfl, ⟨⟨q1, h1, hq1⟩, f1⟩⟩; have k2 := cm.out w1 q1 h1 hq1; replace f1 := Lib.hid f1; replace h1 := Lib.hid h1; replace hq1 := Lib.hid hq1)
    | (go_at_call 50; (with_reducible refine k2.mono ?_); rintro e w2 ⟨rfl, ⟨⟨q2, h2, hq2⟩, f2⟩⟩; have c2 := h2.rdr.cell 0; have k3 := c54.out w2 q2 h2 hq2; replace f2 := Lib.hid f2; replace h2 := Lib.hid h2; replace hq2 := Lib.hid hq2)
    | (go_at_call 54; (with_reducible refine k3.mono ?_); rintro e w3 ⟨rfl, h3, f3⟩; have k4 := cE.out w3 q2 h3 hq2.out; replace f3 := Lib.hid f3; replace h3 := Lib.hid h3)
    | (go_at_call 40; (with_reducible refine k4.mono ?_); rintro e w4 ⟨rfl, f4⟩; replace f4 := Lib.hid f4))
  go_ret2
  exact ⟨rfl, ((f1.out.trans f2.out).trans (f3.out.trans f4.out)).trans (Fr.of_below ((Below.refl _ _).alloc (Nat.le_refl _) _))⟩
set_option maxHeartbeats 4000000 in
set_option maxRecDepth 100000 in
theorem xml_elem_in {w : World} {L R c p m d : Nat} {A : Option Addr} {bs r r1 nm : List UInt8} {l : List (List UInt8 × List UInt8)} (hd : d ≤ 900) (h : RS w L R A c bs p m) (hr : Rest bs p r) (hm : m < 4000) (hM : Xe.Mark r nm l false r1)
    (cK : ∀ W q, RS W L R A c bs q (m + 1) → Rest bs q r1 → Calls Tryd.prog 52 #[.pointer (some ⟨R, 0, none⟩), .int .i64 ((d : Int) + 1)] W fun e w' => e = .returned (.tuple #[.slice none 0 0, .int .i64 6]) ∧ Fr L R W w') :
    Calls Tryd.prog 40 #[.pointer (some ⟨R, 0, none⟩), .int .i64 ((d : Int) + 1)] w (DeepE w L R) := by
  have hb0 : Below w.heap.size w (w.alloc (.cells z5 27)) := (Below.refl _ _).alloc (Nat.le_refl _) _
  have h0 := h.below hb0
  have hnew := Blk.new w 27 z5
  have hRlt := h.rdr.lt
  have hLlt := h.cur.L_lt
  obtain ⟨N, hN⟩ : ∃ N : ByteArray, (⟨nm.toArray⟩ : ByteArray) = N := ⟨_, rfl⟩
  have hdi : (((d + 1 : Nat) : Int)) = (d : Int) + 1 := by omega
  have cm := xml_mark (d + 1) (by omega) (by omega) hm h0 hr hM
  rw [hN, hdi] at cm
  have c02 := h0.rdr.cell 2
  replace hN := Lib.hid hN
  replace h0 := Lib.hid h0
  replace hb0 := Lib.hid hb0
  replace hnew := Lib.hid hnew
  replace cK := Lib.hid cK
  clear h hr hM hdi
  go_enter Tryd.func40, Tryd.ntmps40
  go_wp2_with (first
    | (go_at_call 51; (with_reducible refine cm.mono ?_); rintro e w1 ⟨a1, n1, c1, ba, rfl, hA, hba, ⟨⟨q1, h1, hq1⟩, f1⟩⟩; have hz4 : Blk w1 w.heap.size 27 z5 := (f1.block w.heap.size (by simp) (by omega) (by omega)).trans hnew.out; have hbn : Below w1.heap.size w1 (w1.alloc (.cells #[.string ⟨#[]⟩, .string N, .string ⟨#[]⟩, .slice a1 n1 c1, .slice none 0 0] 27)) := (Below.refl _ _).alloc (Nat.le_refl _) _; have hzb := Blk.new w1 27 #[.string ⟨#[]⟩, .string N, .string ⟨#[]⟩, .slice a1 n1 c1, .slice none 0 0]; have hsb : (w1.alloc (.cells #[.string ⟨#[]⟩, .string N, .string ⟨#[]⟩, .slice a1 n1 c1, .slice none 0 0] 27)).heap.size = w1.heap.size + 1 := World.size_alloc _ _; have h11 := h1.below hbn; have hz44 := hz4.alloc (.cells #[.string ⟨#[]⟩, .string N, .string ⟨#[]⟩, .slice a1 n1 c1, .slice none 0 0] 27); have kc := cK.out _ q1 h11 hq1; have hR1 : R < w1.heap.size := h1.rdr.lt; have hL1 : L < w1.heap.size := h1.cur.L_lt; have hg4 : w.heap.size < w1.heap.size := hz4.lt; replace h11 := Lib.hid h11; replace hbn := Lib.hid hbn; replace h1 := Lib.hid h1; replace hz4 := Lib.hid hz4; replace hz44 := Lib.hid hz44; replace hzb := Lib.hid hzb; replace hsb := Lib.hid hsb; replace hA := Lib.hid hA; replace hba := Lib.hid hba; replace hq1 := Lib.hid hq1; replace f1 := Lib.hid f1)
    | (go_at_call 52; (with_reducible refine kc.mono ?_); rintro e w2 ⟨rfl, f2⟩; have hzb2 : Blk w2 w1.heap.size 27 #[.string ⟨#[]⟩, .string N, .string ⟨#[]⟩, .slice a1 n1 c1, .slice none 0 0] := (f2.block w1.heap.size (by rw [hsb.out]; omega) (by omega) (by omega)).trans hzb.out; have hz42 : Blk w2 w.heap.size 27 z5 := (f2.block w.heap.size (by rw [hsb.out]; omega) (by omega) (by omega)).trans hz44.out; have b4 := hzb2.cell 4; have b4f := hzb2.frozen 4; have hB2 : Below w.heap.size w2 (w2.setCell ⟨w1.heap.size, 4, none⟩ (.slice none 0 0)) := (Below.refl w.heap.size w2).setCell (p := ⟨w1.heap.size, 4, none⟩) (Nat.le_of_lt hg4) _; have hz43 : Blk (w2.setCell ⟨w1.heap.size, 4, none⟩ (.slice none 0 0)) w.heap.size 27 z5 := hz42.far (by show w.heap.size ≠ w1.heap.size; omega) _; have a0 := hz43.cell 0; have a1' := hz43.cell 1; have a2 := hz43.cell 2; have a3 := hz43.cell 3; have a4 := hz43.cell 4; have y0 := hz43.frozen 0; have y1 := hz43.frozen 1; have y2 := hz43.frozen 2; have y3 := hz43.frozen 3; have y4 := hz43.frozen 4; replace f2 := Lib.hid f2; replace hzb2 := Lib.hid hzb2; replace hz42 := Lib.hid hz42; replace hz43 := Lib.hid hz43; replace hB2 := Lib.hid hB2))
  have hzR := hz43.out
  have hV := put5_blk hzR (.string ⟨#[]⟩) (.string ⟨#[]⟩) (.string ⟨#[]⟩) (.slice none 0 0) (.slice none 0 0)
  have hSV := put5_save (w2.setCell ⟨w1.heap.size, 4, none⟩ (.slice none 0 0)) w.heap.size (.string ⟨#[]⟩) (.string ⟨#[]⟩) (.string ⟨#[]⟩) (.slice none 0 0) (.slice none 0 0)
  unfold put5 at hV hSV
  obtain ⟨V, hU⟩ : ∃ U, U = (((((w2.setCell ⟨w1.heap.size, 4, none⟩ (.slice none 0 0)).setCell ⟨w.heap.size, 0, none⟩ (.string ⟨#[]⟩)).setCell ⟨w.heap.size, 1, none⟩ (.string ⟨#[]⟩)).setCell ⟨w.heap.size, 2, none⟩ (.string ⟨#[]⟩)).setCell ⟨w.heap.size, 3, none⟩ (.slice none 0 0)).setCell ⟨w.heap.size, 4, none⟩ (.slice none 0 0) := ⟨_, rfl⟩
  rw [← hU] at hV hSV ⊢
  have r0 := hV.cell 0
  have r1 := hV.cell 1
  have r2 := hV.cell 2
  have r3 := hV.cell 3
  have r4 := hV.cell 4
  have hsz2 : (w2.setCell ⟨w1.heap.size, 4, none⟩ (.slice none 0 0)).heap.size = w2.heap.size := by simp [World.setCell]
  have z12 := f2.out.size
  rw [hsb.out] at z12
  refine bodyPost_ret (v := .tuple #[.agg z5, .int .i64 6]) (by simp [results, Tryd.results40, go_sem, r0, r1, r2, r3, r4]) rfl ⟨rfl, ?_⟩
  exact ((((Fr.of_below hb0.out).trans f1.out).trans ((Fr.of_below hbn.out).trans f2.out)).tail hB2.out).tail (hSV.below (Nat.le_refl _) (by rw [hsz2]; omega))
theorem xml_deep {L R c : Nat} {A : Option Addr} {bs : List UInt8} : ∀ d, d ≤ 900 → DeepC L R A c bs d := by
  intro d
  induction d with
  | zero =>
    intro _ w p m r hS hr hE
    match hE with
    | .here _ r nm hn hne hno hm => exact xml_elem_here hm hS hr hn hne hno
  | succ d ih =>
    intro hd w p m r hS hr hE
    have hdi : (((d + 1 : Nat) : Int)) = (d : Int) + 1 := by omega
    rw [hdi]
    match hE with
    | .in_ _ _ _ nm l r1 hm hM hC =>
      refine xml_elem_in (by omega) hS hr hm hM fun W q hW hq => ?_
      match hC with
      | .elem _ _ _ hT hMi hx hEl => exact xml_cont_deep (by omega) (ih (by omega)) hW hq hT hMi hx hEl
end Go.Proofs.YtgomlebemefdcaaDoor

/- The reader reads all. No condition. -/
namespace Go.Proofs.YtgomlebemefdcaaDoor
open Go Go.RowKit Go.Wk Go.Xt Go.Xe
def NodeR (w : World) (L R : Nat) (n : Nd) (e : Ending) (w' : World) : Prop :=
  ∃ (N : ByteArray) (a1 : Option Addr) (n1 c1 : Nat) (a2 : Option Addr) (n2 c2 : Nat) (bl : List Nat), e = .returned (.tuple #[.agg #[.string ⟨#[]⟩, .string N, .string ⟨#[]⟩, .slice a1 n1 c1, .slice a2 n2 c2], .int .i64 0]) ∧
    NdAt w' n [.string ⟨#[]⟩, .string N, .string ⟨#[]⟩, .slice a1 n1 c1, .slice a2 n2 c2] bl ∧ (∀ k ∈ bl, w.heap.size ≤ k ∧ k < w'.heap.size) ∧ Fr L R w w'
set_option maxHeartbeats 8000000 in
set_option maxRecDepth 100000 in
theorem xml_all {w : World} {L R c p m2 : Nat} {A : Option Addr} {bs r r1 r2 : List UInt8} {n : Nd} (h : RS w L R A c bs p 0) (hr : Rest bs p r) (h1 : Around r r1) (h2 : Elem 32 0 r1 n m2 r2) (h3 : Around r2 []) :
    Calls Tryd.prog 28 #[.pointer (some ⟨R, 0, none⟩)] w (NodeR w L R n) := by
  have hb0 : Below w.heap.size w (w.alloc (.cells z5 27)) := (Below.refl _ _).alloc (Nat.le_refl _) _
  have h0 := h.below hb0
  have hnew := Blk.new w 27 z5
  have hRlt := h.rdr.lt
  have hLlt := h.cur.L_lt
  have hAlt := Lib.hid h.A_lt
  have ca := xml_around h0 hr h1
  have ce : ∀ W q, RS W L R A c bs q 0 → Rest bs q r1 → Calls Tryd.prog 40 #[.pointer (some ⟨R, 0, none⟩), .int .i64 32] W (ElemR W L R A c bs n m2 r2) := fun W q hW hq => xml_element 32 (by omega) W q 0 r1 n m2 r2 hW hq h2
  have cz := fun W q (hW : RS W L R A c bs q m2) (hq : Rest bs q r2) => xml_around hW hq h3
  have cl := fun W q (hW : RS W L R A c bs q m2) => rs_left hW
  have hl0 : ∀ q, Rest bs q [] → ((bs.length : Int) - (q : Int)) = 0 := fun q hq => by have := hq.len; simp at this; omega
  replace ce := Lib.hid ce
  replace cz := Lib.hid cz
  replace cl := Lib.hid cl
  replace hl0 := Lib.hid hl0
  replace h0 := Lib.hid h0
  replace hb0 := Lib.hid hb0
  replace hnew := Lib.hid hnew
  have cps := fun (w : World) => xml_passed (w := w) true
  simp only [if_true] at cps
  clear h hr h1 h2 h3
  go_enter Tryd.func28, Tryd.ntmps28
  go_wp2_with (first
    | (go_at_call 39; (with_reducible refine ca.mono ?_); rintro e w1 ⟨rfl, ⟨⟨q1, h1, hq1⟩, f1⟩⟩; have k2 := ce.out w1 q1 h1 hq1; replace f1 := Lib.hid f1; replace h1 := Lib.hid h1; replace hq1 := Lib.hid hq1)
    | (go_at_call 40; (with_reducible refine k2.mono ?_); rintro e w2 ⟨N, a1, n1, c1, a2, n2, c2, bl, rfl, hnd, hbl, ⟨⟨q2, h2, hq2⟩, f2⟩⟩; have hbn : Below w2.heap.size w2 (w2.alloc (.cells #[.string ⟨#[]⟩, .string N, .string ⟨#[]⟩, .slice a1 n1 c1, .slice a2 n2 c2] 27)) := (Below.refl _ _).alloc (Nat.le_refl _) _; have hzb := Blk.new w2 27 #[.string ⟨#[]⟩, .string N, .string ⟨#[]⟩, .slice a1 n1 c1, .slice a2 n2 c2]; have h22 := h2.below hbn; have k3 := cz.out _ q2 h22 hq2; replace f2 := Lib.hid f2; replace h2 := Lib.hid h2; replace hq2 := Lib.hid hq2; replace hnd := Lib.hid hnd; replace hbl := Lib.hid hbl; replace hbn := Lib.hid hbn; replace hzb := Lib.hid hzb; replace h22 := Lib.hid h22)
    | (go_at_call 39; (with_reducible refine k3.mono ?_); rintro e w3 ⟨rfl, ⟨⟨q3, h3, hq3⟩, f3⟩⟩; replace f3 := Lib.hid f3; replace h3 := Lib.hid h3; replace hq3 := Lib.hid hq3))
  have hz3 : Blk w3 w2.heap.size 27 #[.string ⟨#[]⟩, .string N, .string ⟨#[]⟩, .slice a1 n1 c1, .slice a2 n2 c2] := (f3.out.block w2.heap.size (by simp) (by have := h2.out.cur.L_lt; omega) (by have := h2.out.rdr.lt; omega)).trans hzb.out
  have F2 := f1.out.trans f2.out
  have hw2 : w.heap.size < w2.heap.size := by have := F2.size; simp at this; omega
  have F3 := (F2.trans (Fr.of_below hbn.out)).trans f3.out
  have hz4 : Blk w3 w.heap.size 27 z5 := (F3.block w.heap.size (by simp) (by omega) (by omega)).trans hnew.out
  have kl : ∀ W, Below w.heap.size w3 W → Calls Tryd.prog 37 #[.pointer (some ⟨L, 0, none⟩)] W fun e w' => e = .returned (.int .i64 0) ∧ W = w' := fun W hW => by
    have := rs_left (h3.out.belowB hW hLlt hRlt hAlt.out)
    rw [hl0.out q3 hq3.out] at this
    exact this
  have c30 := h3.out.rdr.cell 0
  obtain ⟨g2, hg2⟩ : ∃ g, g = w.heap.size := ⟨_, rfl⟩
  obtain ⟨g5, hg5⟩ : ∃ g, g = w2.heap.size := ⟨_, rfl⟩
  have hRg : R ≠ g2 := by omega
  have hgg : g2 ≠ g5 := by omega
  rw [← hg2] at hz4 kl ⊢
  rw [← hg5] at hz3 ⊢
  have a0 := hz4.cell 0
  have a1' := hz4.cell 1
  have a2' := hz4.cell 2
  have a3 := hz4.cell 3
  have a4 := hz4.cell 4
  have y0 := hz4.frozen 0
  have y1 := hz4.frozen 1
  have y2 := hz4.frozen 2
  have y3 := hz4.frozen 3
  have y4 := hz4.frozen 4
  have e0 := hz3.cell 0
  have e1 := hz3.cell 1
  have e2 := hz3.cell 2
  have e3 := hz3.cell 3
  have e4 := hz3.cell 4
  replace hz3 := Lib.hid hz3
  replace hz4 := Lib.hid hz4
  replace F2 := Lib.hid F2
  replace F3 := Lib.hid F3
  replace kl := Lib.hid kl
  replace hg2 := Lib.hid hg2
  replace hg5 := Lib.hid hg5
  go_region_with (first
    | (go_at_call 37; refine (kl.out _ (by first | exact Below.refl _ _ | (repeat (first | exact Below.refl _ _ | refine Below.drew ?_ | refine Below.setCell ?_ (Nat.le_refl _) _)))).mono ?_; rintro e w' ⟨rfl, rfl⟩)
    | (go_at_call 41; refine (cps _).mono ?_; rintro e w' ⟨rfl, rfl⟩))
  all_goals
    go_wp2
    have hV := (put5_blk hz4.out (.string ⟨#[]⟩) (.string N) (.string ⟨#[]⟩) (.slice a1 n1 c1) (.slice a2 n2 c2)).drew
    have hSV := (put5_save w3 g2 (.string ⟨#[]⟩) (.string N) (.string ⟨#[]⟩) (.slice a1 n1 c1) (.slice a2 n2 c2)).drawn 1
    unfold put5 at hV hSV
    obtain ⟨V, hU⟩ : ∃ U, U = ((((((w3.setCell ⟨g2, 0, none⟩ (.string ⟨#[]⟩)).setCell ⟨g2, 1, none⟩ (.string N)).setCell ⟨g2, 2, none⟩ (.string ⟨#[]⟩)).setCell ⟨g2, 3, none⟩ (.slice a1 n1 c1)).setCell ⟨g2, 4, none⟩ (.slice a2 n2 c2)).drew) := ⟨_, rfl⟩
    have hSV2 : Save g2 w3 V := by rw [hU]; exact hSV
    rw [← hU] at hV ⊢
    clear hSV
    have r0 := hV.cell 0
    have r1 := hV.cell 1
    have r2 := hV.cell 2
    have r3 := hV.cell 3
    have r4 := hV.cell 4
    have hs2 : (w2.alloc (.cells #[.string ⟨#[]⟩, .string N, .string ⟨#[]⟩, .slice a1 n1 c1, .slice a2 n2 c2] 27)).heap.size = w2.heap.size + 1 := World.size_alloc _ _
    have z23 := f3.out.size
    rw [hs2] at z23
    have z3V := hSV2.size
    have hg2' := hg2.out
    have zw1 := f1.out.size
    rw [World.size_alloc] at zw1
    refine bodyPost_ret (v := .tuple #[.agg #[.string ⟨#[]⟩, .string N, .string ⟨#[]⟩, .slice a1 n1 c1, .slice a2 n2 c2], .int .i64 0]) (by simp [results, Tryd.results28, go_sem, Act.put, r0, r1, r2, r3, r4]) rfl ⟨N, a1, n1, c1, a2, n2, c2, bl, rfl, ?_, ?_, ?_⟩
    · refine hnd.out.keep fun k hk => ?_
      have := hbl.out k hk
      exact (hSV2.block k (by omega) (by omega)).trans ((f3.out.block k (by rw [hs2]; omega) (by omega) (by omega)).trans (hbn.out.block k this.2))
    · intro k hk
      have := hbl.out k hk
      omega
    · exact ((Fr.of_below hb0.out).trans F3.out).tail (hSV2.below (by omega) (by omega))
end Go.Proofs.YtgomlebemefdcaaDoor

/- Parse: the root that bytes say. No condition. -/
namespace Go.Proofs.YtgomlebemefdcaaDoor
open Go Go.RowKit Go.Wk Go.Xt Go.Xe
set_option maxHeartbeats 4000000 in
set_option maxRecDepth 100000 in
theorem xml_all_deep {w : World} {L R c p : Nat} {A : Option Addr} {bs r r1 : List UInt8} (h : RS w L R A c bs p 0) (hr : Rest bs p r) (h1 : Around r r1) (h2 : ElemD 32 0 r1) :
    Calls Tryd.prog 28 #[.pointer (some ⟨R, 0, none⟩)] w (DeepE w L R) := by
  have hb0 : Below w.heap.size w (w.alloc (.cells z5 27)) := (Below.refl _ _).alloc (Nat.le_refl _) _
  have h0 := h.below hb0
  have hnew := Blk.new w 27 z5
  have hRlt := h.rdr.lt
  have hLlt := h.cur.L_lt
  have ca := xml_around h0 hr h1
  have ce : ∀ W q, RS W L R A c bs q 0 → Rest bs q r1 → Calls Tryd.prog 40 #[.pointer (some ⟨R, 0, none⟩), .int .i64 32] W (DeepE W L R) := fun W q hW hq => xml_deep 32 (by omega) W q 0 r1 hW hq h2
  replace ce := Lib.hid ce
  replace h0 := Lib.hid h0
  replace hb0 := Lib.hid hb0
  replace hnew := Lib.hid hnew
  clear h hr h1 h2
  go_enter Tryd.func28, Tryd.ntmps28
  go_wp2_with (first
    | (go_at_call 39; (with_reducible refine ca.mono ?_); rintro e w1 ⟨rfl, ⟨⟨q1, h1, hq1⟩, f1⟩⟩; have k2 := ce.out w1 q1 h1 hq1; replace f1 := Lib.hid f1; replace h1 := Lib.hid h1; replace hq1 := Lib.hid hq1)
    | (go_at_call 40; (with_reducible refine k2.mono ?_); rintro e w2 ⟨rfl, f2⟩; have F2 := f1.out.trans f2; have hz : Blk w2 w.heap.size 27 z5 := (F2.block w.heap.size (by simp) (by omega) (by omega)).trans hnew.out; have hg4 : w.heap.size < w2.heap.size := hz.lt; have a0 := hz.cell 0; have a1 := hz.cell 1; have a2 := hz.cell 2; have a3 := hz.cell 3; have a4 := hz.cell 4; have y0 := hz.frozen 0; have y1 := hz.frozen 1; have y2 := hz.frozen 2; have y3 := hz.frozen 3; have y4 := hz.frozen 4; replace hz := Lib.hid hz; replace F2 := Lib.hid F2; replace f2 := Lib.hid f2))
  have hzR := hz.out
  have hV := put5_blk hzR (.string ⟨#[]⟩) (.string ⟨#[]⟩) (.string ⟨#[]⟩) (.slice none 0 0) (.slice none 0 0)
  have hSV := put5_save (w2) w.heap.size (.string ⟨#[]⟩) (.string ⟨#[]⟩) (.string ⟨#[]⟩) (.slice none 0 0) (.slice none 0 0)
  unfold put5 at hV hSV
  obtain ⟨V, hU⟩ : ∃ U, U = (((((w2).setCell ⟨w.heap.size, 0, none⟩ (.string ⟨#[]⟩)).setCell ⟨w.heap.size, 1, none⟩ (.string ⟨#[]⟩)).setCell ⟨w.heap.size, 2, none⟩ (.string ⟨#[]⟩)).setCell ⟨w.heap.size, 3, none⟩ (.slice none 0 0)).setCell ⟨w.heap.size, 4, none⟩ (.slice none 0 0) := ⟨_, rfl⟩
  rw [← hU] at hV hSV ⊢
  have hbU : Below V.heap.size V (V.alloc (.cells z5 27)) := (Below.refl _ _).alloc (Nat.le_refl _) _
  have hV2 := hV.alloc (.cells z5 27)
  obtain ⟨X, hX⟩ : ∃ X, X = V.alloc (.cells z5 27) := ⟨_, rfl⟩
  have hX2 : V.alloc (.cells #[.string ⟨#[]⟩, .string ⟨#[]⟩, .string ⟨#[]⟩, .slice none 0 0, .slice none 0 0] 27) = X := hX.symm
  rw [← hX] at hbU hV2
  rw [hX2]
  have r0 := hV2.cell 0
  have r1 := hV2.cell 1
  have r2 := hV2.cell 2
  have r3 := hV2.cell 3
  have r4 := hV2.cell 4
  refine bodyPost_ret (v := .tuple #[.agg z5, .int .i64 6]) (by simp [results, Tryd.results28, go_sem, r0, r1, r2, r3, r4]) rfl ⟨rfl, ?_⟩
  exact ((Fr.of_below hb0.out).trans F2.out).tail ((hSV.trans (Save.of_below hbU)).below (Nat.le_refl _) (by omega))
set_option maxHeartbeats 1000000 in
set_option maxRecDepth 100000 in
theorem cur_seek0 {w : World} {L c p : Nat} {A : Option Addr} {bs : List UInt8} (h : Cur w w L A c bs p) :
    Calls Tryd.prog 25 #[.pointer (some ⟨L, 0, none⟩), .int .i64 0] w fun e w' => e = .returned (.bool true) ∧ Cur w w' L A c bs 0 := by
  have hg := h.go 0 (Nat.zero_le _)
  have cb := h.cb
  have ca := h.ca
  have fr := h.fr
  have hneg : ¬ (bs.length : Int) < 0 := by omega
  replace h := Lib.hid h
  replace hg := Lib.hid hg
  go_enter Tryd.func25, Tryd.ntmps25
  go_wp2
  go_ret
  exact ⟨rfl, hg.out⟩
set_option maxHeartbeats 1000000 in
theorem cur_len {w : World} {L c p : Nat} {A : Option Addr} {bs : List UInt8} (h : Cur w w L A c bs p) :
    Calls Tryd.prog 27 #[.pointer (some ⟨L, 0, none⟩)] w fun e w' => e = .returned (.int .i64 bs.length) ∧ w = w' := by
  have cb := h.cb
  replace h := Lib.hid h
  go_enter Tryd.func27, Tryd.ntmps27
  go_wp2
  go_ret
  exact ⟨rfl, rfl⟩
theorem cur_new (A : Option Addr) (n c : Nat) (w : World) (hc : n ≤ c) (hn : n ≤ 100000) :
    Calls Tryd.prog 24 #[.slice A n c] w fun e w' => e = .returned (.pointer (some ⟨w.heap.size, 0, none⟩)) ∧ w' = w.alloc (.cells #[.slice A n n, .int .i64 0] 82) := by
  go_enter Tryd.func24, Tryd.ntmps24
  cases A with
  | none =>
    go_wp2
    go_ret
    exact ⟨rfl, rfl⟩
  | some a =>
    go_wp2
    go_ret
    exact ⟨rfl, rfl⟩
theorem new_cur {w : World} {A : Option Addr} {bs : List UInt8} (h : Byt w A bs) (hs : bs.length ≤ 100000) : Cur (w.alloc (.cells #[.slice A bs.length bs.length, .int .i64 0] 82)) (w.alloc (.cells #[.slice A bs.length bs.length, .int .i64 0] 82)) w.heap.size A bs.length bs 0 := by
  have hB := Blk.new w 82 #[.slice A bs.length bs.length, .int .i64 0]
  refine ⟨fun h0 x hx => ?_, Save.refl _ _, hB.cell 0, hB.cell 1, hB.frozen 1, h.below ((Below.refl _ _).alloc (Nat.le_refl _) _), Nat.zero_le _, hs⟩
  obtain ⟨b, o, e, hc⟩ := h.2 h0
  have := cell_lt (hc 0 h0)
  rw [hx] at e
  cases e
  exact Nat.ne_of_lt this
set_option maxHeartbeats 1000000 in
theorem xml_New (A : Option Addr) (c : Nat) (bs : List UInt8) (w : World) (hb : Byt w A bs) (hc : bs.length ≤ c) (hs : bs.length ≤ 100000) :
    Calls Tryd.prog 16 #[.slice A bs.length c] w fun e w' => e = .returned (.pointer (some ⟨w.heap.size + 1, 0, none⟩)) ∧ RS w' w.heap.size (w.heap.size + 1) A bs.length bs 0 0 ∧ Below w.heap.size w w' := by
  have cn := cur_new A bs.length c w hc hs
  have hC := new_cur hb hs
  have hAl : 0 < bs.length → ∀ x, A = some x → x.block < w.heap.size := by
    rintro h0 x rfl
    obtain ⟨b, o, e, hcell⟩ := hb.2 h0
    cases e
    exact cell_lt (hcell 0 h0)
  obtain ⟨W, hW⟩ : ∃ W, W = w.alloc (.cells #[.slice A bs.length bs.length, .int .i64 0] 82) := ⟨_, rfl⟩
  have hWz : W.heap.size = w.heap.size + 1 := by rw [hW, World.size_alloc]
  have hBW : Below w.heap.size w W := by rw [hW]; exact (Below.refl _ _).alloc (Nat.le_refl _) _
  rw [← hW] at cn hC
  replace hW := Lib.hid hW
  have hR := Blk.new W 68 #[.pointer (some ⟨w.heap.size, 0, none⟩), .int .i64 0, .slice none 0 0]
  have hb2 : Below W.heap.size W (W.alloc (.cells #[.pointer (some ⟨w.heap.size, 0, none⟩), .int .i64 0, .slice none 0 0] 68)) := (Below.refl _ _).alloc (Nat.le_refl _) _
  have hRS : RS (W.alloc (.cells #[.pointer (some ⟨w.heap.size, 0, none⟩), .int .i64 0, .slice none 0 0] 68)) w.heap.size (w.heap.size + 1) A bs.length bs 0 0 := by
    have hL : w.heap.size < W.heap.size := by omega
    refine ⟨⟨hC.ne, Save.refl _ _, (hb2.cell (p := ⟨w.heap.size, 0, none⟩) hL).trans hC.cb, (hb2.cell (p := ⟨w.heap.size, 1, none⟩) hL).trans hC.ca, (hb2.frozen (p := ⟨w.heap.size, 1, none⟩) hL).trans hC.fr, hC.byt.below hb2, hC.le, hC.small⟩, ?_, by omega, fun h0 x hx => by have := hAl h0 x hx; omega, Nat.le_refl _⟩
    rw [← hWz]; exact hR
  have hfin : Below w.heap.size w (W.alloc (.cells #[.pointer (some ⟨w.heap.size, 0, none⟩), .int .i64 0, .slice none 0 0] 68)) := bthen hBW hb2
  replace hRS := Lib.hid hRS
  replace hfin := Lib.hid hfin
  replace hC := Lib.hid hC
  replace hR := Lib.hid hR
  replace hb2 := Lib.hid hb2
  replace hBW := Lib.hid hBW
  replace hAl := Lib.hid hAl
  clear hb hc hs
  go_enter Tryd.func16, Tryd.ntmps16
  go_wp2_with (go_at_call 24; (with_reducible refine cn.mono ?_); rintro e w1 ⟨rfl, rfl⟩)
  go_ret
  exact ⟨rfl, hRS.out, hfin.out⟩
end Go.Proofs.YtgomlebemefdcaaDoor

/- The root: a walk over any answer of the reader. No condition. -/
namespace Go.Proofs.YtgomlebemefdcaaDoor
open Go Go.RowKit Go.Wk Go.Xt Go.Xe
theorem RS.stored {w : World} {L R c p : Nat} {A : Option Addr} {bs : List UInt8} (h : RS w L R A c bs p 0) :
    RS ((w.setCell ⟨R, 1, none⟩ (.int .i64 0)).setCell ⟨R, 2, none⟩ (.slice none 0 0)) L R A c bs p 0 ∧ Fr L R w ((w.setCell ⟨R, 1, none⟩ (.int .i64 0)).setCell ⟨R, 2, none⟩ (.slice none 0 0)) := by
  have hc := h.cur
  have hn := h.ne
  have hF : Fr L R w ((w.setCell ⟨R, 1, none⟩ (.int .i64 0)).setCell ⟨R, 2, none⟩ (.slice none 0 0)) := ((Fr.refl L R w).store 1 _).store 2 _
  have e1 : ∀ q, ((w.setCell ⟨R, 1, none⟩ (.int .i64 0)).setCell ⟨R, 2, none⟩ (.slice none 0 0)).cell? ⟨L, q, none⟩ = w.cell? ⟨L, q, none⟩ := fun q => by
    rw [World.cell?_setCell_other _ _ _ _ (by intro e; apply hn; injection e with e1 _; exact e1.symm), World.cell?_setCell_other _ _ _ _ (by intro e; apply hn; injection e with e1 _; exact e1.symm)]
  refine ⟨⟨⟨hc.ne, Save.refl _ _, (e1 0).trans hc.cb, (e1 1).trans hc.ca, by simp [hc.fr], ?_, hc.le, hc.small⟩, (h.rdr.set_ 1 (.int .i64 0)).set_ 2 (.slice none 0 0), hn, h.neA, h.cap⟩, hF⟩
  refine ⟨hc.byt.1, fun h0 => ?_⟩
  obtain ⟨b, o, e, hcell⟩ := hc.byt.2 h0
  have hne := h.neA h0 _ e
  refine ⟨b, o, e, fun i hi => ?_⟩
  rw [World.cell?_setCell_other _ _ _ _ (by intro e; apply hne; injection e with e1 _; exact e1.symm), World.cell?_setCell_other _ _ _ _ (by intro e; apply hne; injection e with e1 _; exact e1.symm)]
  exact hcell i hi
def AllOf (L R : Nat) (P : World → World → Array Value → Int → Prop) (W : World) (e : Ending) (w' : World) : Prop :=
  ∃ (N0 N1 N2 : ByteArray) (a1 : Option Addr) (n1 c1 : Nat) (a2 : Option Addr) (n2 c2 : Nat) (k : Int), e = .returned (.tuple #[.agg #[.string N0, .string N1, .string N2, .slice a1 n1 c1, .slice a2 n2 c2], .int .i64 k]) ∧ Fr L R W w' ∧ P W w' #[.string N0, .string N1, .string N2, .slice a1 n1 c1, .slice a2 n2 c2] k ∧ (k ≠ 0 → #[.string N0, .string N1, .string N2, .slice a1 n1 c1, .slice a2 n2 c2] = z5)
def RootOf (L R : Nat) (P : World → World → Array Value → Int → Prop) (w : World) (e : Ending) (w' : World) : Prop :=
  ∃ (N0 N1 N2 : ByteArray) (a1 : Option Addr) (n1 c1 : Nat) (a2 : Option Addr) (n2 c2 : Nat) (k : Int) (W W1 : World), e = .returned (.tuple #[.agg #[.string N0, .string N1, .string N2, .slice a1 n1 c1, .slice a2 n2 c2], .int .i64 k]) ∧ P W W1 #[.string N0, .string N1, .string N2, .slice a1 n1 c1, .slice a2 n2 c2] k ∧ Fr L R w W ∧ w.heap.size < W.heap.size ∧ Fr L R W W1 ∧ Save w.heap.size W1 w'
set_option maxHeartbeats 4000000 in
set_option maxRecDepth 100000 in
theorem xml_Root {w : World} {L R c p : Nat} {A : Option Addr} {bs : List UInt8} {P : World → World → Array Value → Int → Prop} (h : RS w L R A c bs p 0) (hs : signsB bs = true) (hT : Lib.Utf8Tabs 0 1 w) (hL : 2 ≤ L) (hR : 2 ≤ R) (hne : bs ≠ [])
    (call : ∀ W, RS W L R A c bs 0 0 → Calls Tryd.prog 28 #[.pointer (some ⟨R, 0, none⟩)] W (AllOf L R P W)) :
    Calls Tryd.prog 17 #[.pointer (some ⟨R, 0, none⟩)] w (RootOf L R P w) := by
  have hb0 : Below w.heap.size w (w.alloc (.cells z5 27)) := (Below.refl _ _).alloc (Nat.le_refl _) _
  have h0 := h.below hb0
  have hnew := Blk.new w 27 z5
  have hRlt := h.rdr.lt
  have hLlt := h.cur.L_lt
  have hlen : 1 ≤ bs.length := List.length_pos_iff.2 hne
  have hsm := h.cur.small
  have c00 := h0.rdr.cell 0
  have k1 := cur_seek0 h0.cur
  have cS : ∀ W A' c', Byt W A' bs → Fr L R w W → Calls Tryd.prog 14 #[.slice A' bs.length c'] W fun e w' => e = .returned (.bool true) ∧ Below W.heap.size W w' := fun W A' c' hb hF => by
    rw [← hs]
    have := hF.size
    exact xml_Signs c' hb hsm (tabs_kept hT (hF.block 0 (by omega) (by omega) (by omega)) (hF.block 1 (by omega) (by omega) (by omega))) (by omega)
  obtain ⟨m, hm⟩ : ∃ m, m = bs.length := ⟨_, rfl⟩
  rw [← hm] at cS
  replace cS := Lib.hid cS
  replace call := Lib.hid call
  replace h0 := Lib.hid h0
  replace hb0 := Lib.hid hb0
  replace hnew := Lib.hid hnew
  replace hm := Lib.hid hm
  replace hsm := Lib.hid hsm
  replace hlen := Lib.hid hlen
  clear h hs hT hne
  go_enter Tryd.func17, Tryd.ntmps17
  go_upto_region 4 with (first
    | (go_at_call 25; (with_reducible refine k1.mono ?_); rintro e w1 ⟨rfl, h1⟩; obtain ⟨h2, f1⟩ := h0.out.cur_to h1; have c10 := h2.rdr.cell 0; replace h1 := Lib.hid h1; replace h2 := Lib.hid h2; replace f1 := Lib.hid f1))
  have cl : ∀ V, Below w1.heap.size w1 V → Calls Tryd.prog 27 #[.pointer (some ⟨L, 0, none⟩)] V fun e w' => e = .returned (.int .i64 m) ∧ V = w' := fun V hV => by rw [hm.out]; exact cur_len (h2.out.below hV).cur
  have ct : ∀ V, Below w1.heap.size w1 V → Calls Tryd.prog 26 #[.pointer (some ⟨L, 0, none⟩), .int .i64 m] V fun e w' => ∃ A' c', e = .returned (.tuple #[.slice A' m c', .bool true]) ∧ Byt w' A' bs ∧ RS w' L R A c bs m 0 ∧ Fr L R w1 w' := fun V hV => by
    have hm' := hm.out
    have hl' := hlen.out
    have hs' := hsm.out
    refine (cur_take m (h2.out.below hV).cur h2.out.cap (by omega) (by omega)).mono ?_
    rintro e w' ⟨A', c', rfl, hb, hc⟩
    have e1 : takeS bs 0 m = bs := by unfold takeS; rw [if_pos (by omega), hm']; simp
    have e2 : takeB bs 0 m = true := by unfold takeB; simp; omega
    rw [e1] at hb ⊢
    rw [e2] at hc ⊢
    rw [← hm'] at *
    simp only [if_true, Nat.zero_add] at hc
    obtain ⟨r1, r2⟩ := (h2.out.below hV).cur_to hc
    exact ⟨A', c', rfl, hb, r1, (Fr.of_below hV).trans r2⟩
  replace cl := Lib.hid cl
  replace ct := Lib.hid ct
  go_cut [4] (fun s4 wx => ∃ A' c', s4 = .slice A' m c' ∧ Byt wx A' bs ∧ RS wx L R A c bs m 0 ∧ Fr L R w1 wx)
  case first =>
    go_region_with (first
      | (go_at_call 27; refine (cl.out _ (by first | exact Below.refl _ _ | (repeat (first | exact Below.refl _ _ | refine Below.drew ?_)))).mono ?_; rintro e w' ⟨rfl, rfl⟩)
      | (go_at_call 26; refine (ct.out _ (by first | exact Below.refl _ _ | (repeat (first | exact Below.refl _ _ | refine Below.drew ?_)))).mono ?_; rintro e w' ⟨A', c', rfl, hb, hr, hf⟩; replace hb := Lib.hid hb; replace hr := Lib.hid hr; replace hf := Lib.hid hf))
    all_goals (go_wp2_with fail; go_meet; exact ⟨_, _, rfl, hb.out, hr.out, hf.out⟩)
  case rest =>
    obtain ⟨A', c', rfl, hb, hr, hf⟩ := hcut
    have cg := cS.out wc A' c' hb (((Fr.of_below hb0.out).trans f1.out).trans hf)
    have cr0 := hr.rdr.cell 0
    replace hb := Lib.hid hb
    replace hr := Lib.hid hr
    replace hf := Lib.hid hf
    go_upto_region 10 with (first
      | (go_at_call 14; (with_reducible refine cg.mono ?_); rintro e w3 ⟨rfl, hb3⟩; have h3 := hr.out.below hb3; have k3 := cur_seek0 h3.cur; have c30 := h3.rdr.cell 0; replace hb3 := Lib.hid hb3; replace h3 := Lib.hid h3)
      | (go_at_call 25; (with_reducible refine k3.mono ?_); rintro e w4 ⟨rfl, hs4⟩; obtain ⟨h4, f4⟩ := h3.out.cur_to hs4; obtain ⟨h5, f5⟩ := h4.stored; have k5 := call.out _ h5; have c40 := h4.rdr.cell 0; have c41 := h4.rdr.cell 1; have c42 := h4.rdr.cell 2; have y41 := h4.rdr.frozen 1; have y42 := h4.rdr.frozen 2; replace hs4 := Lib.hid hs4; replace h4 := Lib.hid h4; replace h5 := Lib.hid h5; replace f4 := Lib.hid f4; replace f5 := Lib.hid f5)
      | (go_at_call 28; (with_reducible refine k5.mono ?_); rintro e w5 ⟨N0, N1, N2, A1, n1, c1, A2, n2, c2, k, rfl, f6, hP, hk⟩; have F := ((((f1.out.trans hf.out).trans (Fr.of_below hb3.out)).trans f4.out).trans f5.out).trans f6; have hz : Blk w5 w.heap.size 27 z5 := (F.block w.heap.size (by simp) (by omega) (by omega)).trans hnew.out; have hg5 : w.heap.size < w5.heap.size := hz.lt; have a0 := hz.cell 0; have a1 := hz.cell 1; have a2 := hz.cell 2; have a3 := hz.cell 3; have a4 := hz.cell 4; have y0 := hz.frozen 0; have y1 := hz.frozen 1; have y2 := hz.frozen 2; have y3 := hz.frozen 3; have y4 := hz.frozen 4; replace hz := Lib.hid hz; replace F := Lib.hid F; replace f6 := Lib.hid f6; replace hP := Lib.hid hP; replace hk := Lib.hid hk))
    have hF := (⟨((((Fr.of_below hb0.out).trans f1.out).trans hf.out).trans (Fr.of_below hb3.out)).trans (f4.out.trans f5.out), Nat.lt_of_lt_of_le (by simp) ((((f1.out.trans hf.out).trans (Fr.of_below hb3.out)).trans (f4.out.trans f5.out)).size)⟩ : Fr L R w ((w4.setCell ⟨R, 1, none⟩ (.int .i64 0)).setCell ⟨R, 2, none⟩ (.slice none 0 0)) ∧ w.heap.size < ((w4.setCell ⟨R, 1, none⟩ (.int .i64 0)).setCell ⟨R, 2, none⟩ (.slice none 0 0)).heap.size)
    by_cases hk0 : k = 0
    · subst hk0
      go_wp2
      have hV := put5_blk hz.out (.string N0) (.string N1) (.string N2) (.slice A1 n1 c1) (.slice A2 n2 c2)
      have hSV := put5_save w5 w.heap.size (.string N0) (.string N1) (.string N2) (.slice A1 n1 c1) (.slice A2 n2 c2)
      unfold put5 at hV hSV
      obtain ⟨V, hU⟩ : ∃ U, U = (((((w5.setCell ⟨w.heap.size, 0, none⟩ (.string N0)).setCell ⟨w.heap.size, 1, none⟩ (.string N1)).setCell ⟨w.heap.size, 2, none⟩ (.string N2)).setCell ⟨w.heap.size, 3, none⟩ (.slice A1 n1 c1)).setCell ⟨w.heap.size, 4, none⟩ (.slice A2 n2 c2)) := ⟨_, rfl⟩
      rw [← hU] at hV hSV ⊢
      have hbU : Below V.heap.size V (V.alloc (.cells #[.string N0, .string N1, .string N2, .slice A1 n1 c1, .slice A2 n2 c2] 27)) := (Below.refl _ _).alloc (Nat.le_refl _) _
      have hV2 := hV.alloc (.cells #[.string N0, .string N1, .string N2, .slice A1 n1 c1, .slice A2 n2 c2] 27)
      have q0 := hV2.cell 0
      have q1 := hV2.cell 1
      have q2 := hV2.cell 2
      have q3 := hV2.cell 3
      have q4 := hV2.cell 4
      refine bodyPost_ret (v := .tuple #[.agg #[.string N0, .string N1, .string N2, .slice A1 n1 c1, .slice A2 n2 c2], .int .i64 0]) (by simp [results, Tryd.results17, go_sem, q0, q1, q2, q3, q4]) rfl ⟨N0, N1, N2, A1, n1, c1, A2, n2, c2, 0, _, w5, rfl, hP.out, hF.1, hF.2, f6.out, hSV.trans (Save.of_below hbU)⟩
    · have hkz := hk.out hk0
      have hkb : (k != 0) = true := by simp [hk0]
      injection hkz with hkz
      injection hkz with u0 hkz
      injection hkz with u1 hkz
      injection hkz with u2 hkz
      injection hkz with u3 hkz
      injection hkz with u4 hkz
      injection u0 with u0
      injection u1 with u1
      injection u2 with u2
      injection u3 with v1 v2 v3
      injection u4 with v4 v5 v6
      subst u0 u1 u2 v1 v2 v3 v4 v5 v6
      replace hk := Lib.hid hk
      go_wp2
      have hV := put5_blk hz.out (.string ⟨#[]⟩) (.string ⟨#[]⟩) (.string ⟨#[]⟩) (.slice none 0 0) (.slice none 0 0)
      have hSV := put5_save w5 w.heap.size (.string ⟨#[]⟩) (.string ⟨#[]⟩) (.string ⟨#[]⟩) (.slice none 0 0) (.slice none 0 0)
      unfold put5 at hV hSV
      obtain ⟨V, hU⟩ : ∃ U, U = (((((w5.setCell ⟨w.heap.size, 0, none⟩ (.string ⟨#[]⟩)).setCell ⟨w.heap.size, 1, none⟩ (.string ⟨#[]⟩)).setCell ⟨w.heap.size, 2, none⟩ (.string ⟨#[]⟩)).setCell ⟨w.heap.size, 3, none⟩ (.slice none 0 0)).setCell ⟨w.heap.size, 4, none⟩ (.slice none 0 0)) := ⟨_, rfl⟩
      rw [← hU] at hV hSV ⊢
      have hbU : Below V.heap.size V (V.alloc (.cells #[.string ⟨#[]⟩, .string ⟨#[]⟩, .string ⟨#[]⟩, .slice none 0 0, .slice none 0 0] 27)) := (Below.refl _ _).alloc (Nat.le_refl _) _
      have hV2 := hV.alloc (.cells #[.string ⟨#[]⟩, .string ⟨#[]⟩, .string ⟨#[]⟩, .slice none 0 0, .slice none 0 0] 27)
      have q0 := hV2.cell 0
      have q1 := hV2.cell 1
      have q2 := hV2.cell 2
      have q3 := hV2.cell 3
      have q4 := hV2.cell 4
      refine bodyPost_ret (v := .tuple #[.agg #[.string ⟨#[]⟩, .string ⟨#[]⟩, .string ⟨#[]⟩, .slice none 0 0, .slice none 0 0], .int .i64 k]) (by simp [results, Tryd.results17, go_sem, q0, q1, q2, q3, q4]) rfl ⟨_, _, _, _, _, _, _, _, _, k, _, w5, rfl, hP.out, hF.1, hF.2, f6.out, hSV.trans (Save.of_below hbU)⟩
end Go.Proofs.YtgomlebemefdcaaDoor

/- Parse: a walk over any answer of the reader. No condition. -/
namespace Go.Proofs.YtgomlebemefdcaaDoor
open Go Go.RowKit Go.Wk Go.Xt Go.Xe
def ParseOf (P : World → World → Array Value → Int → Prop) (w : World) (e : Ending) (w' : World) : Prop :=
  ∃ (N0 N1 N2 : ByteArray) (a1 : Option Addr) (n1 c1 : Nat) (a2 : Option Addr) (n2 c2 : Nat) (k : Int) (W W1 : World), e = .returned (.tuple #[.agg #[.string N0, .string N1, .string N2, .slice a1 n1 c1, .slice a2 n2 c2], .int .i64 k]) ∧ P W W1 #[.string N0, .string N1, .string N2, .slice a1 n1 c1, .slice a2 n2 c2] k ∧ w.heap.size ≤ W.heap.size ∧ (∀ k, W.heap.size ≤ k → k < W1.heap.size → w'.heap[k]? = W1.heap[k]?) ∧ W1.heap.size ≤ w'.heap.size ∧ Below w.heap.size w w'
set_option maxHeartbeats 4000000 in
set_option maxRecDepth 100000 in
theorem xml_Parse {w : World} {A : Option Addr} {c : Nat} {bs : List UInt8} {P : World → World → Array Value → Int → Prop} (hb : Byt w A bs) (hc : bs.length ≤ c) (hsm : bs.length ≤ 100000) (hs : signsB bs = true) (hT : Lib.Utf8Tabs 0 1 w) (h2 : 2 ≤ w.heap.size) (hne : bs ≠ [])
    (call : ∀ W, RS W (w.heap.size + 1) (w.heap.size + 2) A bs.length bs 0 0 → Calls Tryd.prog 28 #[.pointer (some ⟨w.heap.size + 2, 0, none⟩)] W (AllOf (w.heap.size + 1) (w.heap.size + 2) P W)) :
    Calls Tryd.prog 9 #[.slice A bs.length c] w (ParseOf P w) := by
  have hb0 : Below w.heap.size w (w.alloc (.cells z5 27)) := (Below.refl _ _).alloc (Nat.le_refl _) _
  have hnew := Blk.new w 27 z5
  have cN := xml_New A c bs _ (hb.below hb0) hc hsm
  have hT0 := tabs_kept hT (hb0.block 0 (by omega)) (hb0.block 1 (by omega))
  have hz0 : (w.alloc (.cells z5 27)).heap.size = w.heap.size + 1 := World.size_alloc _ _
  rw [hz0] at cN
  have cR : ∀ W, RS W (w.heap.size + 1) (w.heap.size + 2) A bs.length bs 0 0 → Below (w.heap.size + 1) (w.alloc (.cells z5 27)) W → Calls Tryd.prog 17 #[.pointer (some ⟨w.heap.size + 2, 0, none⟩)] W (RootOf (w.heap.size + 1) (w.heap.size + 2) P W) := fun W hW hB =>
    xml_Root hW hs (tabs_kept hT0 (hB.block 0 (by omega)) (hB.block 1 (by omega))) (by omega) (by omega) hne call
  replace cN : Calls Tryd.prog 16 #[.slice A bs.length c] (w.alloc (.cells z5 27)) fun e w' => e = .returned (.pointer (some ⟨w.heap.size + 2, 0, none⟩)) ∧ RS w' (w.heap.size + 1) (w.heap.size + 2) A bs.length bs 0 0 ∧ Below (w.heap.size + 1) (w.alloc (.cells z5 27)) w' := cN
  replace cR := Lib.hid cR
  replace hb0 := Lib.hid hb0
  replace hnew := Lib.hid hnew
  replace hz0 := Lib.hid hz0
  obtain ⟨m, hm⟩ : ∃ m, m = bs.length := ⟨_, rfl⟩
  rw [← hm] at cN ⊢
  replace hm := Lib.hid hm
  clear call hb hc hsm hs hT hT0 hne
  go_enter Tryd.func9, Tryd.ntmps9
  go_wp2_with (first
    | (go_at_call 16; (with_reducible refine cN.mono ?_); rintro e w1 ⟨rfl, h1, b1⟩; have k1 := cR.out w1 (hm.out ▸ h1) b1; replace h1 := Lib.hid h1; replace b1 := Lib.hid b1)
    | (go_at_call 17; (with_reducible refine k1.mono ?_); rintro e w2 ⟨N0, N1, N2, A1, n1, c1, A2, n2, c2, k, W, W1, rfl, hP, hF, hlt, hF1, hS⟩; have hz := hz0.out; have z1 := b1.out.size; have hW1 := hF1.size; have hB2 : Below (w.heap.size + 1) w1 w2 := ((hF.below (B := w.heap.size + 1) (by omega) (by omega) (by omega)).trans (hF1.below (by omega) (by omega) (by omega))).trans (hS.below (by omega) (by omega)); have hB3 := b1.out.trans hB2; have hz : Blk w2 w.heap.size 27 z5 := (hB3.block w.heap.size (by omega)).trans hnew.out; have a0 := hz.cell 0; have a1 := hz.cell 1; have a2 := hz.cell 2; have a3 := hz.cell 3; have a4 := hz.cell 4; have y0 := hz.frozen 0; have y1 := hz.frozen 1; have y2 := hz.frozen 2; have y3 := hz.frozen 3; have y4 := hz.frozen 4; replace hz := Lib.hid hz; replace hB2 := Lib.hid hB2; replace hB3 := Lib.hid hB3; replace hP := Lib.hid hP; replace hF := Lib.hid hF; replace hF1 := Lib.hid hF1; replace hS := Lib.hid hS))
  have hV := put5_blk hz.out (.string N0) (.string N1) (.string N2) (.slice A1 n1 c1) (.slice A2 n2 c2)
  have hSV := put5_save w2 w.heap.size (.string N0) (.string N1) (.string N2) (.slice A1 n1 c1) (.slice A2 n2 c2)
  unfold put5 at hV hSV
  obtain ⟨V, hU⟩ : ∃ U, U = (((((w2.setCell ⟨w.heap.size, 0, none⟩ (.string N0)).setCell ⟨w.heap.size, 1, none⟩ (.string N1)).setCell ⟨w.heap.size, 2, none⟩ (.string N2)).setCell ⟨w.heap.size, 3, none⟩ (.slice A1 n1 c1)).setCell ⟨w.heap.size, 4, none⟩ (.slice A2 n2 c2)) := ⟨_, rfl⟩
  rw [← hU] at hV hSV ⊢
  have q0 := hV.cell 0
  have q1 := hV.cell 1
  have q2 := hV.cell 2
  have q3 := hV.cell 3
  have q4 := hV.cell 4
  have hzz := hz0.out
  have s1 := b1.out.size
  have s2 := hF1.out.size
  have s3 := hS.out.size
  have s4 := hSV.size
  refine bodyPost_ret (v := .tuple #[.agg #[.string N0, .string N1, .string N2, .slice A1 n1 c1, .slice A2 n2 c2], .int .i64 k]) (by simp [results, Tryd.results9, go_sem, q0, q1, q2, q3, q4]) rfl ⟨N0, N1, N2, A1, n1, c1, A2, n2, c2, k, W, W1, rfl, hP.out, by omega, ?_, by omega, (hb0.out.trans (hB3.out.mono (by omega))).trans (hSV.below (Nat.le_refl _) (by omega))⟩
  intro j hj hj2
  exact (hSV.block j (by omega) (by omega)).trans (hS.out.block j hj2 (by omega))
end Go.Proofs.YtgomlebemefdcaaDoor

/- Names in one another as bytes: all signs. No condition. -/
namespace Go.Proofs.YtgomlebemefdcaaDoor
open Go Go.RowKit Go.Wk Go.Xt Go.Xe
theorem next_ascii (x : UInt8) (r : List UInt8) (h1 : 32 ≤ x.toNat) (h2 : x.toNat < 128) : (Lib.decodeL (x :: r)).2 = 1 ∧ nextOk (x :: r) = true := by
  have e : Lib.decodeL (x :: r) = (x.toNat, 1) := by
    rw [Lib.decodeL_N]
    unfold Lib.decodeN
    simp [h2]
  unfold nextOk
  rw [e]
  refine ⟨rfl, ?_⟩
  simp [signV, signB, validB]
  omega
theorem signs_ascii : ∀ (l : List UInt8), (∀ x ∈ l, 32 ≤ x.toNat ∧ x.toNat < 128) → signsB l = true := by
  intro l
  induction l with
  | nil => intro _; unfold signsB; rw [partsS_nil]; rfl
  | cons x r ih =>
    intro h
    have hx := h x (by simp)
    obtain ⟨e1, e2⟩ := next_ascii x r hx.1 hx.2
    unfold signsB at ih ⊢
    rw [partsS_cons _ (by simp), e1]
    simp only [List.drop_succ_cons, List.drop_zero, List.all_cons, e2, Bool.true_and]
    exact ih fun y hy => h y (by simp [hy])
def openS (l : List UInt8) : List UInt8 := l.flatMap fun n => [60, n, 62]
def closeS (l : List UInt8) : List UInt8 := l.reverse.flatMap fun n => [60, 47, n, 62]
theorem openS_snoc (l : List UInt8) (n : UInt8) : openS (l ++ [n]) = openS l ++ [60, n, 62] := by simp [openS]
theorem closeS_snoc (l : List UInt8) (n : UInt8) : closeS (l ++ [n]) = [60, 47, n, 62] ++ closeS l := by simp [closeS]
theorem nestS_eq (l : List UInt8) : openS l ++ ([116] ++ closeS l) = nestS l := by
  induction l with
  | nil => rfl
  | cons n l ih =>
    have e1 : openS (n :: l) = [60, n, 62] ++ openS l := by simp [openS]
    have e2 : closeS (n :: l) = closeS l ++ [60, 47, n, 62] := by simp [closeS]
    rw [e1, e2]
    show _ = [60, n, 62] ++ nestS l ++ [60, 47, n, 62]
    rw [← ih]
    simp
theorem nest_len (l : List UInt8) : (nestS l).length = 7 * l.length + 1 := by
  induction l with
  | nil => rfl
  | cons n l ih => simp [nestS, ih]; omega
theorem nest_ascii : ∀ (l : List UInt8), (∀ n ∈ l, low n) → ∀ x ∈ nestS l, 32 ≤ x.toNat ∧ x.toNat < 128 := by
  intro l
  induction l with
  | nil => intro _ x hx; simp [nestS] at hx; subst hx; decide
  | cons n l ih =>
    intro h x hx
    have hn := h n (by simp)
    unfold low at hn
    simp only [nestS, List.mem_append, List.mem_cons, List.not_mem_nil, or_false] at hx
    rcases hx with ((rfl | rfl | rfl) | hx) | (rfl | rfl | rfl | rfl)
    · decide
    · omega
    · decide
    · exact ih (fun y hy => h y (by simp [hy])) x hx
    · decide
    · decide
    · omega
    · decide
/-- the letter of a number -/
def chU (x : UInt8) : UInt8 := UInt8.ofNat (97 + x.toNat % 26)
theorem chU_nat (x : UInt8) : (chU x).toNat = 97 + x.toNat % 26 := by unfold chU; exact UInt8.toNat_ofNat_of_lt' (by show _ < 256; omega)
theorem chU_low (x : UInt8) : low (chU x) := by unfold low; rw [chU_nat]; omega
theorem chs_low (l : List UInt8) : ∀ n ∈ l.map chU, low n := by
  intro n h; obtain ⟨x, _, rfl⟩ := List.mem_map.1 h; exact chU_low x
theorem misc_root (n : UInt8) (h : low n) (r : List UInt8) : Around (60 :: n :: r) (60 :: n :: r) := by
  have e : (60 :: n :: r).drop (ws (60 :: n :: r)) = 60 :: n :: r := by
    have : ws (60 :: n :: r) = 0 := by simp [ws, List.takeWhile_cons, whiteB]
    rw [this]; rfl
  have := Around.stop (60 :: n :: r) (by rw [e]; exact misc_low h r)
  rw [e] at this
  exact this
theorem misc_out : Around [] [] := .stop [] (.no _ (by simp) (by simp))
end Go.Proofs.YtgomlebemefdcaaDoor

/- Parse reads elements in one another, or finds them too deep. No condition. -/
namespace Go.Proofs.YtgomlebemefdcaaDoor
open Go Go.RowKit Go.Wk Go.Xt Go.Xe
theorem conv_bytes (w : World) (s : ByteArray) (hs : s.size ≤ 100000) :
    ∃ c W', (convert 9 22 (.string s)).run Tryd.prog w = .ok (.slice (some ⟨w.heap.size, 0, none⟩) s.size c) W' ∧ Byt W' (some ⟨w.heap.size, 0, none⟩) s.data.toList ∧ Below w.heap.size w W' ∧ s.size ≤ c ∧ W'.heap.size = w.heap.size + 1 := by
  have hcv := Lib.run_convert_string_bytes (P := Tryd.prog) w 9 22 5 s (u := .string) Tryd.underlying9 Tryd.underlying22 Tryd.underlying5
  have hlen : s.data.toList.length = s.size := Array.length_toList
  refine ⟨_, _, hcv, ⟨?_, fun _ => ⟨_, 0, rfl, fun i hi => ?_⟩⟩, ⟨rfl, rfl, rfl, by rw [Lib.bytesWorld_size]; omega, fun k hk => Lib.bytesWorld_at_old _ _ _ _ hk⟩, ?_, Lib.bytesWorld_size _ _ _⟩
  · unfold maxLen; omega
  · have := Lib.bytesWorld_cell w 5 s i (by omega)
    rw [Nat.zero_add, this]
    rw [List.getD_eq_getElem?_getD, List.getElem?_eq_getElem hi]; rfl
  · exact grownCap_ge _ _ _ _
theorem parse_deep {w : World} {A : Option Addr} {c : Nat} {ns : List UInt8} (hb : Byt w A (nestS ns)) (hc : (nestS ns).length ≤ c) (hl : ∀ n ∈ ns, low n) (h1 : 32 < ns.length) (h60 : ns.length ≤ 60) (hT : Lib.Utf8Tabs 0 1 w) (h2 : 2 ≤ w.heap.size) :
    Calls Tryd.prog 9 #[.slice A (nestS ns).length c] w fun e w' => e = .returned (.tuple #[.agg z5, .int .i64 6]) ∧ Below w.heap.size w w' := by
  have hlen := nest_len ns
  have hne : nestS ns ≠ [] := by intro e; rw [e] at hlen; simp at hlen
  refine (xml_Parse (P := fun _ _ vs k => vs = z5 ∧ k = 6) hb hc (by omega) (signs_ascii _ (nest_ascii ns hl)) hT h2 hne fun W hW => ?_).mono ?_
  · have hd := deep_too ns 32 0 [] hl h1 (by omega)
    rw [List.append_nil] at hd
    obtain ⟨n, l, e⟩ : ∃ n l, ns = n :: l := by cases ns with | nil => simp at h1 | cons n l => exact ⟨n, l, rfl⟩
    have ha : Around (nestS ns) (nestS ns) := by
      rw [e]; exact misc_root n (hl n (by rw [e]; simp)) _
    refine (xml_all_deep hW ⟨by simp, Nat.zero_le _⟩ ha hd).mono ?_
    rintro e w' ⟨rfl, hF⟩
    exact ⟨⟨#[]⟩, ⟨#[]⟩, ⟨#[]⟩, none, 0, 0, none, 0, 0, 6, rfl, hF, ⟨rfl, rfl⟩, fun _ => rfl⟩
  · rintro e w' ⟨N0, N1, N2, a1, n1, c1, a2, n2, c2, k, W, W1, rfl, ⟨hv, rfl⟩, _, _, _, hB⟩
    rw [hv]
    exact ⟨rfl, hB⟩
theorem parse_nest {w : World} {A : Option Addr} {c : Nat} {ns : List UInt8} (hb : Byt w A (nestS ns)) (hc : (nestS ns).length ≤ c) (hl : ∀ n ∈ ns, low n) (h1 : 0 < ns.length) (h32 : ns.length ≤ 32) (hT : Lib.Utf8Tabs 0 1 w) (h2 : 2 ≤ w.heap.size) :
    Calls Tryd.prog 9 #[.slice A (nestS ns).length c] w fun e w' => ∃ (N0 N1 N2 : ByteArray) (a1 : Option Addr) (n1 c1 : Nat) (a2 : Option Addr) (n2 c2 : Nat) (bl : List Nat), e = .returned (.tuple #[.agg #[.string N0, .string N1, .string N2, .slice a1 n1 c1, .slice a2 n2 c2], .int .i64 0]) ∧
      NdAt w' (nestN ns) [.string N0, .string N1, .string N2, .slice a1 n1 c1, .slice a2 n2 c2] bl ∧ (∀ k ∈ bl, w.heap.size ≤ k ∧ k < w'.heap.size) ∧ Below w.heap.size w w' := by
  have hlen := nest_len ns
  have hne : nestS ns ≠ [] := by intro e; rw [e] at hlen; simp at hlen
  refine (xml_Parse (P := fun W W1 vs k => k = 0 ∧ ∃ bl, NdAt W1 (nestN ns) vs.toList bl ∧ (∀ j ∈ bl, W.heap.size ≤ j ∧ j < W1.heap.size)) hb hc (by omega) (signs_ascii _ (nest_ascii ns hl)) hT h2 hne fun W hW => ?_).mono ?_
  · have hn0 : ns ≠ [] := by intro e; rw [e] at h1; simp at h1
    have hd := deep_elem ns 32 0 [] hn0 hl h32 (by omega)
    rw [List.append_nil] at hd
    obtain ⟨n, l, e⟩ : ∃ n l, ns = n :: l := by cases ns with | nil => simp at h1 | cons n l => exact ⟨n, l, rfl⟩
    have ha : Around (nestS ns) (nestS ns) := by
      rw [e]; exact misc_root n (hl n (by rw [e]; simp)) _
    refine (xml_all hW ⟨by simp, Nat.zero_le _⟩ ha hd misc_out).mono ?_
    rintro e w' ⟨N, a1, n1, c1, a2, n2, c2, bl, rfl, hN, hbl, hF⟩
    exact ⟨⟨#[]⟩, N, ⟨#[]⟩, a1, n1, c1, a2, n2, c2, 0, rfl, hF, ⟨rfl, bl, hN, hbl⟩, fun h => absurd rfl h⟩
  · rintro e w' ⟨N0, N1, N2, a1, n1, c1, a2, n2, c2, k, W, W1, rfl, ⟨rfl, bl, hN, hbl⟩, h3, h4, h5, hB⟩
    exact ⟨N0, N1, N2, a1, n1, c1, a2, n2, c2, bl, rfl, hN.keep fun j hj => h4 j (hbl j hj).1 (hbl j hj).2, fun j hj => by have := hbl j hj; omega, hB⟩
/-- such an element in memory: its one kid lies in a row -/
theorem nest_cons {w : World} {n : UInt8} {l : List UInt8} {vs : List Value} {bl : List Nat} (h : NdAt w (nestN (n :: l)) vs bl) :
    ∃ g cap us bl' a1 n1 c1, vs = [str [], str [n], str [], .slice a1 n1 c1, .slice (some ⟨g, 0, none⟩) 1 cap] ∧ NdAt w (nestN l) us bl' ∧ (∀ j (hj : j < 5), w.cell? ⟨g, j, none⟩ = us[j]?) ∧ g < w.heap.size ∧ g ∈ bl ∧ (∀ j ∈ bl', j ∈ bl) := by
  have h : NdAt w (.el [n] [] [nestN l]) vs bl := h
  cases h with
  | el nm l' ks va vk ba bk ha hk =>
    have hva : ∃ a1 n1 c1, va = .slice a1 n1 c1 := by
      rcases ha with ⟨_, rfl, _⟩ | ⟨g, cap, rfl, _⟩
      · exact ⟨_, _, _, rfl⟩
      · exact ⟨_, _, _, rfl⟩
    obtain ⟨a1, n1, c1, rfl⟩ := hva
    cases hk with
    | row ks g cap vs b ho hr =>
      cases hr with
      | cons k ks us vss b bs hn hr =>
        cases hr with
        | nil =>
          have hl := ho.1
          rw [List.append_nil] at ho hl
          have hlt : g < w.heap.size := by
            have := ho.cellAt 0 (by simp)
            rw [List.getElem?_eq_getElem (by rw [hl]; simp)] at this
            exact cell_lt this
          exact ⟨g, cap, us, b, a1, n1, c1, rfl, hn, fun j hj => ho.cellAt j (by simpa using hj), hlt, by simp, fun j hj => by simp [hj]⟩
theorem nest_shape {w : World} : ∀ {l : List UInt8} {vs : List Value} {bl : List Nat}, NdAt w (nestN l) vs bl →
    ∃ (N0 N1 N2 : ByteArray) (a1 : Option Addr) (n1 c1 : Nat) (a2 : Option Addr) (n2 c2 : Nat), vs = [.string N0, .string N1, .string N2, .slice a1 n1 c1, .slice a2 n2 c2] := by
  intro l vs bl h
  cases l with
  | nil =>
    have h : NdAt w (.tx [116]) vs bl := h
    cases h with
    | tx t => exact ⟨_, _, _, _, _, _, _, _, _, rfl⟩
  | cons n l =>
    obtain ⟨g, cap, us, bl', a1, n1, c1, rfl, _⟩ := nest_cons h
    exact ⟨_, _, _, _, _, _, _, _, _, rfl⟩
theorem nest_nil {w : World} {vs : List Value} {bl : List Nat} (h : NdAt w (nestN []) vs bl) : vs = [str [], str [], str [116], .slice none 0 0, .slice none 0 0] := by
  have h : NdAt w (.tx [116]) vs bl := h
  cases h with
  | tx t => rfl
end Go.Proofs.YtgomlebemefdcaaDoor

/- The law of elements in one another. No condition. -/
namespace Go.Proofs.YtgomlebemefdcaaDoor
open Go Go.RowKit Go.Wk Go.Xt Go.Xe
theorem openS_len (l : List UInt8) : (openS l).length = 3 * l.length := by
  unfold openS; induction l with
  | nil => rfl
  | cons x l ih => simp [ih]; omega
theorem closeS_len (l : List UInt8) : (closeS l).length = 4 * l.length := by
  have : ∀ k : List UInt8, (k.flatMap fun n => ([60, 47, n, 62] : List UInt8)).length = 4 * k.length := by
    intro k; induction k with
    | nil => rfl
    | cons x k ih => simp [ih]; omega
  unfold closeS; rw [this]; simp
theorem str_of {a : ByteArray} {l : List UInt8} (h : a.data.toList = l) : Value.string a = str l := by
  have : a = ⟨l.toArray⟩ := bytes_ext (by rw [h])
  rw [this]; rfl
set_option maxHeartbeats 4000000 in
set_option maxRecDepth 100000 in
theorem deep_law {w : World} {A : Option Addr} {c : Nat} {l : List UInt8} (hb : Byt w A l) (hc : l.length ≤ c) (hT : Lib.Utf8Tabs 0 1 w) (h2 : 2 ≤ w.heap.size)
    (haw : Calls Tryd.prog 8 #[] w fun e w' => e = .returned (.bool true) ∧ Below w.heap.size w w') :
    Calls Tryd.prog 3 #[.slice A l.length c] w fun e w' => e = .returned (.bool true) ∧ Below w.heap.size w w' := by
  have hm := hb.1
  unfold maxLen at hm
  by_cases h60 : 60 < l.length
  · replace hb := Lib.hid hb
    replace hT := Lib.hid hT
    go_enter Tryd.func3, Tryd.ntmps3
    go_wp2_with (go_at_call 8; (with_reducible refine haw.mono ?_); rintro e w1 ⟨rfl, b1⟩; replace b1 := Lib.hid b1)
    go_ret
    exact ⟨rfl, b1.out⟩
  by_cases h0 : l.length = 0
  · replace hb := Lib.hid hb
    replace hT := Lib.hid hT
    rw [h0]
    clear h0 h60
    go_enter Tryd.func3, Tryd.ntmps3
    go_wp2_with (go_at_call 8; (with_reducible refine haw.mono ?_); rintro e w1 ⟨rfl, b1⟩; replace b1 := Lib.hid b1)
    go_ret
    exact ⟨rfl, b1.out⟩
  obtain ⟨b, o, rfl, hcell⟩ := hb.2 (by omega)
  replace hcell := Lib.hid hcell
  replace hb := Lib.hid hb
  replace hT := Lib.hid hT
  obtain ⟨m, hme⟩ : ∃ m, m = l.length := ⟨_, rfl⟩
  rw [← hme] at hc hm h60 h0 ⊢
  replace hme := Lib.hid hme
  have hg1 : decide ((60 : Int) < (m : Int)) = false := by simp; omega
  have hg2 : ((m : Int) == 0) = false := by simp [h0]
  go_enter Tryd.func3, Tryd.ntmps3
  go_wp2_with (go_at_call 8; (with_reducible refine haw.mono ?_); rintro e w1 ⟨rfl, b1⟩; replace b1 := Lib.hid b1)
  go_loopw [3, 4, 5, 6] (fun s3 s4 s5 _ wr => ∃ k : Nat, k ≤ m ∧ s5 = .int .i64 k ∧ s3 = str (openS ((l.take k).map chU)) ∧ s4 = str (closeS ((l.take k).map chU)) ∧ Below w.heap.size w wr) (fun _ _ s5 _ _ => m - (RowKit.intOf s5).toNat)
  case atStart => exact ⟨0, by omega, rfl, rfl, rfl, b1.out⟩
  case round =>
    obtain ⟨k, hk, rfl, rfl, rfl, hB⟩ := hrel
    by_cases hkm : k < m
    · have hkl : k < l.length := by rw [← hme.out]; exact hkm
      obtain ⟨x, hx⟩ : ∃ x, x = l[k] := ⟨_, rfl⟩
      have hcx : wr.cell? ⟨b, o + k, none⟩ = some (.int .u8 (x.toNat : Int)) := by
        rw [hx]; exact (hB.cell (cell_lt (hcell.out k hkl))).trans (hcell.out k hkl)
      obtain ⟨S, hS⟩ : ∃ S : ByteArray, S = ⟨(openS ((l.take k).map chU)).toArray⟩ := ⟨_, rfl⟩
      obtain ⟨E, hE⟩ : ∃ S : ByteArray, S = ⟨(closeS ((l.take k).map chU)).toArray⟩ := ⟨_, rfl⟩
      have hS1 : str (openS ((l.take k).map chU)) = .string S := by rw [hS]; rfl
      have hE1 : str (closeS ((l.take k).map chU)) = .string E := by rw [hE]; rfl
      rw [hS1, hE1]
      have hx8 := x.toNat_lt
      have zS : S.size = 3 * k := by rw [hS]; show (openS _).toArray.size = _; simp [openS_len]; omega
      have zE : E.size = 4 * k := by rw [hE]; show (closeS _).toArray.size = _; simp [closeS_len]; omega
      replace hS := Lib.hid hS
      replace hE := Lib.hid hE
      replace hS1 := Lib.hid hS1
      replace hE1 := Lib.hid hE1
      replace hB := Lib.hid hB
      replace hx := Lib.hid hx
      have hcv : (convert 22 9 (.slice (some ⟨wr.heap.size, 0, none⟩) 1 1)).run Tryd.prog (wr.alloc (.cells #[.int .u8 (97 + (x.toNat : Int) % 26)] 5)) = .ok (.string ⟨#[chU x]⟩) (wr.alloc (.cells #[.int .u8 (97 + (x.toNat : Int) % 26)] 5)) := by
        refine conv_at _ wr.heap.size 0 1 (chU x) ?_
        have e : ((chU x).toNat : Int) = 97 + (x.toNat : Int) % 26 := by rw [chU_nat]; omega
        rw [e, World.cell?_alloc_new]; rfl
      go_wp2
      go_roundw
      case rel =>
        have ht : (l.take (k + 1)).map chU = (l.take k).map chU ++ [chU x] := by
          rw [List.take_succ_eq_append_getElem hkl, List.map_append, hx.out]; rfl
        refine ⟨k + 1, by omega, by go_num, ?_, ?_, hB.out.alloc hB.out.size _⟩
        · rw [ht, openS_snoc]
          exact str_of (by simp only [bytes_app, hS.out]; simp)
        · rw [ht, closeS_snoc]
          exact str_of (by simp only [bytes_app, hE.out]; simp)
      case measure => simp [RowKit.intOf]; omega
    · obtain rfl : k = m := by omega
      obtain ⟨S, hS⟩ : ∃ S : ByteArray, S = ⟨(openS ((l.take k).map chU)).toArray⟩ := ⟨_, rfl⟩
      obtain ⟨E, hE⟩ : ∃ S : ByteArray, S = ⟨(closeS ((l.take k).map chU)).toArray⟩ := ⟨_, rfl⟩
      have hS1 : str (openS ((l.take k).map chU)) = .string S := by rw [hS]; rfl
      have hE1 : str (closeS ((l.take k).map chU)) = .string E := by rw [hE]; rfl
      rw [hS1, hE1]
      have zS : S.size = 3 * k := by rw [hS]; show (openS _).toArray.size = _; simp [openS_len, ← hme.out]
      have zE : E.size = 4 * k := by rw [hE]; show (closeS _).toArray.size = _; simp [closeS_len, ← hme.out]
      replace hS := Lib.hid hS
      replace hE := Lib.hid hE
      replace hS1 := Lib.hid hS1
      replace hE1 := Lib.hid hE1
      replace hB := Lib.hid hB
      obtain ⟨T, hTe⟩ : ∃ T : ByteArray, T = S ++ ⟨#[116]⟩ ++ E := ⟨_, rfl⟩
      have zT : T.size ≤ 1000 := by rw [hTe, ByteArray.size_append, ByteArray.size_append, zS, zE]; show 3 * k + 1 + 4 * k ≤ 1000; omega
      obtain ⟨ns, hns⟩ : ∃ ns, ns = l.map chU := ⟨_, rfl⟩
      have hnl : ns.length = k := by rw [hns, List.length_map, hme.out]
      have hlow : ∀ n ∈ ns, low n := by rw [hns]; exact chs_low l
      have hTl : T.data.toList = nestS ns := by
        rw [hTe, bytes_app, bytes_app, hS.out, hE.out, ← nestS_eq, hns, hme.out, List.take_length]
        simp
      obtain ⟨cT, W2, hcv, hbT, hBT, hcT, hzT⟩ := conv_bytes wr T (by omega)
      have hTlen : T.size = (nestS ns).length := by rw [← hTl, Array.length_toList]; rfl
      rw [hTl] at hbT
      have hB2 := hB.out.trans (hBT.mono hB.out.size)
      have hT2 := tabs_kept hT.out (hB2.block 0 (by omega)) (hB2.block 1 (by omega))
      have hz2 : 2 ≤ W2.heap.size := by have := hB.out.size; omega
      obtain ⟨tl, htl⟩ : ∃ tl, tl = T.size := ⟨_, rfl⟩
      rw [← htl] at hcv hTlen hcT
      rw [hTe] at hcv
      replace htl := Lib.hid htl
      replace hTe := Lib.hid hTe
      by_cases h32 : 32 < k
      · have cP := parse_deep hbT (by omega : (nestS ns).length ≤ cT) hlow (by omega) (by omega) hT2 hz2
        rw [← hTlen] at cP
        replace hTlen := Lib.hid hTlen
        replace hTl := Lib.hid hTl
        replace hbT := Lib.hid hbT
        replace hBT := Lib.hid hBT
        replace hB2 := Lib.hid hB2
        replace hT2 := Lib.hid hT2
        replace hzT := Lib.hid hzT
        clear zT hnl hlow hns
        go_wp2_with (go_at_call 9; (with_reducible refine cP.mono ?_); rintro e w3 ⟨rfl, b3⟩; replace b3 := Lib.hid b3)
        go_ret
        exact ⟨rfl, bthen hB2.out (b3.out.alloc (by have := b3.out.size; omega) _)⟩
      · have cP := parse_nest hbT (by omega : (nestS ns).length ≤ cT) hlow (by omega) (by omega) hT2 hz2
        rw [← hTlen] at cP
        replace hTlen := Lib.hid hTlen
        replace hTl := Lib.hid hTl
        replace hbT := Lib.hid hbT
        replace hBT := Lib.hid hBT
        replace hB2 := Lib.hid hB2
        replace hT2 := Lib.hid hT2
        replace hzT := Lib.hid hzT
        replace hnl := Lib.hid hnl
        replace hns := Lib.hid hns
        clear zT hlow
        go_wp2_with (go_at_call 9; (with_reducible refine cP.mono ?_); rintro e w3 ⟨N0, N1, N2, a1, n1, c1, a2, n2, c2, bl, rfl, hN, hbl, b3⟩; replace b3 := Lib.hid b3; replace hN := Lib.hid hN; replace hbl := Lib.hid hbl)
        obtain ⟨X, hX⟩ : ∃ X, X = w3.heap.size := ⟨_, rfl⟩
        have hX0 : w.heap.size ≤ X := by have := hB2.out.size; have := b3.out.size; omega
        obtain ⟨W4, hW4⟩ : ∃ W, W = w3.alloc (.cells #[.string N0, .string N1, .string N2, .slice a1 n1 c1, .slice a2 n2 c2] 27) := ⟨_, rfl⟩
        have hb4 : Below w3.heap.size w3 W4 := by rw [hW4]; exact (Below.refl _ _).alloc (Nat.le_refl _) _
        have hb04 : Below w.heap.size w W4 := bthen hB2.out (bthen b3.out hb4)
        have hx4 : Blk W4 X 27 #[.string N0, .string N1, .string N2, .slice a1 n1 c1, .slice a2 n2 c2] := by rw [hW4, hX]; exact Blk.new w3 27 _
        have hn4 : NdAt W4 (nestN ns) [.string N0, .string N1, .string N2, .slice a1 n1 c1, .slice a2 n2 c2] bl := hN.out.keep fun j hj => hb4.block j (hbl.out j hj).2
        have hl4 : ∀ j ∈ bl, j ≠ X ∧ j < W4.heap.size := fun j hj => by have := hbl.out j hj; have := hb4.size; omega
        rw [← hW4, ← hX]
        replace hX := Lib.hid hX
        replace hW4 := Lib.hid hW4
        replace hb4 := Lib.hid hb4
        replace hb04 := Lib.hid hb04
        replace hx4 := Lib.hid hx4
        replace hn4 := Lib.hid hn4
        replace hl4 := Lib.hid hl4
        go_loopw [9] (fun s9 wr2 => ∃ (j : Nat) (M0 M1 M2 : ByteArray) (b1 : Option Addr) (m1 d1 : Nat) (b2 : Option Addr) (m2 d2 : Nat) (bl2 : List Nat), j ≤ k ∧ s9 = .int .i64 j ∧ Blk wr2 X 27 #[.string M0, .string M1, .string M2, .slice b1 m1 d1, .slice b2 m2 d2] ∧ NdAt wr2 (nestN (ns.drop j)) [.string M0, .string M1, .string M2, .slice b1 m1 d1, .slice b2 m2 d2] bl2 ∧ (∀ i ∈ bl2, i ≠ X ∧ i < wr2.heap.size) ∧ Below w.heap.size w wr2) (fun s9 _ => k - (RowKit.intOf s9).toNat)
        case atStart => exact ⟨0, N0, N1, N2, a1, n1, c1, a2, n2, c2, bl, Nat.zero_le _, rfl, hx4.out, hn4.out, hl4.out, hb04.out⟩
        case round =>
          obtain ⟨j, M0, M1, M2, B1, m1, d1, B2, m2, d2, bl2, hj, rfl, hx5, hn5, hl5, hb5⟩ := hrel
          have hxlt : X < wr.heap.size := hx5.lt
          by_cases hjk : j < k
          · have hjl : j < l.length := by rw [← hme.out]; exact hjk
            have hjn : j < ns.length := by rw [hnl.out]; exact hjk
            obtain ⟨x, hx⟩ : ∃ x, x = l[j] := ⟨_, rfl⟩
            have hcx : wr.cell? ⟨b, o + j, none⟩ = some (.int .u8 (x.toNat : Int)) := by
              rw [hx]; exact (hb5.cell (cell_lt (hcell.out j hjl))).trans (hcell.out j hjl)
            have hnx : ns[j] = chU x := by
              have h0 := hns.out
              subst h0
              rw [List.getElem_map, hx]
            rw [List.drop_eq_getElem_cons hjn, hnx] at hn5
            obtain ⟨g, cap, us, bl', a1', n1', c1', hvs, hnk, hus, hglt, hgm, hblm⟩ := nest_cons hn5
            obtain ⟨P0, P1, P2, A1, p1, q1, A2, p2, q2, rfl⟩ := nest_shape hnk
            injection hvs with _ hvs
            injection hvs with hv1 hvs
            injection hvs with _ hvs
            injection hvs with _ hvs
            injection hvs with hv4 _
            injection hv1 with hv1
            injection hv4 with v4 v5 v6
            subst hv1 v4 v5 v6
            have hgX : g ≠ X := (hl5 g hgm).1
            have hXg : ¬ X = g := fun e => hgX e.symm
            have hg0 := hus 0 (by omega)
            have hg1 := hus 1 (by omega)
            have hg2 := hus 2 (by omega)
            have hg3 := hus 3 (by omega)
            have hg4 := hus 4 (by omega)
            have x0 := hx5.cell 0
            have x1 := hx5.cell 1
            have x2 := hx5.cell 2
            have x3 := hx5.cell 3
            have x4 := hx5.cell 4
            have y0 := hx5.frozen 0
            have y1 := hx5.frozen 1
            have y2 := hx5.frozen 2
            have y3 := hx5.frozen 3
            have y4 := hx5.frozen 4
            have hcw : (convert 22 9 (.slice (some ⟨wr.heap.size, 0, none⟩) 1 1)).run Tryd.prog ((wr.alloc (.cells #[.int .u8 (97 + (x.toNat : Int) % 26)] 5)).drew) = .ok (.string ⟨#[chU x]⟩) ((wr.alloc (.cells #[.int .u8 (97 + (x.toNat : Int) % 26)] 5)).drew) := by
              refine conv_at _ wr.heap.size 0 1 (chU x) ?_
              have e : ((chU x).toNat : Int) = 97 + (x.toNat : Int) % 26 := by rw [chU_nat]; omega
              rw [e]
              show (wr.alloc (.cells #[.int .u8 (97 + (x.toNat : Int) % 26)] 5)).cell? _ = _
              rw [World.cell?_alloc_new]; rfl
            have hx8 := x.toNat_lt
            replace hx5 := Lib.hid hx5
            replace hn5 := Lib.hid hn5
            replace hl5 := Lib.hid hl5
            replace hb5 := Lib.hid hb5
            replace hnk := Lib.hid hnk
            replace hus := Lib.hid hus
            replace hx := Lib.hid hx
            replace hnx := Lib.hid hnx
            go_wp2
            go_region
            go_wp2
            go_roundw
            case rel =>
              refine ⟨j + 1, P0, P1, P2, A1, p1, q1, A2, p2, q2, bl', by omega, by go_num, ?_, ?_, ?_, ?_⟩
              · exact (((((((hx5.out.set_ 0 _).set_ 1 _).set_ 2 _).set_ 3 _).set_ 4 _).alloc _).drew :)
              · refine hnk.out.keep fun i hi => ?_
                have := hl5.out i (hblm i hi)
                exact (Below.heap_alloc _ _ i (Nat.lt_of_lt_of_le this.2 (put5_save wr X (.string P0) (.string P1) (.string P2) (.slice A1 p1 q1) (.slice A2 p2 q2)).size)).trans ((put5_save wr X (.string P0) (.string P1) (.string P2) (.slice A1 p1 q1) (.slice A2 p2 q2)).block i this.2 this.1)
              · intro i hi
                have := hl5.out i (hblm i hi)
                exact ⟨this.1, Nat.lt_of_lt_of_le this.2 (by simp)⟩
              · exact (((hb5.out.trans ((put5_save wr X (.string P0) (.string P1) (.string P2) (.slice A1 p1 q1) (.slice A2 p2 q2)).below hX0 hb5.out.size)).alloc (Nat.le_trans hb5.out.size (put5_save wr X (.string P0) (.string P1) (.string P2) (.slice A1 p1 q1) (.slice A2 p2 q2)).size) _).drew :)
            case measure => simp [RowKit.intOf]; omega
          · obtain rfl : j = k := by omega
            have hd : ns.drop j = [] := by rw [← hnl.out]; exact List.drop_length
            rw [hd] at hn5
            have hvs := nest_nil hn5
            injection hvs with _ hvs
            injection hvs with hv1 hvs
            injection hvs with hv2 _
            injection hv1 with hv1
            injection hv2 with hv2
            subst hv1 hv2
            have x1 := hx5.cell 1
            have x2 := hx5.cell 2
            replace hx5 := Lib.hid hx5
            replace hn5 := Lib.hid hn5
            replace hl5 := Lib.hid hl5
            replace hb5 := Lib.hid hb5
            go_wp2
            go_ret
            exact ⟨rfl, hb5.out⟩
end Go.Proofs.YtgomlebemefdcaaDoor

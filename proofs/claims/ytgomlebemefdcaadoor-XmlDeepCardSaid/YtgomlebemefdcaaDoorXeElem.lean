/- The reader reads an element. No condition. -/
import Derived.Test.YtgomlebemefdcaaDoorXeMark
set_option linter.unusedVariables false
namespace Go.Proofs.YtgomlebemefdcaaDoor
open Go Go.RowKit Go.Wk Go.Xt Go.Xe
theorem RS.same {w : World} {L R c p many : Nat} {A : Option Addr} {bs : List UInt8} (h : RS w L R A c bs p many) : RS (w.setCell ⟨R, 2, none⟩ (.slice none 0 0)) L R A c bs p many := by
  have hc := h.cur
  have hne : ∀ o, (⟨R, 2, none⟩ : Addr) ≠ ⟨L, o, none⟩ := fun o e => h.ne (by cases e; rfl)
  refine ⟨⟨hc.ne, Save.refl _ _, ?_, ?_, ?_, ⟨hc.byt.1, fun h0 => ?_⟩, hc.le, hc.small⟩, h.rdr.set_ 2 _, h.ne, h.neA, h.cap⟩
  · rw [World.cell?_setCell_other _ _ _ _ (hne 0)]; exact hc.cb
  · rw [World.cell?_setCell_other _ _ _ _ (hne 1)]; exact hc.ca
  · rw [World.frozen?_setCell]; exact hc.fr
  · obtain ⟨b, o, rfl, hcell⟩ := hc.byt.2 h0
    have hb : b ≠ R := h.neA h0 _ rfl
    refine ⟨b, o, rfl, fun i hi => ?_⟩
    rw [World.cell?_setCell_other _ _ _ _ (fun e => hb (congrArg Addr.block e).symm)]
    exact hcell i hi
theorem Fr.bump2 {L R : Nat} (w : World) (u : Value) : Fr L R w (w.setCell ⟨R, 2, none⟩ u) := (Fr.refl L R w).store 2 u
abbrev z5 : Array Value := #[.string ⟨#[]⟩, .string ⟨#[]⟩, .string ⟨#[]⟩, .slice none 0 0, .slice none 0 0]
/-- five cells written, a block laid behind -/
def put5 (W : World) (g : Nat) (v0 v1 v2 v3 v4 : Value) : World := ((((W.setCell ⟨g, 0, none⟩ v0).setCell ⟨g, 1, none⟩ v1).setCell ⟨g, 2, none⟩ v2).setCell ⟨g, 3, none⟩ v3).setCell ⟨g, 4, none⟩ v4
theorem put5_save (W : World) (g : Nat) (v0 v1 v2 v3 v4 : Value) : Save g W (put5 W g v0 v1 v2 v3 v4) := (((((Save.refl g W).store 0 v0).store 1 v1).store 2 v2).store 3 v3).store 4 v4
theorem put5_blk {W : World} {g : Nat} {t : TypeId} {u0 u1 u2 u3 u4 : Value} (h : Blk W g t #[u0, u1, u2, u3, u4]) (v0 v1 v2 v3 v4 : Value) : Blk (put5 W g v0 v1 v2 v3 v4) g t #[v0, v1, v2, v3, v4] := ((((h.set_ 0 v0).set_ 1 v1).set_ 2 v2).set_ 3 v3).set_ 4 v4
set_option maxHeartbeats 4000000 in
set_option maxRecDepth 100000 in
theorem xml_elem_shut {w : World} {L R c p m d : Nat} {A : Option Addr} {bs r r' nm : List UInt8} {l : List (List UInt8 × List UInt8)} (hd : d ≤ 900) (h : RS w L R A c bs p m) (hr : Rest bs p r) (hm : m < 4000) (hM : Xe.Mark r nm l true r') :
    Calls Tryd.prog 40 #[.pointer (some ⟨R, 0, none⟩), .int .i64 ((d : Int) + 1)] w (ElemR w L R A c bs (.el nm l []) (m + 1) r') := by
  have hb0 : Below w.heap.size w (w.alloc (.cells z5 27)) := (Below.refl _ _).alloc (Nat.le_refl _) _
  have h0 := h.below hb0
  have hnew := Blk.new w 27 z5
  have hRlt := h.rdr.lt
  have hLlt := h.cur.L_lt
  have hAlt := Lib.hid h.A_lt
  obtain ⟨N, hN⟩ : ∃ N : ByteArray, (⟨nm.toArray⟩ : ByteArray) = N := ⟨_, rfl⟩
  have hdi : (((d + 1 : Nat) : Int)) = (d : Int) + 1 := by omega
  have cm := xml_mark (d + 1) (by omega) (by omega) hm h0 hr hM
  rw [hN, hdi] at cm
  have c02 := h0.rdr.cell 2
  replace hN := Lib.hid hN
  replace h0 := Lib.hid h0
  replace hb0 := Lib.hid hb0
  replace hnew := Lib.hid hnew
  clear h hr hM hdi
  go_enter Tryd.func40, Tryd.ntmps40
  go_wp2_with (go_at_call 51; (with_reducible refine cm.mono ?_); rintro e w1 ⟨a1, n1, c1, ba, rfl, hA, hba, ⟨⟨q1, h1, hq1⟩, f1⟩⟩; have hz4 : Blk w1 w.heap.size 27 z5 := (f1.block w.heap.size (by simp) (by omega) (by omega)).trans hnew.out; have hbn : Below w1.heap.size w1 (w1.alloc (.cells #[.string ⟨#[]⟩, .string N, .string ⟨#[]⟩, .slice a1 n1 c1, .slice none 0 0] 27)) := (Below.refl _ _).alloc (Nat.le_refl _) _; have h11 := h1.below hbn; have c21 := h1.rdr.cell 2; have f21 := h1.rdr.frozen 2; have hR1 : R < w1.heap.size := h1.rdr.lt; have hg4 : w.heap.size < w1.heap.size := hz4.lt; have a0 := hz4.cell 0; have a1' := hz4.cell 1; have a2 := hz4.cell 2; have a3 := hz4.cell 3; have a4 := hz4.cell 4; have y0 := hz4.frozen 0; have y1 := hz4.frozen 1; have y2 := hz4.frozen 2; have y3 := hz4.frozen 3; have y4 := hz4.frozen 4; replace h11 := Lib.hid h11; replace hbn := Lib.hid hbn; replace h1 := Lib.hid h1; replace hz4 := Lib.hid hz4; replace hA := Lib.hid hA; replace hba := Lib.hid hba; replace hq1 := Lib.hid hq1; replace f1 := Lib.hid f1)
  obtain ⟨g4, hg⟩ : ∃ g, g = w.heap.size := ⟨_, rfl⟩
  have hzR : Blk (w1.setCell ⟨R, 2, none⟩ (.slice none 0 0)) w.heap.size 27 z5 := hz4.out.far (by show w.heap.size ≠ R; omega) _
  have hV := put5_blk hzR (.string ⟨#[]⟩) (.string N) (.string ⟨#[]⟩) (.slice a1 n1 c1) (.slice none 0 0)
  have hS := put5_save (w1.setCell ⟨R, 2, none⟩ (.slice none 0 0)) w.heap.size (.string ⟨#[]⟩) (.string N) (.string ⟨#[]⟩) (.slice a1 n1 c1) (.slice none 0 0)
  have hR2 := h1.out.same
  have hSR : Save R w1 (w1.setCell ⟨R, 2, none⟩ (.slice none 0 0)) := (Save.refl R w1).store 2 _
  unfold put5 at hV hS
  obtain ⟨U, hU⟩ : ∃ U, U = (((((w1.setCell ⟨R, 2, none⟩ (.slice none 0 0)).setCell ⟨w.heap.size, 0, none⟩ (.string ⟨#[]⟩)).setCell ⟨w.heap.size, 1, none⟩ (.string N)).setCell ⟨w.heap.size, 2, none⟩ (.string ⟨#[]⟩)).setCell ⟨w.heap.size, 3, none⟩ (.slice a1 n1 c1)).setCell ⟨w.heap.size, 4, none⟩ (.slice none 0 0) := ⟨_, rfl⟩
  rw [← hU] at hV hS ⊢
  have hbU : Below U.heap.size U (U.alloc (.cells #[.string ⟨#[]⟩, .string N, .string ⟨#[]⟩, .slice a1 n1 c1, .slice none 0 0] 27)) := (Below.refl _ _).alloc (Nat.le_refl _) _
  have hV2 := hV.alloc (.cells #[.string ⟨#[]⟩, .string N, .string ⟨#[]⟩, .slice a1 n1 c1, .slice none 0 0] 27)
  generalize (U.alloc (.cells #[.string ⟨#[]⟩, .string N, .string ⟨#[]⟩, .slice a1 n1 c1, .slice none 0 0] 27)) = V at *
  have r0 := hV2.cell 0
  have r1 := hV2.cell 1
  have r2 := hV2.cell 2
  have r3 := hV2.cell 3
  have r4 := hV2.cell 4
  have hSV : Save w.heap.size (w1.setCell ⟨R, 2, none⟩ (.slice none 0 0)) V := hS.trans (Save.of_below hbU)
  have hsz2 : (w1.setCell ⟨R, 2, none⟩ (.slice none 0 0)).heap.size = w1.heap.size := by simp [World.setCell]
  have hkeep : ∀ k, k < w1.heap.size → k ≠ R → k ≠ w.heap.size → V.heap[k]? = w1.heap[k]? := fun k h1 h2 h3 => (hSV.block k (by rw [hsz2]; exact h1) h3).trans (hSR.block k h1 h2)
  have hN2 : str nm = .string N := by rw [← hN.out]; rfl
  have hsw : (w.alloc (.cells z5 27)).heap.size = w.heap.size + 1 := World.size_alloc _ _
  refine bodyPost_ret (v := .tuple #[.agg #[.string ⟨#[]⟩, .string N, .string ⟨#[]⟩, .slice a1 n1 c1, .slice none 0 0], .int .i64 0]) (by simp [results, Tryd.results40, go_sem, r0, r1, r2, r3, r4]) rfl ⟨N, a1, n1, c1, none, 0, 0, ba ++ [], rfl, ?_, ?_, ⟨q1, ?_, hq1.out⟩, ?_⟩
  · rw [← hN2]
    exact .el nm l [] _ _ ba [] (hA.out.keep fun k hk => hkeep k (hba.out k hk).2 (by have := (hba.out k hk).1; omega) (by have := (hba.out k hk).1; omega)) .nil
  · intro k hk
    rw [List.append_nil] at hk
    have := hba.out k hk
    have := hSV.size
    omega
  · exact hR2.belowB (hSV.below (Nat.le_refl _) (by omega)) hLlt hRlt hAlt.out
  · exact ((Fr.of_below hb0.out).trans (f1.out.trans (Fr.bump2 w1 (.slice none 0 0)))).tail (hSV.below (Nat.le_refl _) (by omega))
set_option maxHeartbeats 8000000 in
set_option maxRecDepth 100000 in
theorem xml_elem_open {w : World} {L R c p m m2 d : Nat} {A : Option Addr} {bs r r1 r2 r3 r' nm : List UInt8} {l : List (List UInt8 × List UInt8)} {ks : List Nd} (hd : d ≤ 900) (hE : ElemC L R A c bs d) (h : RS w L R A c bs p m) (hr : Rest bs p r) (hm : m < 4000) (hM : Xe.Mark r nm l false r1)
    (hK : Cont (d + 1) (m + 1) [] r1 ks m2 r2) (hn : nameS r2 = nm) (hne : nm ≠ []) (hdr : r2.drop nm.length = r3) (hno : ¬ [58] <+: r3) (hend : r3.drop (ws r3) = 62 :: r') :
    Calls Tryd.prog 40 #[.pointer (some ⟨R, 0, none⟩), .int .i64 ((d : Int) + 1)] w (ElemR w L R A c bs (.el nm l ks) m2 r') := by
  have hb0 : Below w.heap.size w (w.alloc (.cells z5 27)) := (Below.refl _ _).alloc (Nat.le_refl _) _
  have h0 := h.below hb0
  have hnew := Blk.new w 27 z5
  have hRlt := h.rdr.lt
  have hLlt := h.cur.L_lt
  have hAlt := Lib.hid h.A_lt
  obtain ⟨N, hN⟩ : ∃ N : ByteArray, (⟨nm.toArray⟩ : ByteArray) = N := ⟨_, rfl⟩
  have hN2 : str nm = .string N := by rw [← hN]; rfl
  have hdi : (((d + 1 : Nat) : Int)) = (d : Int) + 1 := by omega
  have cm := xml_mark (d + 1) (by omega) (by omega) hm h0 hr hM
  rw [hN, hdi] at cm
  have c02 := h0.rdr.cell 2
  have cc : ∀ W q, RS W L R A c bs q (m + 1) → Rest bs q r1 → Calls Tryd.prog 52 #[.pointer (some ⟨R, 0, none⟩), .int .i64 ((d : Int) + 1)] W (ContR W L R A c bs ks m2 r2) := fun W q hW hq => xml_content (by omega) hE hW hq hK
  have cf : ∀ W q, RS W L R A c bs q m2 → Rest bs q r2 → Calls Tryd.prog 53 #[.pointer (some ⟨R, 0, none⟩)] W fun e w' => e = .returned (.tuple #[.string ⟨#[]⟩, .string N, .int .i64 0]) ∧ End W L R A c bs m2 r3 w' := fun W q hW hq => by
    have := xml_full hW hq hn hne (by rw [hdr]; exact hno)
    rw [hdr, hN2] at this
    exact this
  have cb : ∀ W q, RS W L R A c bs q m2 → Rest bs q r3 → Calls Tryd.prog 49 #[.pointer (some ⟨R, 0, none⟩)] W fun e w' => e = .returned (.int .i64 (ws r3 : Nat)) ∧ RS w' L R A c bs (q + ws r3) m2 ∧ Fr L R W w' := fun W q hW hq => xml_blank hW hq.eq
  have cg : ∀ W q, RS W L R A c bs q m2 → Rest bs q (62 :: r') → Calls Tryd.prog 54 #[.pointer (some ⟨L, 0, none⟩), .string ⟨#[62]⟩] W fun e w' => e = .returned (.bool true) ∧ RS w' L R A c bs (q + 1) m2 ∧ Fr L R W w' := fun W q hW hq => rs_yes hW ⟨#[62]⟩ r' (by decide) (by decide) hq.eq
  have hws : ∀ q, Rest bs q r3 → Rest bs (q + ws r3) (62 :: r') := fun q h => by rw [← hend]; exact h.ws_
  replace hN := Lib.hid hN
  replace hN2 := Lib.hid hN2
  replace h0 := Lib.hid h0
  replace hb0 := Lib.hid hb0
  replace hnew := Lib.hid hnew
  replace cc := Lib.hid cc
  replace cf := Lib.hid cf
  replace cb := Lib.hid cb
  replace cg := Lib.hid cg
  replace hws := Lib.hid hws
  clear h hr hM hdi hK hn hne hdr hno hend hE
  generalize ws r3 = nw at *
  go_enter Tryd.func40, Tryd.ntmps40
  go_wp2_with (first
    | (go_at_call 51; (with_reducible refine cm.mono ?_); rintro e w1 ⟨a1, n1, c1, ba, rfl, hA, hba, ⟨⟨q1, h1, hq1⟩, f1⟩⟩; have hz4 : Blk w1 w.heap.size 27 z5 := (f1.block w.heap.size (by simp) (by omega) (by omega)).trans hnew.out; have hbn : Below w1.heap.size w1 (w1.alloc (.cells #[.string ⟨#[]⟩, .string N, .string ⟨#[]⟩, .slice a1 n1 c1, .slice none 0 0] 27)) := (Below.refl _ _).alloc (Nat.le_refl _) _; have hzb := Blk.new w1 27 #[.string ⟨#[]⟩, .string N, .string ⟨#[]⟩, .slice a1 n1 c1, .slice none 0 0]; have hsb : (w1.alloc (.cells #[.string ⟨#[]⟩, .string N, .string ⟨#[]⟩, .slice a1 n1 c1, .slice none 0 0] 27)).heap.size = w1.heap.size + 1 := World.size_alloc _ _; have h11 := h1.below hbn; have hz44 := hz4.alloc (.cells #[.string ⟨#[]⟩, .string N, .string ⟨#[]⟩, .slice a1 n1 c1, .slice none 0 0] 27); have kc := cc.out _ q1 h11 hq1; have hR1 : R < w1.heap.size := h1.rdr.lt; have hL1 : L < w1.heap.size := h1.cur.L_lt; have hg4 : w.heap.size < w1.heap.size := hz4.lt; replace h11 := Lib.hid h11; replace hbn := Lib.hid hbn; replace h1 := Lib.hid h1; replace hz4 := Lib.hid hz4; replace hz44 := Lib.hid hz44; replace hzb := Lib.hid hzb; replace hsb := Lib.hid hsb; replace hA := Lib.hid hA; replace hba := Lib.hid hba; replace hq1 := Lib.hid hq1; replace f1 := Lib.hid f1)
    | (go_at_call 52; (with_reducible refine kc.mono ?_); rintro e w2 ⟨a5, n5, cp5, bk, rfl, hks, hbk, ⟨⟨q2, h2, hq2⟩, f2⟩⟩; have hzb2 : Blk w2 w1.heap.size 27 #[.string ⟨#[]⟩, .string N, .string ⟨#[]⟩, .slice a1 n1 c1, .slice none 0 0] := (f2.block w1.heap.size (by rw [hsb.out]; omega) (by omega) (by omega)).trans hzb.out; have hz42 : Blk w2 w.heap.size 27 z5 := (f2.block w.heap.size (by rw [hsb.out]; omega) (by omega) (by omega)).trans hz44.out; have b4 := hzb2.cell 4; have b4f := hzb2.frozen 4; have hB2 : Below w.heap.size w2 (w2.setCell ⟨w1.heap.size, 4, none⟩ (.slice a5 n5 cp5)) := (Below.refl w.heap.size w2).setCell (p := ⟨w1.heap.size, 4, none⟩) (Nat.le_of_lt hg4) _; have h22 := h2.belowB hB2 hLlt hRlt hAlt.out; have kf := cf.out _ q2 h22 hq2; have hzb3 := hzb2.set_ 4 (.slice a5 n5 cp5); have hz43 : Blk (w2.setCell ⟨w1.heap.size, 4, none⟩ (.slice a5 n5 cp5)) w.heap.size 27 z5 := hz42.far (by show w.heap.size ≠ w1.heap.size; omega) _; have hlt2 : w1.heap.size < (w2.setCell ⟨w1.heap.size, 4, none⟩ (.slice a5 n5 cp5)).heap.size := hzb3.lt; replace h2 := Lib.hid h2; replace h22 := Lib.hid h22; replace hq2 := Lib.hid hq2; replace f2 := Lib.hid f2; replace hks := Lib.hid hks; replace hbk := Lib.hid hbk; replace hzb2 := Lib.hid hzb2; replace hz42 := Lib.hid hz42; replace hzb3 := Lib.hid hzb3; replace hz43 := Lib.hid hz43; replace hB2 := Lib.hid hB2; replace hlt2 := Lib.hid hlt2)
    | (go_at_call 53; (with_reducible refine kf.mono ?_); rintro e w3 ⟨rfl, ⟨⟨q3, h3, hq3⟩, f3⟩⟩; have kb := cb.out w3 q3 h3 hq3; have hq4 := hws.out q3 hq3; replace h3 := Lib.hid h3; replace hq3 := Lib.hid hq3; replace f3 := Lib.hid f3; replace hq4 := Lib.hid hq4)
    | (go_at_call 49; (with_reducible refine kb.mono ?_); rintro e w4 ⟨rfl, h4, f4⟩; have kg := cg.out w4 _ h4 hq4.out; have c40 := h4.rdr.cell 0; replace h4 := Lib.hid h4; replace f4 := Lib.hid f4)
    | (go_at_call 54; (with_reducible refine kg.mono ?_); rintro e w5 ⟨rfl, h5, f5⟩; have F5 := f3.out.trans (f4.out.trans f5); have hz45 : Blk w5 w.heap.size 27 z5 := (F5.block w.heap.size (by have := hlt2.out; omega) (by omega) (by omega)).trans hz43.out; have hzb5 : Blk w5 w1.heap.size 27 #[.string ⟨#[]⟩, .string N, .string ⟨#[]⟩, .slice a1 n1 c1, .slice a5 n5 cp5] := (F5.block w1.heap.size hlt2.out (by omega) (by omega)).trans hzb3.out; have c52 := h5.rdr.cell 2; have c52f := h5.rdr.frozen 2; have e0 := hzb5.cell 0; have e1 := hzb5.cell 1; have e2 := hzb5.cell 2; have e3 := hzb5.cell 3; have e4 := hzb5.cell 4; have a0 := hz45.cell 0; have a1' := hz45.cell 1; have a2 := hz45.cell 2; have a3 := hz45.cell 3; have a4 := hz45.cell 4; have y0 := hz45.frozen 0; have y1 := hz45.frozen 1; have y2 := hz45.frozen 2; have y3 := hz45.frozen 3; have y4 := hz45.frozen 4; replace F5 := Lib.hid F5; replace h5 := Lib.hid h5; replace hz45 := Lib.hid hz45; replace hzb5 := Lib.hid hzb5; replace f5 := Lib.hid f5))
  have hzR : Blk (w5.setCell ⟨R, 2, none⟩ (.slice none 0 0)) w.heap.size 27 z5 := hz45.out.far (by show w.heap.size ≠ R; omega) _
  have hV := put5_blk hzR (.string ⟨#[]⟩) (.string N) (.string ⟨#[]⟩) (.slice a1 n1 c1) (.slice a5 n5 cp5)
  have hSV := put5_save (w5.setCell ⟨R, 2, none⟩ (.slice none 0 0)) w.heap.size (.string ⟨#[]⟩) (.string N) (.string ⟨#[]⟩) (.slice a1 n1 c1) (.slice a5 n5 cp5)
  have hR2 := h5.out.same
  have hSR : Save R w5 (w5.setCell ⟨R, 2, none⟩ (.slice none 0 0)) := (Save.refl R w5).store 2 _
  unfold put5 at hV hSV
  obtain ⟨V, hU⟩ : ∃ U, U = (((((w5.setCell ⟨R, 2, none⟩ (.slice none 0 0)).setCell ⟨w.heap.size, 0, none⟩ (.string ⟨#[]⟩)).setCell ⟨w.heap.size, 1, none⟩ (.string N)).setCell ⟨w.heap.size, 2, none⟩ (.string ⟨#[]⟩)).setCell ⟨w.heap.size, 3, none⟩ (.slice a1 n1 c1)).setCell ⟨w.heap.size, 4, none⟩ (.slice a5 n5 cp5) := ⟨_, rfl⟩
  rw [← hU] at hV hSV ⊢
  have r0 := hV.cell 0
  have r1 := hV.cell 1
  have r2 := hV.cell 2
  have r3 := hV.cell 3
  have r4 := hV.cell 4
  have hsz5 : (w5.setCell ⟨R, 2, none⟩ (.slice none 0 0)).heap.size = w5.heap.size := by simp [World.setCell]
  have k5 : ∀ k, k < w5.heap.size → k ≠ R → k ≠ w.heap.size → V.heap[k]? = w5.heap[k]? := fun k h1 h2 h3 => (hSV.block k (by rw [hsz5]; exact h1) h3).trans (hSR.block k h1 h2)
  have hsz2 : (w2.setCell ⟨w1.heap.size, 4, none⟩ (.slice a5 n5 cp5)).heap.size = w2.heap.size := by simp [World.setCell]
  have z25 := F5.out.size
  rw [hsz2] at z25
  have k2 : ∀ k, k < w2.heap.size → k ≠ L → k ≠ R → k ≠ w.heap.size → k ≠ w1.heap.size → V.heap[k]? = w2.heap[k]? := fun k h1 h2 h3 h4 h5 =>
    (k5 k (by omega) h3 h4).trans ((F5.out.block k (by rw [hsz2]; exact h1) h2 h3).trans (Below.heap_setCell _ _ _ _ h5))
  have z12 := f2.out.size
  rw [hsb.out] at z12
  have k1 : ∀ k, k < w1.heap.size → k ≠ L → k ≠ R → k ≠ w.heap.size → V.heap[k]? = w1.heap[k]? := fun k h1 h2 h3 h4 =>
    (k2 k (by omega) h2 h3 h4 (by omega)).trans ((f2.out.block k (by rw [hsb.out]; omega) h2 h3).trans (hbn.out.block k h1))
  have hsw : (w.alloc (.cells z5 27)).heap.size = w.heap.size + 1 := World.size_alloc _ _
  have z5V := hSV.size
  rw [hsz5] at z5V
  refine bodyPost_ret (v := .tuple #[.agg #[.string ⟨#[]⟩, .string N, .string ⟨#[]⟩, .slice a1 n1 c1, .slice a5 n5 cp5], .int .i64 0]) (by simp [results, Tryd.results40, go_sem, r0, r1, r2, r3, r4]) rfl ⟨N, a1, n1, c1, a5, n5, cp5, ba ++ bk, rfl, ?_, ?_, ⟨_, ?_, hq4.out.app (s := [62])⟩, ?_⟩
  · rw [← hN2.out]
    refine .el nm l ks _ _ ba bk (hA.out.keep fun k hk => ?_) (KsAt.keep hks.out fun k hk => ?_)
    · have := hba.out k hk
      exact k1 k this.2 (by omega) (by omega) (by omega)
    · have := hbk.out k hk
      rw [hsb.out] at this
      exact k2 k this.2 (by omega) (by omega) (by omega) (by omega)
  · intro k hk
    rcases List.mem_append.1 hk with hk | hk
    · have := hba.out k hk
      omega
    · have := hbk.out k hk
      rw [hsb.out] at this
      omega
  · exact hR2.belowB (hSV.below (Nat.le_refl _) (by rw [hsz5]; omega)) hLlt hRlt hAlt.out
  · exact (((((Fr.of_below hb0.out).trans f1.out).trans ((Fr.of_below hbn.out).trans f2.out)).tail hB2.out).trans (F5.out.trans (Fr.bump2 w5 (.slice none 0 0)))).tail (hSV.below (Nat.le_refl _) (by rw [hsz5]; omega))
theorem mark_ne {r r' nm : List UInt8} {l : List (List UInt8 × List UInt8)} {cl : Bool} : Xe.Mark r nm l cl r' → nm ≠ []
  | .open _ _ _ _ _ _ h _ _ _ => h
  | .shut _ _ _ _ _ _ h _ _ _ => h
theorem xml_element {L R c : Nat} {A : Option Addr} {bs : List UInt8} : ∀ d, d ≤ 900 → ElemC L R A c bs d := by
  intro d
  induction d with
  | zero =>
    intro _ w p m r n m2 r' _ _ hE
    cases hE
  | succ d ih =>
    intro hd w p m r n m2 r' hS hr hE
    have hdi : (((d + 1 : Nat) : Int)) = (d : Int) + 1 := by omega
    rw [hdi]
    match hE with
    | .shut _ _ _ nm l r1 hm hM => exact xml_elem_shut (by omega) hS hr hm hM
    | .open _ _ _ _ nm l r1 ks r2 r3 r4 hm hM hC hn hdr hno hend =>
      exact xml_elem_open (by omega) (ih (by omega)) hS hr hm hM hC hn (mark_ne hM) hdr hno hend
end Go.Proofs.YtgomlebemefdcaaDoor

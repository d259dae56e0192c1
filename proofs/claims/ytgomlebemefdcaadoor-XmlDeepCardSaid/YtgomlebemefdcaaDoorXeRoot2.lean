/- The root: a walk over any answer of the reader. No condition. -/
import Derived.Test.YtgomlebemefdcaaDoorXeRoot
import Derived.Deep.DeepCutAuto
set_option linter.unusedVariables false
namespace Go.Proofs.YtgomlebemefdcaaDoor
open Go Go.RowKit Go.Wk Go.Xt Go.Xe
theorem RS.stored {w : World} {L R c p : Nat} {A : Option Addr} {bs : List UInt8} (h : RS w L R A c bs p 0) :
    RS ((w.setCell ⟨R, 1, none⟩ (.int .i64 0)).setCell ⟨R, 2, none⟩ (.slice none 0 0)) L R A c bs p 0 ∧ Fr L R w ((w.setCell ⟨R, 1, none⟩ (.int .i64 0)).setCell ⟨R, 2, none⟩ (.slice none 0 0)) := by
  have hc := h.cur
  have hn := h.ne
  have hF : Fr L R w ((w.setCell ⟨R, 1, none⟩ (.int .i64 0)).setCell ⟨R, 2, none⟩ (.slice none 0 0)) := ((Fr.refl L R w).store 1 _).store 2 _
  have e1 : ∀ q, ((w.setCell ⟨R, 1, none⟩ (.int .i64 0)).setCell ⟨R, 2, none⟩ (.slice none 0 0)).cell? ⟨L, q, none⟩ = w.cell? ⟨L, q, none⟩ := fun q => by
    rw [World.cell?_setCell_other _ _ _ _ (by intro e; apply hn; injection e with e1 _; exact e1.symm), World.cell?_setCell_other _ _ _ _ (by intro e; apply hn; injection e with e1 _; exact e1.symm)]
  refine ⟨⟨⟨hc.ne, Save.refl _ _, (e1 0).trans hc.cb, (e1 1).trans hc.ca, by simp [hc.fr], ?_, hc.le, hc.small⟩, (h.rdr.set_ 1 (.int .i64 0)).set_ 2 (.slice none 0 0), hn, h.neA, h.cap⟩, hF⟩
  refine ⟨hc.byt.1, fun h0 => ?_⟩
  obtain ⟨b, o, e, hcell⟩ := hc.byt.2 h0
  have hne := h.neA h0 _ e
  refine ⟨b, o, e, fun i hi => ?_⟩
  rw [World.cell?_setCell_other _ _ _ _ (by intro e; apply hne; injection e with e1 _; exact e1.symm), World.cell?_setCell_other _ _ _ _ (by intro e; apply hne; injection e with e1 _; exact e1.symm)]
  exact hcell i hi
def AllOf (L R : Nat) (P : World → World → Array Value → Int → Prop) (W : World) (e : Ending) (w' : World) : Prop :=
  ∃ (N0 N1 N2 : ByteArray) (a1 : Option Addr) (n1 c1 : Nat) (a2 : Option Addr) (n2 c2 : Nat) (k : Int), e = .returned (.tuple #[.agg #[.string N0, .string N1, .string N2, .slice a1 n1 c1, .slice a2 n2 c2], .int .i64 k]) ∧ Fr L R W w' ∧ P W w' #[.string N0, .string N1, .string N2, .slice a1 n1 c1, .slice a2 n2 c2] k ∧ (k ≠ 0 → #[.string N0, .string N1, .string N2, .slice a1 n1 c1, .slice a2 n2 c2] = z5)
def RootOf (L R : Nat) (P : World → World → Array Value → Int → Prop) (w : World) (e : Ending) (w' : World) : Prop :=
  ∃ (N0 N1 N2 : ByteArray) (a1 : Option Addr) (n1 c1 : Nat) (a2 : Option Addr) (n2 c2 : Nat) (k : Int) (W W1 : World), e = .returned (.tuple #[.agg #[.string N0, .string N1, .string N2, .slice a1 n1 c1, .slice a2 n2 c2], .int .i64 k]) ∧ P W W1 #[.string N0, .string N1, .string N2, .slice a1 n1 c1, .slice a2 n2 c2] k ∧ Fr L R w W ∧ w.heap.size < W.heap.size ∧ Fr L R W W1 ∧ Save w.heap.size W1 w'
set_option maxHeartbeats 4000000 in
set_option maxRecDepth 100000 in
theorem xml_Root {w : World} {L R c p : Nat} {A : Option Addr} {bs : List UInt8} {P : World → World → Array Value → Int → Prop} (h : RS w L R A c bs p 0) (hs : signsB bs = true) (hT : Lib.Utf8Tabs 0 1 w) (hL : 2 ≤ L) (hR : 2 ≤ R) (hne : bs ≠ [])
    (call : ∀ W, RS W L R A c bs 0 0 → Calls Tryd.prog 28 #[.pointer (some ⟨R, 0, none⟩)] W (AllOf L R P W)) :
    Calls Tryd.prog 17 #[.pointer (some ⟨R, 0, none⟩)] w (RootOf L R P w) := by
  have hb0 : Below w.heap.size w (w.alloc (.cells z5 27)) := (Below.refl _ _).alloc (Nat.le_refl _) _
  have h0 := h.below hb0
  have hnew := Blk.new w 27 z5
  have hRlt := h.rdr.lt
  have hLlt := h.cur.L_lt
  have hlen : 1 ≤ bs.length := List.length_pos_iff.2 hne
  have hsm := h.cur.small
  have c00 := h0.rdr.cell 0
  have k1 := cur_seek0 h0.cur
  have cS : ∀ W A' c', Byt W A' bs → Fr L R w W → Calls Tryd.prog 14 #[.slice A' bs.length c'] W fun e w' => e = .returned (.bool true) ∧ Below W.heap.size W w' := fun W A' c' hb hF => by
    rw [← hs]
    have := hF.size
    exact xml_Signs c' hb hsm (tabs_kept hT (hF.block 0 (by omega) (by omega) (by omega)) (hF.block 1 (by omega) (by omega) (by omega))) (by omega)
  obtain ⟨m, hm⟩ : ∃ m, m = bs.length := ⟨_, rfl⟩
  rw [← hm] at cS
  replace cS := Lib.hid cS
  replace call := Lib.hid call
  replace h0 := Lib.hid h0
  replace hb0 := Lib.hid hb0
  replace hnew := Lib.hid hnew
  replace hm := Lib.hid hm
  replace hsm := Lib.hid hsm
  replace hlen := Lib.hid hlen
  clear h hs hT hne
  go_enter Tryd.func17, Tryd.ntmps17
  go_upto_region 4 with (first
    | (go_at_call 25; (with_reducible refine k1.mono ?_); rintro e w1 ⟨rfl, h1⟩; obtain ⟨h2, f1⟩ := h0.out.cur_to h1; have c10 := h2.rdr.cell 0; replace h1 := Lib.hid h1; replace h2 := Lib.hid h2; replace f1 := Lib.hid f1))
  have cl : ∀ V, Below w1.heap.size w1 V → Calls Tryd.prog 27 #[.pointer (some ⟨L, 0, none⟩)] V fun e w' => e = .returned (.int .i64 m) ∧ V = w' := fun V hV => by rw [hm.out]; exact cur_len (h2.out.below hV).cur
  have ct : ∀ V, Below w1.heap.size w1 V → Calls Tryd.prog 26 #[.pointer (some ⟨L, 0, none⟩), .int .i64 m] V fun e w' => ∃ A' c', e = .returned (.tuple #[.slice A' m c', .bool true]) ∧ Byt w' A' bs ∧ RS w' L R A c bs m 0 ∧ Fr L R w1 w' := fun V hV => by
    have hm' := hm.out
    have hl' := hlen.out
    have hs' := hsm.out
    refine (cur_take m (h2.out.below hV).cur h2.out.cap (by omega) (by omega)).mono ?_
    rintro e w' ⟨A', c', rfl, hb, hc⟩
    have e1 : takeS bs 0 m = bs := by unfold takeS; rw [if_pos (by omega), hm']; simp
    have e2 : takeB bs 0 m = true := by unfold takeB; simp; omega
    rw [e1] at hb ⊢
    rw [e2] at hc ⊢
    rw [← hm'] at *
    simp only [if_true, Nat.zero_add] at hc
    obtain ⟨r1, r2⟩ := (h2.out.below hV).cur_to hc
    exact ⟨A', c', rfl, hb, r1, (Fr.of_below hV).trans r2⟩
  replace cl := Lib.hid cl
  replace ct := Lib.hid ct
  go_cut [4] (fun s4 wx => ∃ A' c', s4 = .slice A' m c' ∧ Byt wx A' bs ∧ RS wx L R A c bs m 0 ∧ Fr L R w1 wx)
  case first =>
    go_region_with (first
      | (go_at_call 27; refine (cl.out _ (by first | exact Below.refl _ _ | (repeat (first | exact Below.refl _ _ | refine Below.drew ?_)))).mono ?_; rintro e w' ⟨rfl, rfl⟩)
      | (go_at_call 26; refine (ct.out _ (by first | exact Below.refl _ _ | (repeat (first | exact Below.refl _ _ | refine Below.drew ?_)))).mono ?_; rintro e w' ⟨A', c', rfl, hb, hr, hf⟩; replace hb := Lib.hid hb; replace hr := Lib.hid hr; replace hf := Lib.hid hf))
    all_goals (go_wp2_with fail; go_meet; exact ⟨_, _, rfl, hb.out, hr.out, hf.out⟩)
  case rest =>
    obtain ⟨A', c', rfl, hb, hr, hf⟩ := hcut
    have cg := cS.out wc A' c' hb (((Fr.of_below hb0.out).trans f1.out).trans hf)
    have cr0 := hr.rdr.cell 0
    replace hb := Lib.hid hb
    replace hr := Lib.hid hr
    replace hf := Lib.hid hf
    go_upto_region 10 with (first
      | (go_at_call 14; (with_reducible refine cg.mono ?_); rintro e w3 ⟨rfl, hb3⟩; have h3 := hr.out.below hb3; have k3 := cur_seek0 h3.cur; have c30 := h3.rdr.cell 0; replace hb3 := Lib.hid hb3; replace h3 := Lib.hid h3)
      | (go_at_call 25; (with_reducible refine k3.mono ?_); rintro e w4 ⟨rfl, hs4⟩; obtain ⟨h4, f4⟩ := h3.out.cur_to hs4; obtain ⟨h5, f5⟩ := h4.stored; have k5 := call.out _ h5; have c40 := h4.rdr.cell 0; have c41 := h4.rdr.cell 1; have c42 := h4.rdr.cell 2; have y41 := h4.rdr.frozen 1; have y42 := h4.rdr.frozen 2; replace hs4 := Lib.hid hs4; replace h4 := Lib.hid h4; replace h5 := Lib.hid h5; replace f4 := Lib.hid f4; replace f5 := Lib.hid f5)
      | (go_at_call 28; (with_reducible refine k5.mono ?_); rintro e w5 ⟨N0, N1, N2, A1, n1, c1, A2, n2, c2, k, rfl, f6, hP, hk⟩; have F := ((((f1.out.trans hf.out).trans (Fr.of_below hb3.out)).trans f4.out).trans f5.out).trans f6; have hz : Blk w5 w.heap.size 27 z5 := (F.block w.heap.size (by simp) (by omega) (by omega)).trans hnew.out; have hg5 : w.heap.size < w5.heap.size := hz.lt; have a0 := hz.cell 0; have a1 := hz.cell 1; have a2 := hz.cell 2; have a3 := hz.cell 3; have a4 := hz.cell 4; have y0 := hz.frozen 0; have y1 := hz.frozen 1; have y2 := hz.frozen 2; have y3 := hz.frozen 3; have y4 := hz.frozen 4; replace hz := Lib.hid hz; replace F := Lib.hid F; replace f6 := Lib.hid f6; replace hP := Lib.hid hP; replace hk := Lib.hid hk))
    have hF := (⟨((((Fr.of_below hb0.out).trans f1.out).trans hf.out).trans (Fr.of_below hb3.out)).trans (f4.out.trans f5.out), Nat.lt_of_lt_of_le (by simp) ((((f1.out.trans hf.out).trans (Fr.of_below hb3.out)).trans (f4.out.trans f5.out)).size)⟩ : Fr L R w ((w4.setCell ⟨R, 1, none⟩ (.int .i64 0)).setCell ⟨R, 2, none⟩ (.slice none 0 0)) ∧ w.heap.size < ((w4.setCell ⟨R, 1, none⟩ (.int .i64 0)).setCell ⟨R, 2, none⟩ (.slice none 0 0)).heap.size)
    by_cases hk0 : k = 0
    · subst hk0
      go_wp2
      have hV := put5_blk hz.out (.string N0) (.string N1) (.string N2) (.slice A1 n1 c1) (.slice A2 n2 c2)
      have hSV := put5_save w5 w.heap.size (.string N0) (.string N1) (.string N2) (.slice A1 n1 c1) (.slice A2 n2 c2)
      unfold put5 at hV hSV
      obtain ⟨V, hU⟩ : ∃ U, U = (((((w5.setCell ⟨w.heap.size, 0, none⟩ (.string N0)).setCell ⟨w.heap.size, 1, none⟩ (.string N1)).setCell ⟨w.heap.size, 2, none⟩ (.string N2)).setCell ⟨w.heap.size, 3, none⟩ (.slice A1 n1 c1)).setCell ⟨w.heap.size, 4, none⟩ (.slice A2 n2 c2)) := ⟨_, rfl⟩
      rw [← hU] at hV hSV ⊢
      have hbU : Below V.heap.size V (V.alloc (.cells #[.string N0, .string N1, .string N2, .slice A1 n1 c1, .slice A2 n2 c2] 27)) := (Below.refl _ _).alloc (Nat.le_refl _) _
      have hV2 := hV.alloc (.cells #[.string N0, .string N1, .string N2, .slice A1 n1 c1, .slice A2 n2 c2] 27)
      have q0 := hV2.cell 0
      have q1 := hV2.cell 1
      have q2 := hV2.cell 2
      have q3 := hV2.cell 3
      have q4 := hV2.cell 4
      refine bodyPost_ret (v := .tuple #[.agg #[.string N0, .string N1, .string N2, .slice A1 n1 c1, .slice A2 n2 c2], .int .i64 0]) (by simp [results, Tryd.results17, go_sem, q0, q1, q2, q3, q4]) rfl ⟨N0, N1, N2, A1, n1, c1, A2, n2, c2, 0, _, w5, rfl, hP.out, hF.1, hF.2, f6.out, hSV.trans (Save.of_below hbU)⟩
    · have hkz := hk.out hk0
      have hkb : (k != 0) = true := by simp [hk0]
      injection hkz with hkz
      injection hkz with u0 hkz
      injection hkz with u1 hkz
      injection hkz with u2 hkz
      injection hkz with u3 hkz
      injection hkz with u4 hkz
      injection u0 with u0
      injection u1 with u1
      injection u2 with u2
      injection u3 with v1 v2 v3
      injection u4 with v4 v5 v6
      subst u0 u1 u2 v1 v2 v3 v4 v5 v6
      replace hk := Lib.hid hk
      go_wp2
      have hV := put5_blk hz.out (.string ⟨#[]⟩) (.string ⟨#[]⟩) (.string ⟨#[]⟩) (.slice none 0 0) (.slice none 0 0)
      have hSV := put5_save w5 w.heap.size (.string ⟨#[]⟩) (.string ⟨#[]⟩) (.string ⟨#[]⟩) (.slice none 0 0) (.slice none 0 0)
      unfold put5 at hV hSV
      obtain ⟨V, hU⟩ : ∃ U, U = (((((w5.setCell ⟨w.heap.size, 0, none⟩ (.string ⟨#[]⟩)).setCell ⟨w.heap.size, 1, none⟩ (.string ⟨#[]⟩)).setCell ⟨w.heap.size, 2, none⟩ (.string ⟨#[]⟩)).setCell ⟨w.heap.size, 3, none⟩ (.slice none 0 0)).setCell ⟨w.heap.size, 4, none⟩ (.slice none 0 0)) := ⟨_, rfl⟩
      rw [← hU] at hV hSV ⊢
      have hbU : Below V.heap.size V (V.alloc (.cells #[.string ⟨#[]⟩, .string ⟨#[]⟩, .string ⟨#[]⟩, .slice none 0 0, .slice none 0 0] 27)) := (Below.refl _ _).alloc (Nat.le_refl _) _
      have hV2 := hV.alloc (.cells #[.string ⟨#[]⟩, .string ⟨#[]⟩, .string ⟨#[]⟩, .slice none 0 0, .slice none 0 0] 27)
      have q0 := hV2.cell 0
      have q1 := hV2.cell 1
      have q2 := hV2.cell 2
      have q3 := hV2.cell 3
      have q4 := hV2.cell 4
      refine bodyPost_ret (v := .tuple #[.agg #[.string ⟨#[]⟩, .string ⟨#[]⟩, .string ⟨#[]⟩, .slice none 0 0, .slice none 0 0], .int .i64 k]) (by simp [results, Tryd.results17, go_sem, q0, q1, q2, q3, q4]) rfl ⟨_, _, _, _, _, _, _, _, _, k, _, w5, rfl, hP.out, hF.1, hF.2, f6.out, hSV.trans (Save.of_below hbU)⟩
end Go.Proofs.YtgomlebemefdcaaDoor

/- The reader: no attributes; a node without any. No condition. -/
import Derived.Test.YtgomlebemefdcaaDoorXeText
import Derived.RegionTactic
import Derived.BigRegion
set_option linter.unusedVariables false
namespace Go.Proofs.YtgomlebemefdcaaDoor
open Go Go.RowKit Go.Wk Go.Xt Go.Xe
set_option maxHeartbeats 2000000 in
set_option maxRecDepth 100000 in
theorem xml_attrs_nil {w : World} {L R c p many : Nat} {A : Option Addr} {bs r r' : List UInt8} (h : RS w L R A c bs p many) (hr : Rest bs p r) (hA : Atts r [] r') :
    Calls Tryd.prog 61 #[.pointer (some ⟨R, 0, none⟩)] w fun e w' => e = .returned (.tuple #[.slice none 0 0, .int .i64 0]) ∧ End w L R A c bs many r' w' := by
  cases hA with
  | nil r2 x hx hx2 =>
    have cb := xml_blank h hr.eq
    have hq := hr.ws_
    rw [hx] at hq
    have cp : ∀ w1, RS w1 L R A c bs (p + ws r) many → Calls Tryd.prog 58 #[.pointer (some ⟨L, 0, none⟩), .int .i64 0] w1 fun e w' => e = .returned (.int .i64 (x.toNat : Int)) ∧ RS w' L R A c bs (p + ws r) many ∧ Fr L R w1 w' := fun w1 h1 => by
      have := rs_peek h1
      rw [peek_cons hq.eq] at this
      exact this
    have hx3 : (x.toNat : Int) = 47 ∨ (x.toNat : Int) = 62 := by rcases hx2 with rfl | rfl; exact .inl rfl; exact .inr rfl
    replace cp := Lib.hid cp
    replace hq := Lib.hid hq
    clear hr h hx hx2
    generalize hX : (x.toNat : Int) = X at *
    generalize ws r = n at *
    clear hX
    rcases hx3 with rfl | rfl
    all_goals
      go_enter Tryd.func61, Tryd.ntmps61
      go_wp2
      refine wp_loop_rounds 1 ?_; rw [rounds_succ]
      go_wp2_with (first
        | (go_at_call 49; (with_reducible refine cb.mono ?_); rintro e w1 ⟨rfl, h1, f1⟩; have c1 := h1.rdr.cell 0; have k1 := cp.out w1 h1; replace f1 := Lib.hid f1; replace h1 := Lib.hid h1)
        | (go_at_call 58; (with_reducible refine k1.mono ?_); rintro e w2 ⟨rfl, h2, f2⟩; replace f2 := Lib.hid f2; replace h2 := Lib.hid h2))
      go_ret2
      exact ⟨rfl, ⟨_, h2.out, hq.out⟩, f1.out.trans f2.out⟩
set_option maxHeartbeats 2000000 in
set_option maxRecDepth 100000 in
theorem xml_bound_nil {w : World} (R : Nat) :
    Calls Tryd.prog 66 #[.pointer (some ⟨R, 0, none⟩), .slice none 0 0] w fun e w' => e = .returned (.int .i64 0) ∧ w = w' := by
  go_enter Tryd.func66, Tryd.ntmps66
  go_wp2
  refine wp_loop_rounds 1 ?_; rw [rounds_succ]
  go_wp2
  go_ret
  exact ⟨rfl, rfl⟩
set_option maxHeartbeats 2000000 in
set_option maxRecDepth 100000 in
theorem xml_space_nil {w : World} {L R c p many : Nat} {A : Option Addr} {bs : List UInt8} (h : RS w L R A c bs p many) :
    Calls Tryd.prog 67 #[.pointer (some ⟨R, 0, none⟩), .string ⟨#[]⟩] w fun e w' => e = .returned (.tuple #[.string ⟨#[]⟩, .int .i64 0]) ∧ w = w' := by
  have c2 := h.rdr.cell 2
  have cps := fun (w : World) => xml_passed (w := w) true
  simp only [if_true] at cps
  clear h
  go_enter Tryd.func67, Tryd.ntmps67
  go_wp2
  refine wp_loop_rounds 1 ?_; rw [rounds_succ]
  go_wp2_with (go_at_call 41; (with_reducible refine (cps _).mono ?_); rintro e w1 ⟨rfl, rfl⟩)
  go_ret2
  exact ⟨rfl, rfl⟩
set_option maxHeartbeats 2000000 in
set_option maxRecDepth 100000 in
theorem xml_node_nil {w : World} {L R c p many : Nat} {A : Option Addr} {bs : List UInt8} (N : ByteArray) (h : RS w L R A c bs p many) :
    Calls Tryd.prog 62 #[.pointer (some ⟨R, 0, none⟩), .string ⟨#[]⟩, .string N, .slice none 0 0] w fun e w' => e = .returned (.tuple #[.agg #[.string ⟨#[]⟩, .string N, .string ⟨#[]⟩, .slice none 0 0, .slice none 0 0], .int .i64 0]) ∧ Below w.heap.size w w' := by
  have cb := fun (w : World) => xml_bound_nil (w := w) R
  have cs := fun (w1 : World) (hb : Below w.heap.size w w1) => xml_space_nil (h.below hb)
  have b1 : Below w.heap.size w (w.alloc (.cells #[.string ⟨#[]⟩, .string ⟨#[]⟩, .string ⟨#[]⟩, .slice none 0 0, .slice none 0 0] 27)) := (Below.refl _ _).alloc (Nat.le_refl _) _
  have cs1 := cs _ b1
  clear cs h b1
  go_enter Tryd.func62, Tryd.ntmps62
  go_wp2_with (first
    | (go_at_call 66; (with_reducible refine (cb _).mono ?_); rintro e w1 ⟨rfl, rfl⟩)
    | (go_at_call 67; (with_reducible refine cs1.mono ?_); rintro e w1 ⟨rfl, rfl⟩))
  refine wp_loop_rounds 1 ?_; rw [rounds_succ]
  go_wp2
  exact bodyPost_ret (v := .tuple #[.agg #[.string ⟨#[]⟩, .string N, .string ⟨#[]⟩, .slice none 0 0, .slice none 0 0], .int .i64 0]) (by simp [results, Tryd.results62, go_sem]) rfl ⟨rfl, ((Below.refl _ _).alloc (Nat.le_refl _) _).alloc (by simp) _⟩
theorem RS.bump {w : World} {L R c p many : Nat} {A : Option Addr} {bs : List UInt8} (h : RS w L R A c bs p many) : RS (w.setCell ⟨R, 1, none⟩ (.int .i64 ((many : Int) + 1))) L R A c bs p (many + 1) := by
  have hc := h.cur
  have hL := hc.L_lt
  have hne : ∀ o, (⟨R, 1, none⟩ : Addr) ≠ ⟨L, o, none⟩ := fun o e => h.ne (by cases e; rfl)
  refine ⟨⟨hc.ne, Save.refl _ _, ?_, ?_, ?_, ⟨hc.byt.1, fun h0 => ?_⟩, hc.le, hc.small⟩, ?_, h.ne, h.neA, h.cap⟩
  · rw [World.cell?_setCell_other _ _ _ _ (hne 0)]; exact hc.cb
  · rw [World.cell?_setCell_other _ _ _ _ (hne 1)]; exact hc.ca
  · rw [World.frozen?_setCell]; exact hc.fr
  · obtain ⟨b, o, rfl, hcell⟩ := hc.byt.2 h0
    have hb : b ≠ R := h.neA h0 _ rfl
    refine ⟨b, o, rfl, fun i hi => ?_⟩
    rw [World.cell?_setCell_other _ _ _ _ (fun e => hb (congrArg Addr.block e).symm)]
    exact hcell i hi
  · have := h.rdr.set_ 1 (.int .i64 ((many : Int) + 1))
    rw [show ((many + 1 : Nat) : Int) = (many : Int) + 1 by omega]
    exact this
theorem Fr.bump {L R : Nat} (w : World) (u : Value) : Fr L R w (w.setCell ⟨R, 1, none⟩ u) := (Fr.refl L R w).store 1 u
/-- what the beginning's mark answers -/
def MarkR (w : World) (L R : Nat) (A : Option Addr) (c : Nat) (bs : List UInt8) (many : Nat) (N : ByteArray) (closed : Bool) (r : List UInt8) (e : Ending) (w' : World) : Prop :=
  e = .returned (.tuple #[.string ⟨#[]⟩, .string N, .bool closed, .agg #[.string ⟨#[]⟩, .string N, .string ⟨#[]⟩, .slice none 0 0, .slice none 0 0], .int .i64 0]) ∧ End w L R A c bs (many + 1) r w'
set_option maxHeartbeats 4000000 in
set_option maxRecDepth 100000 in
theorem xml_mark_nil {w : World} {L R c p many : Nat} {A : Option Addr} {bs r r' nm : List UInt8} {closed : Bool} (d : Nat) (hd0 : 0 < d) (hd : d ≤ 1000) (hm : many < 4000) (h : RS w L R A c bs p many) (hr : Rest bs p r) (hM : Xe.Mark r nm [] closed r') :
    Calls Tryd.prog 51 #[.pointer (some ⟨R, 0, none⟩), .int .i64 d] w (MarkR w L R A c bs many ⟨nm.toArray⟩ closed r') := by
  obtain ⟨N, hN⟩ : ∃ N : ByteArray, (⟨nm.toArray⟩ : ByteArray) = N := ⟨_, rfl⟩
  have hN2 : str nm = .string N := by rw [← hN]; rfl
  rw [hN]
  have hb0 : Below w.heap.size w (w.alloc (.cells #[.string ⟨#[]⟩, .string ⟨#[]⟩, .string ⟨#[]⟩, .slice none 0 0, .slice none 0 0] 27)) := (Below.refl _ _).alloc (Nat.le_refl _) _
  have h0 := h.below hb0
  have hnew := Blk.new w 27 #[.string ⟨#[]⟩, .string ⟨#[]⟩, .string ⟨#[]⟩, .slice none 0 0, .slice none 0 0]
  have c0 := h0.rdr.cell 0
  have hRlt := h.rdr.lt
  have hLlt := h.cur.L_lt
  have hAlt := Lib.hid h.A_lt
  have hdz : ((d : Int) == 0) = false := by simp; omega
  have hmm : ¬ (4000 : Int) < (many : Int) + 1 := by omega
  cases hM with
  | «open» r0 _ _ r1 r2 hn hne hdr hno hA =>
    have m1 : Calls Tryd.prog 54 #[.pointer (some ⟨L, 0, none⟩), .string ⟨#[60]⟩] _ fun e w' => e = .returned (.bool true) ∧ RS w' L R A c bs (p + 1) many ∧ Fr L R _ w' := rs_yes h0 ⟨#[60]⟩ r0 (by decide) (by decide) hr.eq
    have hr1 : Rest bs (p + 1) r0 := hr.app (s := [60])
    have cf := fun w1 (h1 : RS w1 L R A c bs (p + 1) many) => xml_full h1 hr1 hn hne (by rw [hdr]; exact hno)
    simp only [hdr, hN2] at cf
    have ca := fun w2 q (h2 : RS w2 L R A c bs q (many + 1)) (hq : Rest bs q r1) => xml_attrs_nil h2 hq hA
    have m2 : ∀ w3 q, RS w3 L R A c bs q (many + 1) → Rest bs q (62 :: r') → Calls Tryd.prog 54 #[.pointer (some ⟨L, 0, none⟩), .string ⟨#[47]⟩] w3 fun e w' => e = .returned (.bool false) ∧ RS w' L R A c bs q (many + 1) ∧ Fr L R w3 w' := fun w3 q h3 hq => rs_no h3 ⟨#[47]⟩ (by decide) (by decide) (by rw [hq.eq]; simp [List.cons_prefix_cons])
    have m3 : ∀ w3 q, RS w3 L R A c bs q (many + 1) → Rest bs q (62 :: r') → Calls Tryd.prog 54 #[.pointer (some ⟨L, 0, none⟩), .string ⟨#[62]⟩] w3 fun e w' => e = .returned (.bool true) ∧ RS w' L R A c bs (q + 1) (many + 1) ∧ Fr L R w3 w' := fun w3 q h3 hq => rs_yes h3 ⟨#[62]⟩ r' (by decide) (by decide) hq.eq
    have cn : ∀ w5 q, RS w5 L R A c bs q (many + 1) → Calls Tryd.prog 62 #[.pointer (some ⟨R, 0, none⟩), .string ⟨#[]⟩, .string N, .slice none 0 0] w5 fun e w' => e = .returned (.tuple #[.agg #[.string ⟨#[]⟩, .string N, .string ⟨#[]⟩, .slice none 0 0, .slice none 0 0], .int .i64 0]) ∧ Below w5.heap.size w5 w' := fun w5 q h5 => xml_node_nil N h5
    replace cf := Lib.hid cf
    replace ca := Lib.hid ca
    replace m2 := Lib.hid m2
    replace m3 := Lib.hid m3
    replace cn := Lib.hid cn
    have h0f := Lib.hid (Fr.refl L R (w.alloc (.cells #[.string ⟨#[]⟩, .string ⟨#[]⟩, .string ⟨#[]⟩, .slice none 0 0, .slice none 0 0] 27)))
    replace h0 := Lib.hid h0
    replace hnew := Lib.hid hnew
    replace hb0 := Lib.hid hb0
    clear hn hne hdr hno hA h hr hr1 hN hN2
    go_enter Tryd.func51, Tryd.ntmps51
    go_wp2_with (first
      | (go_at_call 54; (with_reducible refine m1.mono ?_); rintro e w1 ⟨rfl, h1, f1⟩; have k2 := cf.out w1 h1; replace f1 := Lib.hid f1; replace h1 := Lib.hid h1; clear m1)
      | (go_at_call 53; (with_reducible refine k2.mono ?_); rintro e w2 ⟨rfl, ⟨⟨q, h2, hq⟩, f2⟩⟩; have c21 := h2.rdr.cell 1; have f21 := h2.rdr.frozen 1; have h2b := h2.bump; have k3 := ca.out _ q h2b hq; replace f2 := Lib.hid f2; replace h2 := Lib.hid h2; replace h2b := Lib.hid h2b; replace hq := Lib.hid hq)
      | (go_at_call 61; (with_reducible refine k3.mono ?_); rintro e w3 ⟨rfl, ⟨⟨q3, h3, hq3⟩, f3⟩⟩; have c3 := h3.rdr.cell 0; have k4 := m2.out w3 q3 h3 hq3; replace f3 := Lib.hid f3; replace h3 := Lib.hid h3; replace hq3 := Lib.hid hq3)
      | (go_at_call 54; (with_reducible refine k4.mono ?_); rintro e w4 ⟨rfl, h4, f4⟩; have c4 := h4.rdr.cell 0; have k5 := m3.out w4 q3 h4 hq3.out; replace f4 := Lib.hid f4; replace h4 := Lib.hid h4; clear k4)
      | (go_at_call 54; (with_reducible refine k5.mono ?_); rintro e w5 ⟨rfl, h5, f5⟩; have k6 := cn.out w5 _ h5; replace f5 := Lib.hid f5; replace h5 := Lib.hid h5)
      | (go_at_call 62; (with_reducible refine k6.mono ?_); rintro e w6 ⟨rfl, b6⟩; replace b6 := Lib.hid b6))
    have F : Fr L R _ w6 := ((((h0f.out.trans (f1.out.trans f2.out)).trans (Fr.bump w2 (.int .i64 ((many : Int) + 1)))).trans f3.out).trans (f4.out.trans f5.out)).trans (Fr.of_below b6.out)
    have hz7 : Blk w6 w.heap.size 27 #[.string ⟨#[]⟩, .string ⟨#[]⟩, .string ⟨#[]⟩, .slice none 0 0, .slice none 0 0] := (F.block w.heap.size (by simp) (by omega) (by omega)).trans hnew.out
    have hz7 := hz7.alloc (.cells #[.string ⟨#[]⟩, .string N, .string ⟨#[]⟩, .slice none 0 0, .slice none 0 0] 27)
    have hz8 := Blk.new w6 27 #[.string ⟨#[]⟩, .string N, .string ⟨#[]⟩, .slice none 0 0, .slice none 0 0]
    have hw67 : Below w6.heap.size w6 (w6.alloc (.cells #[.string ⟨#[]⟩, .string N, .string ⟨#[]⟩, .slice none 0 0, .slice none 0 0] 27)) := (Below.refl _ _).alloc (Nat.le_refl _) _
    obtain ⟨W, hW⟩ : ∃ W, W = w6.alloc (.cells #[.string ⟨#[]⟩, .string N, .string ⟨#[]⟩, .slice none 0 0, .slice none 0 0] 27) := ⟨_, rfl⟩
    rw [← hW] at hz7 hz8 hw67 ⊢
    obtain ⟨g8, hg8⟩ : ∃ g, g = w6.heap.size := ⟨_, rfl⟩
    obtain ⟨g7, hg7⟩ : ∃ g, g = w.heap.size := ⟨_, rfl⟩
    rw [← hg8] at hz8 ⊢
    rw [← hg7] at hz7 ⊢
    have a0 := hz7.cell 0
    have a1 := hz7.cell 1
    have a2 := hz7.cell 2
    have a3 := hz7.cell 3
    have a4 := hz7.cell 4
    have e0 := hz8.cell 0
    have e1 := hz8.cell 1
    have e2 := hz8.cell 2
    have e3 := hz8.cell 3
    have e4 := hz8.cell 4
    have z0 := hz7.frozen 0
    have z1 := hz7.frozen 1
    have z2 := hz7.frozen 2
    have z3 := hz7.frozen 3
    have z4 := hz7.frozen 4
    replace hz7 := Lib.hid hz7
    replace hz8 := Lib.hid hz8
    replace hW := Lib.hid hW
    replace hw67 := Lib.hid hw67
    replace hg7 := Lib.hid hg7
    replace hg8 := Lib.hid hg8
    replace F := Lib.hid F
    go_region
    have hBV := Lib.hid (((((((Below.refl w.heap.size W).setCell (p := ⟨g7, 0, none⟩) (Nat.le_of_eq hg7.out.symm) (.string ⟨#[]⟩)).setCell (p := ⟨g7, 1, none⟩) (Nat.le_of_eq hg7.out.symm) (.string N)).setCell (p := ⟨g7, 2, none⟩) (Nat.le_of_eq hg7.out.symm) (.string ⟨#[]⟩)).setCell (p := ⟨g7, 3, none⟩) (Nat.le_of_eq hg7.out.symm) (.slice none 0 0)).setCell (p := ⟨g7, 4, none⟩) (Nat.le_of_eq hg7.out.symm) (.slice none 0 0)).drew)
    have hV := (((((hz7.out.set_ 0 (.string ⟨#[]⟩)).set_ 1 (.string N)).set_ 2 (.string ⟨#[]⟩)).set_ 3 (.slice none 0 0)).set_ 4 (.slice none 0 0)).drew
    generalize ((((((W.setCell ⟨g7, 0, none⟩ (.string ⟨#[]⟩)).setCell ⟨g7, 1, none⟩ (.string N)).setCell ⟨g7, 2, none⟩ (.string ⟨#[]⟩)).setCell ⟨g7, 3, none⟩ (.slice none 0 0)).setCell ⟨g7, 4, none⟩ (.slice none 0 0)).drew) = V at *
    have r0 := hV.cell 0
    have r1 := hV.cell 1
    have r2 := hV.cell 2
    have r3 := hV.cell 3
    have r4 := hV.cell 4
    clear a0 a1 a2 a3 a4 e0 e1 e2 e3 e4 z0 z1 z2 z3 z4 hV
    go_wp2
    refine bodyPost_ret (v := .tuple #[.string ⟨#[]⟩, .string N, .bool false, .agg #[.string ⟨#[]⟩, .string N, .string ⟨#[]⟩, .slice none 0 0, .slice none 0 0], .int .i64 0]) (by simp [results, Tryd.results51, go_sem, r0, r1, r2, r3, r4]) rfl ⟨rfl, ⟨q3 + 1, ?_, hq3.out.app (s := [62])⟩, ?_⟩
    · exact ((h5.out.below b6.out).below hw67.out).belowB hBV.out hLlt hRlt hAlt.out
    · exact ((Fr.of_below hb0.out).trans (F.out.trans (Fr.of_below hw67.out))).tail hBV.out
  | shut r0 _ _ r1 r2 hn hne hdr hno hA =>
    have m1 : Calls Tryd.prog 54 #[.pointer (some ⟨L, 0, none⟩), .string ⟨#[60]⟩] _ fun e w' => e = .returned (.bool true) ∧ RS w' L R A c bs (p + 1) many ∧ Fr L R _ w' := rs_yes h0 ⟨#[60]⟩ r0 (by decide) (by decide) hr.eq
    have hr1 : Rest bs (p + 1) r0 := hr.app (s := [60])
    have cf := fun w1 (h1 : RS w1 L R A c bs (p + 1) many) => xml_full h1 hr1 hn hne (by rw [hdr]; exact hno)
    simp only [hdr, hN2] at cf
    have ca := fun w2 q (h2 : RS w2 L R A c bs q (many + 1)) (hq : Rest bs q r1) => xml_attrs_nil h2 hq hA
    have m2 : ∀ w3 q, RS w3 L R A c bs q (many + 1) → Rest bs q (47 :: 62 :: r') → Calls Tryd.prog 54 #[.pointer (some ⟨L, 0, none⟩), .string ⟨#[47]⟩] w3 fun e w' => e = .returned (.bool true) ∧ RS w' L R A c bs (q + 1) (many + 1) ∧ Fr L R w3 w' := fun w3 q h3 hq => rs_yes h3 ⟨#[47]⟩ (62 :: r') (by decide) (by decide) hq.eq
    have m3 : ∀ w3 q, RS w3 L R A c bs q (many + 1) → Rest bs q (62 :: r') → Calls Tryd.prog 54 #[.pointer (some ⟨L, 0, none⟩), .string ⟨#[62]⟩] w3 fun e w' => e = .returned (.bool true) ∧ RS w' L R A c bs (q + 1) (many + 1) ∧ Fr L R w3 w' := fun w3 q h3 hq => rs_yes h3 ⟨#[62]⟩ r' (by decide) (by decide) hq.eq
    have cn : ∀ w5 q, RS w5 L R A c bs q (many + 1) → Calls Tryd.prog 62 #[.pointer (some ⟨R, 0, none⟩), .string ⟨#[]⟩, .string N, .slice none 0 0] w5 fun e w' => e = .returned (.tuple #[.agg #[.string ⟨#[]⟩, .string N, .string ⟨#[]⟩, .slice none 0 0, .slice none 0 0], .int .i64 0]) ∧ Below w5.heap.size w5 w' := fun w5 q h5 => xml_node_nil N h5
    replace cf := Lib.hid cf
    replace ca := Lib.hid ca
    replace m2 := Lib.hid m2
    replace m3 := Lib.hid m3
    replace cn := Lib.hid cn
    have h0f := Lib.hid (Fr.refl L R (w.alloc (.cells #[.string ⟨#[]⟩, .string ⟨#[]⟩, .string ⟨#[]⟩, .slice none 0 0, .slice none 0 0] 27)))
    replace h0 := Lib.hid h0
    replace hnew := Lib.hid hnew
    replace hb0 := Lib.hid hb0
    clear hn hne hdr hno hA h hr hr1 hN hN2
    go_enter Tryd.func51, Tryd.ntmps51
    go_wp2_with (first
      | (go_at_call 54; (with_reducible refine m1.mono ?_); rintro e w1 ⟨rfl, h1, f1⟩; have k2 := cf.out w1 h1; replace f1 := Lib.hid f1; replace h1 := Lib.hid h1; clear m1)
      | (go_at_call 53; (with_reducible refine k2.mono ?_); rintro e w2 ⟨rfl, ⟨⟨q, h2, hq⟩, f2⟩⟩; have c21 := h2.rdr.cell 1; have f21 := h2.rdr.frozen 1; have h2b := h2.bump; have k3 := ca.out _ q h2b hq; replace f2 := Lib.hid f2; replace h2 := Lib.hid h2; replace h2b := Lib.hid h2b; replace hq := Lib.hid hq)
      | (go_at_call 61; (with_reducible refine k3.mono ?_); rintro e w3 ⟨rfl, ⟨⟨q3, h3, hq3⟩, f3⟩⟩; have c3 := h3.rdr.cell 0; have k4 := m2.out w3 q3 h3 hq3; replace f3 := Lib.hid f3; replace h3 := Lib.hid h3; replace hq3 := Lib.hid hq3)
      | (go_at_call 54; (with_reducible refine k4.mono ?_); rintro e w4 ⟨rfl, h4, f4⟩; have c4 := h4.rdr.cell 0; have hq4 := hq3.out.app (s := [47]); have k5 := m3.out w4 (q3 + 1) h4 hq4; replace hq4 := Lib.hid hq4; replace f4 := Lib.hid f4; replace h4 := Lib.hid h4; clear k4)
      | (go_at_call 54; (with_reducible refine k5.mono ?_); rintro e w5 ⟨rfl, h5, f5⟩; have k6 := cn.out w5 _ h5; replace f5 := Lib.hid f5; replace h5 := Lib.hid h5)
      | (go_at_call 62; (with_reducible refine k6.mono ?_); rintro e w6 ⟨rfl, b6⟩; replace b6 := Lib.hid b6))
    have F : Fr L R _ w6 := ((((h0f.out.trans (f1.out.trans f2.out)).trans (Fr.bump w2 (.int .i64 ((many : Int) + 1)))).trans f3.out).trans (f4.out.trans f5.out)).trans (Fr.of_below b6.out)
    have hz7 : Blk w6 w.heap.size 27 #[.string ⟨#[]⟩, .string ⟨#[]⟩, .string ⟨#[]⟩, .slice none 0 0, .slice none 0 0] := (F.block w.heap.size (by simp) (by omega) (by omega)).trans hnew.out
    have hz7 := hz7.alloc (.cells #[.string ⟨#[]⟩, .string N, .string ⟨#[]⟩, .slice none 0 0, .slice none 0 0] 27)
    have hz8 := Blk.new w6 27 #[.string ⟨#[]⟩, .string N, .string ⟨#[]⟩, .slice none 0 0, .slice none 0 0]
    have hw67 : Below w6.heap.size w6 (w6.alloc (.cells #[.string ⟨#[]⟩, .string N, .string ⟨#[]⟩, .slice none 0 0, .slice none 0 0] 27)) := (Below.refl _ _).alloc (Nat.le_refl _) _
    obtain ⟨W, hW⟩ : ∃ W, W = w6.alloc (.cells #[.string ⟨#[]⟩, .string N, .string ⟨#[]⟩, .slice none 0 0, .slice none 0 0] 27) := ⟨_, rfl⟩
    rw [← hW] at hz7 hz8 hw67 ⊢
    obtain ⟨g8, hg8⟩ : ∃ g, g = w6.heap.size := ⟨_, rfl⟩
    obtain ⟨g7, hg7⟩ : ∃ g, g = w.heap.size := ⟨_, rfl⟩
    rw [← hg8] at hz8 ⊢
    rw [← hg7] at hz7 ⊢
    have a0 := hz7.cell 0
    have a1 := hz7.cell 1
    have a2 := hz7.cell 2
    have a3 := hz7.cell 3
    have a4 := hz7.cell 4
    have e0 := hz8.cell 0
    have e1 := hz8.cell 1
    have e2 := hz8.cell 2
    have e3 := hz8.cell 3
    have e4 := hz8.cell 4
    have z0 := hz7.frozen 0
    have z1 := hz7.frozen 1
    have z2 := hz7.frozen 2
    have z3 := hz7.frozen 3
    have z4 := hz7.frozen 4
    replace hz7 := Lib.hid hz7
    replace hz8 := Lib.hid hz8
    replace hW := Lib.hid hW
    replace hw67 := Lib.hid hw67
    replace hg7 := Lib.hid hg7
    replace hg8 := Lib.hid hg8
    replace F := Lib.hid F
    go_region
    have hBV := Lib.hid (((((((Below.refl w.heap.size W).setCell (p := ⟨g7, 0, none⟩) (Nat.le_of_eq hg7.out.symm) (.string ⟨#[]⟩)).setCell (p := ⟨g7, 1, none⟩) (Nat.le_of_eq hg7.out.symm) (.string N)).setCell (p := ⟨g7, 2, none⟩) (Nat.le_of_eq hg7.out.symm) (.string ⟨#[]⟩)).setCell (p := ⟨g7, 3, none⟩) (Nat.le_of_eq hg7.out.symm) (.slice none 0 0)).setCell (p := ⟨g7, 4, none⟩) (Nat.le_of_eq hg7.out.symm) (.slice none 0 0)).drew)
    have hV := (((((hz7.out.set_ 0 (.string ⟨#[]⟩)).set_ 1 (.string N)).set_ 2 (.string ⟨#[]⟩)).set_ 3 (.slice none 0 0)).set_ 4 (.slice none 0 0)).drew
    generalize ((((((W.setCell ⟨g7, 0, none⟩ (.string ⟨#[]⟩)).setCell ⟨g7, 1, none⟩ (.string N)).setCell ⟨g7, 2, none⟩ (.string ⟨#[]⟩)).setCell ⟨g7, 3, none⟩ (.slice none 0 0)).setCell ⟨g7, 4, none⟩ (.slice none 0 0)).drew) = V at *
    have r0 := hV.cell 0
    have r1 := hV.cell 1
    have r2 := hV.cell 2
    have r3 := hV.cell 3
    have r4 := hV.cell 4
    clear a0 a1 a2 a3 a4 e0 e1 e2 e3 e4 z0 z1 z2 z3 z4 hV
    go_wp2
    refine bodyPost_ret (v := .tuple #[.string ⟨#[]⟩, .string N, .bool true, .agg #[.string ⟨#[]⟩, .string N, .string ⟨#[]⟩, .slice none 0 0, .slice none 0 0], .int .i64 0]) (by simp [results, Tryd.results51, go_sem, r0, r1, r2, r3, r4]) rfl ⟨rfl, ⟨q3 + 1 + 1, ?_, hq4.out.app (s := [62])⟩, ?_⟩
    · exact ((h5.out.below b6.out).below hw67.out).belowB hBV.out hLlt hRlt hAlt.out
    · exact ((Fr.of_below hb0.out).trans (F.out.trans (Fr.of_below hw67.out))).tail hBV.out
end Go.Proofs.YtgomlebemefdcaaDoor

/- The reader reads a text. No condition. -/
import Derived.Test.YtgomlebemefdcaaDoorXeEnt
set_option linter.unusedVariables false
namespace Go.Proofs.YtgomlebemefdcaaDoor
open Go Go.RowKit Go.Wk Go.Xt Go.Xe Go.Lib
theorem RS.belowB {w w' : World} {L R c p many B : Nat} {A : Option Addr} {bs : List UInt8} (h : RS w L R A c bs p many) (hb : Below B w w') (hL : L < B) (hR : R < B) (hA : 0 < bs.length → ∀ x, A = some x → x.block < B) : RS w' L R A c bs p many := by
  have hc := h.cur
  refine ⟨⟨hc.ne, Save.refl _ _, (hb.cell (p := ⟨L, 0, none⟩) hL).trans hc.cb, (hb.cell (p := ⟨L, 1, none⟩) hL).trans hc.ca, (hb.frozen (p := ⟨L, 1, none⟩) hL).trans hc.fr, ⟨hc.byt.1, fun h0 => ?_⟩, hc.le, hc.small⟩, h.rdr.below hb hR, h.ne, h.neA, h.cap⟩
  obtain ⟨b, o, rfl, hcell⟩ := hc.byt.2 h0
  refine ⟨b, o, rfl, fun i hi => ?_⟩
  rw [hb.cell (p := ⟨b, o + i, none⟩) (show b < B from hA h0 ⟨b, o, none⟩ rfl)]
  exact hcell i hi
theorem RS.A_lt {w : World} {L R c p many : Nat} {A : Option Addr} {bs : List UInt8} (h : RS w L R A c bs p many) : 0 < bs.length → ∀ x, A = some x → x.block < w.heap.size := by
  rintro h0 x rfl
  obtain ⟨b, o, e, hcell⟩ := h.cur.byt.2 h0
  cases e
  exact cell_lt (hcell 0 h0)
theorem Fr.tail {L R : Nat} {a b c : World} (h : Fr L R a b) (k : Below a.heap.size b c) : Fr L R a c :=
  ⟨k.os.trans h.os, k.tape.trans h.tape, k.output.trans h.output, Nat.le_trans h.size k.size, fun j hj h1 h2 => (k.block j hj).trans (h.block j hj h1 h2)⟩
theorem bcells_app (a b : List UInt8) : byteCells (a ++ b) = byteCells a ++ byteCells b := by simp [byteCells]
theorem bcells_len (a : List UInt8) : (byteCells a).length = a.length := by simp [byteCells]
theorem txt_len {fin : Int} {r o r' : List UInt8} (h : Txt fin r o r') : o.length + r'.length ≤ r.length := by
  induction h with
  | nil => simp
  | stop => simp
  | byte => simp; omega
  | ent r e r1 o r' _ hE _ ih => have := ent_len hE; have := ent_out hE; simp; omega
set_option maxHeartbeats 4000000 in
set_option maxRecDepth 100000 in
theorem xml_text {w : World} {L R c p many : Nat} {A : Option Addr} {bs r o r' : List UInt8} (fin : Int) (hf : -1 ≤ fin ∧ fin ≤ 255) (h : RS w L R A c bs p many) (hr : Rest bs p r) (hT : Txt fin r o r') :
    Calls Tryd.prog 63 #[.pointer (some ⟨R, 0, none⟩), .int .i64 fin] w fun e w' => e = .returned (.tuple #[str o, .int .i64 0]) ∧ End w L R A c bs many r' w' := by
  obtain ⟨hf1, hf2⟩ := hf
  have hLB := h.cur.L_lt
  have hRB := h.rdr.lt
  have hAB := Lib.hid h.A_lt
  obtain ⟨B, hB⟩ : ∃ B, B = w.heap.size := ⟨_, rfl⟩
  have hnew := bld_new w
  have h0 := h.below ((Below.refl w.heap.size w).alloc (Nat.le_refl _) (.cells #[.pointer none, .slice none 0 0] 52))
  have f0 : Fr L R w (w.alloc (.cells #[.pointer none, .slice none 0 0] 52)) := Fr.of_below ((Below.refl w.heap.size w).alloc (Nat.le_refl _) _)
  have hlenT := txt_len hT
  have hrl := hr.len
  have hsm := h.cur.small
  replace hlenT := Lib.hid hlenT
  replace hnew := Lib.hid hnew
  replace h0 := Lib.hid h0
  replace f0 := Lib.hid f0
  replace hr := Lib.hid hr
  replace hT := Lib.hid hT
  clear h
  go_enter Tryd.func63, Tryd.ntmps63
  go_wp2
  go_loopw [7] (fun _ wr => ∃ q r1 o1 o2, Rest bs q r1 ∧ Txt fin r1 o2 r' ∧ o1 ++ o2 = o ∧ RS wr L R A c bs q many ∧ Lib.IsBuilder 52 5 w.heap.size w.heap.size (byteCells o1) wr ∧ Fr L R w wr) (fun _ wr => bs.length + 1 - posOf L wr)
  case atStart => exact ⟨p, r, [], o, hr.out, hT.out, rfl, h0.out, hnew.out, f0.out⟩
  case round =>
    obtain ⟨q, r1, o1, o2, hq, hT1, ho, hS, hb, hF⟩ := hrel
    have c0 := hS.rdr.cell 0
    have cp := rs_peek hS
    have hpos := Lib.hid hS.pos
    have hFz := hF.size
    have hol : o1.length + o2.length = o.length := by rw [← ho]; simp
    have hq2 := hq.len
    clear hr hT h0 hnew f0
    cases hT1 with
    | nil =>
      rw [peek_nil hq.eq] at cp
      have hst : ∀ w1, RS w1 L R A c bs q many → Fr L R wr w1 → Calls Tryd.prog 19 #[.pointer (some ⟨w.heap.size, 0, none⟩)] w1 fun e w' => e = .returned (.string ⟨o1.toArray⟩) ∧ Below w.heap.size w1 w' := fun w1 h1 f1 => Tryd.Builder_String_any w.heap.size w.heap.size o1 w1 (bld_fr hb f1 hLB hRB) (by have := f1.size; omega)
      have hoo : o1 = o := by rw [← ho]; simp
      replace hst := Lib.hid hst
      replace hF := Lib.hid hF
      replace hS := Lib.hid hS
      replace hb := Lib.hid hb
      replace hq := Lib.hid hq
      replace hoo := Lib.hid hoo
      replace ho := Lib.hid ho
      go_wp2_with (first
        | (go_at_call 58; (with_reducible refine cp.mono ?_); rintro e w1 ⟨rfl, h1, f1⟩; have k1 := hst.out w1 h1 f1; replace f1 := Lib.hid f1; replace h1 := Lib.hid h1)
        | (go_at_call 19; (with_reducible refine k1.mono ?_); rintro e w2 ⟨rfl, b2⟩; replace b2 := Lib.hid b2))
      go_ret2
      exact ⟨by rw [← hoo.out]; rfl, ⟨q, h1.out.belowB b2.out hLB hRB hAB.out, hq.out⟩, (hF.out.trans f1.out).tail b2.out⟩
    | stop x r2 hx =>
      rw [peek_cons hq.eq] at cp
      have hst : ∀ w1, RS w1 L R A c bs q many → Fr L R wr w1 → Calls Tryd.prog 19 #[.pointer (some ⟨w.heap.size, 0, none⟩)] w1 fun e w' => e = .returned (.string ⟨o1.toArray⟩) ∧ Below w.heap.size w1 w' := fun w1 h1 f1 => Tryd.Builder_String_any w.heap.size w.heap.size o1 w1 (bld_fr hb f1 hLB hRB) (by have := f1.size; omega)
      have hoo : o1 = o := by rw [← ho]; simp
      have hx0 : (0 : Int) ≤ (x.toNat : Int) := Int.natCast_nonneg _
      have hx2 : (x.toNat : Int) = 60 ∨ (¬ (x.toNat : Int) = 60 ∧ (x.toNat : Int) = fin) := by
        by_cases h60 : (x.toNat : Int) = 60
        · exact .inl h60
        · refine .inr ⟨h60, ?_⟩
          rcases hx with rfl | hx
          · exact absurd rfl h60
          · exact hx
      replace hst := Lib.hid hst
      replace hF := Lib.hid hF
      replace hS := Lib.hid hS
      replace hb := Lib.hid hb
      replace hq := Lib.hid hq
      replace hoo := Lib.hid hoo
      replace ho := Lib.hid ho
      clear hx
      rcases hx2 with hx3 | ⟨hx3, hx4⟩
      · rw [hx3] at cp
        clear hx3 hx0
        go_wp2_with (first
          | (go_at_call 58; (with_reducible refine cp.mono ?_); rintro e w1 ⟨rfl, h1, f1⟩; have k1 := hst.out w1 h1 f1; replace f1 := Lib.hid f1; replace h1 := Lib.hid h1)
          | (go_at_call 19; (with_reducible refine k1.mono ?_); rintro e w2 ⟨rfl, b2⟩; replace b2 := Lib.hid b2))
        go_ret2
        exact ⟨by rw [← hoo.out]; rfl, ⟨q, h1.out.belowB b2.out hLB hRB hAB.out, hq.out⟩, (hF.out.trans f1.out).tail b2.out⟩
      · rw [hx4] at cp hx3 hx0
        replace hx4 := Lib.hid hx4
        go_wp2_with (first
          | (go_at_call 58; (with_reducible refine cp.mono ?_); rintro e w1 ⟨rfl, h1, f1⟩; have k1 := hst.out w1 h1 f1; replace f1 := Lib.hid f1; replace h1 := Lib.hid h1)
          | (go_at_call 19; (with_reducible refine k1.mono ?_); rintro e w2 ⟨rfl, b2⟩; replace b2 := Lib.hid b2))
        go_ret2
        exact ⟨by rw [← hoo.out]; rfl, ⟨q, h1.out.belowB b2.out hLB hRB hAB.out, hq.out⟩, (hF.out.trans f1.out).tail b2.out⟩
    | byte x r2 o3 _ hx1 hx2 hx3 hT2 =>
      rw [peek_cons hq.eq] at cp
      obtain ⟨hd, hlt⟩ := drop_one hq.eq
      have hq3 : Rest bs (q + 1) r2 := ⟨hd, hlt⟩
      have hwb : ∀ w1, RS w1 L R A c bs (q + 1) many → Fr L R wr w1 → Calls Tryd.prog 71 #[.pointer (some ⟨w.heap.size, 0, none⟩), .int .u8 (x.toNat : Int)] w1 fun e w' => e = .returned .nilIface ∧ (Lib.IsBuilder 52 5 w.heap.size w.heap.size (byteCells o1 ++ [.int .u8 (x.toNat : Int)]) w' ∧ Below w.heap.size w1 w') := fun w1 h1 f1 => bld_byte w.heap.size w.heap.size (byteCells o1) (x.toNat : Int) w1 (bld_fr hb f1 hLB hRB) (by rw [bcells_len]; have := hlenT.out; omega) (by have := f1.size; omega)
      have hcc : Hid (byteCells o1 ++ [.int .u8 (x.toNat : Int)] = byteCells (o1 ++ [x])) := Lib.hid (by rw [bcells_app]; rfl)
      have hne : ∀ n : UInt8, x ≠ n → ¬ (x.toNat : Int) = (n.toNat : Int) := fun n h e => h (UInt8.toNat_inj.1 (by omega))
      have g1 : ((x.toNat : Int) == 60) = false := by rw [beq_eq_false_iff_ne]; exact hne 60 hx1
      have g2 : ((x.toNat : Int) == 38) = false := by rw [beq_eq_false_iff_ne]; exact hne 38 hx3
      have g5 : ((x.toNat : Int) == fin) = false := by rw [beq_eq_false_iff_ne]; exact hx2
      have g3 : (0 : Int) ≤ (x.toNat : Int) := Int.natCast_nonneg _
      have g4 := u8_lt x
      have hoo : Hid ((o1 ++ [x]) ++ o3 = o) := Lib.hid (by rw [← ho]; simp)
      clear hne hx1 hx2 hx3 hd
      generalize (x.toNat : Int) = X at *
      replace hwb := Lib.hid hwb
      replace hF := Lib.hid hF
      replace hS := Lib.hid hS
      replace hb := Lib.hid hb
      replace hq := Lib.hid hq
      replace hq3 := Lib.hid hq3
      replace ho := Lib.hid ho
      replace hT2 := Lib.hid hT2
      replace hol := Lib.hid hol
      replace hq2 := Lib.hid hq2
      go_wp2_with (first
        | (go_at_call 58; (with_reducible refine cp.mono ?_); rintro e w1 ⟨rfl, h1, f1⟩; have c1 := h1.rdr.cell 0; have cn := rs_next h1; rw [if_pos hlt] at cn; replace f1 := Lib.hid f1; replace h1 := Lib.hid h1)
        | (go_at_call 59; (with_reducible refine cn.mono ?_); rintro e w2 ⟨rfl, h2, f2⟩; have f12 := f1.out.trans f2; have k2 := hwb.out w2 h2 f12; replace f2 := Lib.hid f2; replace f12 := Lib.hid f12; replace h2 := Lib.hid h2)
        | (go_at_call 71; (with_reducible refine k2.mono ?_); rintro e w3 ⟨rfl, hb3, b3⟩; replace b3 := Lib.hid b3; replace hb3 := Lib.hid hb3))
      have hb4 := hb3.out
      rw [hcc.out] at hb4
      have h3 := h2.out.belowB b3.out hLB hRB hAB.out
      go_roundw
      case rel => exact ⟨q + 1, r2, o1 ++ [x], o3, hq3.out, hT2.out, hoo.out, h3, hb4, (hF.out.trans f12.out).tail b3.out⟩
      case measure => rw [h3.pos, hpos.out]; omega
    | ent r2 e r3 o3 _ hx2 hE hT2 =>
      rw [peek_cons hq.eq] at cp
      obtain ⟨hd, hlt⟩ := drop_one hq.eq
      have hq3 : Rest bs (q + 1) r2 := ⟨hd, hlt⟩
      have ce : ∀ w1, RS w1 L R A c bs (q + 1) many → Calls Tryd.prog 72 #[.pointer (some ⟨R, 0, none⟩)] w1 fun e' w' => e' = .returned (.tuple #[.string ⟨e.toArray⟩, .int .i64 0]) ∧ End w1 L R A c bs many r3 w' := fun w1 h1 => xml_entity h1 hq3 hE
      have hws : ∀ w1, Fr L R wr w1 → Calls Tryd.prog 18 #[.pointer (some ⟨w.heap.size, 0, none⟩), .string ⟨e.toArray⟩] w1 fun e' w' => e' = .returned (.tuple #[.int .i64 (⟨e.toArray⟩ : ByteArray).size, .nilIface]) ∧ (Lib.IsBuilder 52 5 w.heap.size w.heap.size (byteCells o1 ++ Lib.strCells ⟨e.toArray⟩) w' ∧ Below w.heap.size w1 w') := fun w1 f1 => bld_str w.heap.size w.heap.size (byteCells o1) ⟨e.toArray⟩ w1 (bld_fr hb f1 hLB hRB) (by rw [bcells_len]; have := hlenT.out; have := ent_out hE; simp [ByteArray.size]; omega) (by have := f1.size; omega)
      have hcc : Hid (byteCells o1 ++ Lib.strCells ⟨e.toArray⟩ = byteCells (o1 ++ e)) := Lib.hid (by rw [bcells_app]; rfl)
      have hoo : Hid ((o1 ++ e) ++ o3 = o) := Lib.hid (by rw [← ho]; simp)
      have hel := Lib.hid (ent_len hE)
      have cp : Calls Tryd.prog 58 #[.pointer (some ⟨L, 0, none⟩), .int .i64 0] wr fun e w' => e = .returned (.int .i64 38) ∧ RS w' L R A c bs q many ∧ Fr L R wr w' := cp
      have g2 : ¬ (38 : Int) = fin := fun e => hx2 e.symm
      clear hx2 hE hd
      generalize (⟨e.toArray⟩ : ByteArray) = E at *
      replace hws := Lib.hid hws
      replace ce := Lib.hid ce
      replace hF := Lib.hid hF
      replace hS := Lib.hid hS
      replace hb := Lib.hid hb
      replace hq := Lib.hid hq
      replace hq3 := Lib.hid hq3
      replace ho := Lib.hid ho
      replace hT2 := Lib.hid hT2
      replace hol := Lib.hid hol
      replace hq2 := Lib.hid hq2
      go_wp2_with (first
        | (go_at_call 58; (with_reducible refine cp.mono ?_); rintro e w1 ⟨rfl, h1, f1⟩; have c1 := h1.rdr.cell 0; have cn := rs_next h1; rw [if_pos hlt] at cn; replace f1 := Lib.hid f1; replace h1 := Lib.hid h1)
        | (go_at_call 59; (with_reducible refine cn.mono ?_); rintro e w2 ⟨rfl, h2, f2⟩; have f12 := f1.out.trans f2; have k2 := ce.out w2 h2; replace f2 := Lib.hid f2; replace f12 := Lib.hid f12; replace h2 := Lib.hid h2)
        | (go_at_call 72; (with_reducible refine k2.mono ?_); rintro e w3 ⟨rfl, ⟨⟨q4, h3, hq4⟩, f3⟩⟩; have f13 := f12.out.trans f3; have k3 := hws.out w3 f13; replace f3 := Lib.hid f3; replace f13 := Lib.hid f13; replace h3 := Lib.hid h3; replace hq4 := Lib.hid hq4)
        | (go_at_call 18; (with_reducible refine k3.mono ?_); rintro e w4 ⟨rfl, hb4, b4⟩; replace b4 := Lib.hid b4; replace hb4 := Lib.hid hb4))
      have hb5 := hb4.out
      rw [hcc.out] at hb5
      have h4 := h3.out.belowB b4.out hLB hRB hAB.out
      go_roundw
      case rel => exact ⟨q4, r3, o1 ++ e, o3, hq4.out, hT2.out, hoo.out, h4, hb5, (hF.out.trans f13.out).tail b4.out⟩
      case measure =>
        rw [h4.pos, hpos.out]
        have a1 := hq4.out.len
        have a2 := hq3.out.len
        have a3 := hel.out
        omega
end Go.Proofs.YtgomlebemefdcaaDoor

/- Walks and laws, joined: part C. No condition. -/
import Derived.Test.YtkpikpaepgknnaaGreatDoorXwJB
import Derived.Deep.RegionHeld3
import Derived.Deep.DrawnRows
import Derived.BigQuiet
import Derived.Orders
import Derived.Tactics2
import Derived.ProofKit
import Derived.Shelf.Spec.SlicesInsertGrow
import Derived.Laws.CopyRow
set_option linter.unusedSimpArgs false
set_option linter.unusedVariables false
/- Properties: which may be written, by the document. No condition. -/
namespace Go.Proofs.YtkpikpaepgknnaaGreatDoor
open Go Go.RowKit Go.Wk Go.Xt Go.Xe Go.Xw
def mayR (p : Pr) : Bool := mayB p && !(p.sp.toList == rdfL)
theorem mayR_eq (p : Pr) : mayR p = (((p.sp.data.toList.all spaceB && (!p.sp.toList.isEmpty && !(p.sp.toList == rdfL))) && (nameB p.nm.data.toList && signsB p.nm.data.toList)) && (kindB p.kd p.it.length && p.it.all entB)) := by
  unfold mayR mayB
  have h9 : (!(p.it.any (fun e => !entB e))) = p.it.all entB := by rw [List.not_any_eq_all_not]; simp
  rw [h9]
  generalize p.sp.data.toList.all spaceB = b1
  generalize p.sp.toList.isEmpty = b0
  generalize (p.sp.toList == rdfL) = b4
  generalize nameB p.nm.data.toList = b2
  generalize signsB p.nm.data.toList = b3
  generalize kindB p.kd p.it.length = k
  generalize p.it.all entB = z
  cases b0 <;> cases b1 <;> cases b4 <;> simp
set_option maxHeartbeats 16000000 in
set_option maxRecDepth 100000 in
theorem ref_may {w : World} (p : Pr) (A : Option Addr) (c : Nat) (h : EnsAt w A p.it) (hs : Xw.Small p) (hT : Lib.Utf8Tabs 0 1 w) (h2 : 2 ≤ w.heap.size) :
    Calls Tryz.prog 28 #[.agg #[.string p.sp, .string p.nm, .int .i64 p.kd, .slice A p.it.length c]] w fun e w' => e = .returned (.bool (mayR p)) ∧ Below w.heap.size w w' := by
  have e := mayR_eq p
  obtain ⟨B, hB⟩ : ∃ B, B = mayR p := ⟨_, rfl⟩
  rw [← hB] at e ⊢
  clear hB
  obtain ⟨i1, i2, i3, i4⟩ := hs
  obtain ⟨sp, nm, kd, it⟩ := p
  simp only at e h i1 i2 i3 i4 ⊢
  obtain ⟨W1, hW1⟩ : ∃ W, W = w.alloc (.cells #[.string sp, .string nm, .int .i64 kd, .slice A it.length c] 43) := ⟨_, rfl⟩
  have hb1 : Below w.heap.size w W1 := by rw [hW1]; exact (Below.refl _ _).alloc (Nat.le_refl _) _
  have hR : Blk W1 w.heap.size 43 #[.string sp, .string nm, .int .i64 kd, .slice A it.length c] := by rw [hW1]; exact Blk.new w 43 _
  have c1 := fun W => ref_plainSpace (w := W) sp (by omega)
  have c2 := fun W => ref_IsName (w := W) nm (by omega)
  have sg := fun W (hW : Below w.heap.size w W) => signs_of (w := W) nm (by omega) (tabs_below hT h2 hW) (by have := hW.size; omega)
  have el := fun i (hi : i < it.length) => fun W => ref_plainLang (w := W) it[i].1 (by have := (i4 _ (List.getElem_mem hi)).1; omega)
  have es := fun i (hi : i < it.length) => fun W (hW : Below w.heap.size w W) => signs_of (w := W) it[i].2 (by have := (i4 _ (List.getElem_mem hi)).2; omega) (tabs_below hT h2 hW) (by have := hW.size; omega)
  obtain ⟨n, hn⟩ : ∃ s, s = it.length := ⟨_, rfl⟩
  rw [← hn] at e hW1 hR i3 ⊢
  generalize (sp.data.toList.all spaceB && (!sp.toList.isEmpty && !(sp.toList == rdfL))) = b1 at e c1
  generalize nameB nm.data.toList = b2 at e c2
  generalize signsB nm.data.toList = b3 at e sg
  unfold kindB at e
  obtain ⟨r0, r1, r2, r3⟩ := blk4 hR
  have hW := hb1
  replace e := Lib.hid e
  replace sg := Lib.hid sg
  replace hb1 := Lib.hid hb1
  replace hW := Lib.hid hW
  replace hR := Lib.hid hR
  replace h := Lib.hid h
  replace el := Lib.hid el
  replace es := Lib.hid es
  replace hn := Lib.hid hn
  clear hT h2 i1 i2 i4
  go_enter Tryz.func28, Tryz.ntmps28
  go_upto_region 1 with (fail)
  rw [← hW1]
  replace hW1 := Lib.hid hW1
  cases b1 with
  | false =>
    go_wp2_with (go_at_call 61; (with_reducible refine (c1 _).mono ?_); rintro e' w2 ⟨rfl, hb2⟩; replace hW := Lib.hid (bthen hW.out hb2); clear hb2)
    go_ret
    exact ⟨congrArg (fun b => Ending.returned (.bool b)) (by rw [e.out]; simp), hW.out⟩
  | true =>
    cases b2 with
    | false =>
      go_wp2_with (first
              | (go_at_call 61; (with_reducible refine (c1 _).mono ?_); rintro e' w2 ⟨rfl, hb2⟩; have hR2 := hR.out.below hb2 hR.out.lt; obtain ⟨q0, q1, q2, q3⟩ := blk4 hR2; replace hR := Lib.hid hR2; replace hW := Lib.hid (bthen hW.out hb2); clear hb2 hR2)
              | (go_at_call 62; (with_reducible refine (c2 _).mono ?_); rintro e' w3 ⟨rfl, hb3⟩; replace hW := Lib.hid (bthen hW.out hb3); clear hb3))
      go_ret
      exact ⟨congrArg (fun b => Ending.returned (.bool b)) (by rw [e.out]; simp), hW.out⟩
    | true =>
      cases b3 with
      | false =>
        go_wp2_with (first
              | (go_at_call 61; (with_reducible refine (c1 _).mono ?_); rintro e' w2 ⟨rfl, hb2⟩; have hR2 := hR.out.below hb2 hR.out.lt; obtain ⟨q0, q1, q2, q3⟩ := blk4 hR2; replace hR := Lib.hid hR2; replace hW := Lib.hid (bthen hW.out hb2); clear hb2 hR2)
              | (go_at_call 62; (with_reducible refine (c2 _).mono ?_); rintro e' w3 ⟨rfl, hb3⟩; have hR3 := hR.out.below hb3 hR.out.lt; obtain ⟨s0, s1, s2, s3⟩ := blk4 hR3; replace hW := Lib.hid (bthen hW.out hb3); replace hR := Lib.hid hR3; obtain ⟨cc, w4, hcv, hb4, _, c63⟩ := sg.out w3 hW.out; have hR4 := hR.out.below hb4 hR.out.lt; replace hR := Lib.hid hR4; replace hW := Lib.hid (bthen hW.out hb4); clear hb3 hR3 hR4; replace hb4 := Lib.hid hb4)
              | (go_at_call 63; (with_reducible refine c63.mono ?_); rintro e' w5 ⟨rfl, hb5⟩; have hR5 := hR.out.below hb5 hR.out.lt; obtain ⟨t0, t1, t2, t3⟩ := blk4 hR5; replace hR := Lib.hid hR5; replace hW := Lib.hid (bthen hW.out hb5); clear hb5 hR5))
        go_ret
        exact ⟨congrArg (fun b => Ending.returned (.bool b)) (by rw [e.out]; simp), hW.out⟩
      | true =>
        cases hk : (decide (0 ≤ kd) && (decide (kd ≤ 3) && (kd != 0 || n == 1))) with
        | false =>
          have e2 := e.out
          rw [hk] at e2
          have hk2 : ¬ (0 ≤ kd ∧ kd ≤ 3 ∧ (kd = 0 → n = 1)) := by
            intro hh
            have : (decide (0 ≤ kd) && (decide (kd ≤ 3) && (kd != 0 || n == 1))) = true := by
              simp only [Bool.and_eq_true, decide_eq_true_eq, Bool.or_eq_true, bne_iff_ne, beq_iff_eq]
              refine ⟨hh.1, hh.2.1, ?_⟩
              by_cases h0 : kd = 0
              · exact .inr (hh.2.2 h0)
              · exact .inl h0
            rw [hk] at this; cases this
          replace e := Lib.hid e2
          replace hk2 := Lib.hid hk2
          clear hk e2
          by_cases k1 : kd < 0
          · go_wp2_with (first
              | (go_at_call 61; (with_reducible refine (c1 _).mono ?_); rintro e' w2 ⟨rfl, hb2⟩; have hR2 := hR.out.below hb2 hR.out.lt; obtain ⟨q0, q1, q2, q3⟩ := blk4 hR2; replace hR := Lib.hid hR2; replace hW := Lib.hid (bthen hW.out hb2); clear hb2 hR2)
              | (go_at_call 62; (with_reducible refine (c2 _).mono ?_); rintro e' w3 ⟨rfl, hb3⟩; have hR3 := hR.out.below hb3 hR.out.lt; obtain ⟨s0, s1, s2, s3⟩ := blk4 hR3; replace hW := Lib.hid (bthen hW.out hb3); replace hR := Lib.hid hR3; obtain ⟨cc, w4, hcv, hb4, _, c63⟩ := sg.out w3 hW.out; have hR4 := hR.out.below hb4 hR.out.lt; replace hR := Lib.hid hR4; replace hW := Lib.hid (bthen hW.out hb4); clear hb3 hR3 hR4; replace hb4 := Lib.hid hb4)
              | (go_at_call 63; (with_reducible refine c63.mono ?_); rintro e' w5 ⟨rfl, hb5⟩; have hR5 := hR.out.below hb5 hR.out.lt; obtain ⟨t0, t1, t2, t3⟩ := blk4 hR5; replace hR := Lib.hid hR5; replace hW := Lib.hid (bthen hW.out hb5); clear hb5 hR5))
            go_ret
            exact ⟨congrArg (fun b => Ending.returned (.bool b)) (by rw [e.out]; simp), hW.out⟩
          · by_cases k2 : 3 < kd
            · go_wp2_with (first
              | (go_at_call 61; (with_reducible refine (c1 _).mono ?_); rintro e' w2 ⟨rfl, hb2⟩; have hR2 := hR.out.below hb2 hR.out.lt; obtain ⟨q0, q1, q2, q3⟩ := blk4 hR2; replace hR := Lib.hid hR2; replace hW := Lib.hid (bthen hW.out hb2); clear hb2 hR2)
              | (go_at_call 62; (with_reducible refine (c2 _).mono ?_); rintro e' w3 ⟨rfl, hb3⟩; have hR3 := hR.out.below hb3 hR.out.lt; obtain ⟨s0, s1, s2, s3⟩ := blk4 hR3; replace hW := Lib.hid (bthen hW.out hb3); replace hR := Lib.hid hR3; obtain ⟨cc, w4, hcv, hb4, _, c63⟩ := sg.out w3 hW.out; have hR4 := hR.out.below hb4 hR.out.lt; replace hR := Lib.hid hR4; replace hW := Lib.hid (bthen hW.out hb4); clear hb3 hR3 hR4; replace hb4 := Lib.hid hb4)
              | (go_at_call 63; (with_reducible refine c63.mono ?_); rintro e' w5 ⟨rfl, hb5⟩; have hR5 := hR.out.below hb5 hR.out.lt; obtain ⟨t0, t1, t2, t3⟩ := blk4 hR5; replace hR := Lib.hid hR5; replace hW := Lib.hid (bthen hW.out hb5); clear hb5 hR5))
              go_ret
              exact ⟨congrArg (fun b => Ending.returned (.bool b)) (by rw [e.out]; simp), hW.out⟩
            · have k3 : kd = 0 := by
                rcases Int.lt_trichotomy kd 0 with h1 | h1 | h1
                · exact absurd h1 k1
                · exact h1
                · exact absurd ⟨by omega, by omega, fun h => by omega⟩ hk2.out
              have k4 : (n : Int) ≠ 1 := fun h => hk2.out ⟨by omega, by omega, fun _ => by omega⟩
              subst k3
              clear k1 k2
              go_wp2_with (first
              | (go_at_call 61; (with_reducible refine (c1 _).mono ?_); rintro e' w2 ⟨rfl, hb2⟩; have hR2 := hR.out.below hb2 hR.out.lt; obtain ⟨q0, q1, q2, q3⟩ := blk4 hR2; replace hR := Lib.hid hR2; replace hW := Lib.hid (bthen hW.out hb2); clear hb2 hR2)
              | (go_at_call 62; (with_reducible refine (c2 _).mono ?_); rintro e' w3 ⟨rfl, hb3⟩; have hR3 := hR.out.below hb3 hR.out.lt; obtain ⟨s0, s1, s2, s3⟩ := blk4 hR3; replace hW := Lib.hid (bthen hW.out hb3); replace hR := Lib.hid hR3; obtain ⟨cc, w4, hcv, hb4, _, c63⟩ := sg.out w3 hW.out; have hR4 := hR.out.below hb4 hR.out.lt; replace hR := Lib.hid hR4; replace hW := Lib.hid (bthen hW.out hb4); clear hb3 hR3 hR4; replace hb4 := Lib.hid hb4)
              | (go_at_call 63; (with_reducible refine c63.mono ?_); rintro e' w5 ⟨rfl, hb5⟩; have hR5 := hR.out.below hb5 hR.out.lt; obtain ⟨t0, t1, t2, t3⟩ := blk4 hR5; replace hR := Lib.hid hR5; replace hW := Lib.hid (bthen hW.out hb5); clear hb5 hR5))
              go_ret
              exact ⟨congrArg (fun b => Ending.returned (.bool b)) (by rw [e.out]; simp), hW.out⟩
        | true =>
          have e2 := e.out
          rw [hk] at e2
          simp only [Bool.and_eq_true, decide_eq_true_eq, Bool.or_eq_true, bne_iff_ne, beq_iff_eq] at hk
          obtain ⟨k1, k2, k3⟩ := hk
          have e3 : B = it.all entB := by rw [e2]; simp
          replace e := Lib.hid e3
          clear e2 e3
          by_cases h0 : kd = 0
          · have h1n : n = 1 := k3.elim (fun h => absurd h0 h) id
            clear k1 k2 k3
            subst h0
            have h1 : (n : Int) = 1 := by omega
            replace h1n := Lib.hid h1n
            go_wp2_with (first
              | (go_at_call 61; (with_reducible refine (c1 _).mono ?_); rintro e' w2 ⟨rfl, hb2⟩; have hR2 := hR.out.below hb2 hR.out.lt; obtain ⟨q0, q1, q2, q3⟩ := blk4 hR2; replace hR := Lib.hid hR2; replace hW := Lib.hid (bthen hW.out hb2); clear hb2 hR2)
              | (go_at_call 62; (with_reducible refine (c2 _).mono ?_); rintro e' w3 ⟨rfl, hb3⟩; have hR3 := hR.out.below hb3 hR.out.lt; obtain ⟨s0, s1, s2, s3⟩ := blk4 hR3; replace hW := Lib.hid (bthen hW.out hb3); replace hR := Lib.hid hR3; obtain ⟨cc, w4, hcv, hb4, _, c63⟩ := sg.out w3 hW.out; have hR4 := hR.out.below hb4 hR.out.lt; replace hR := Lib.hid hR4; replace hW := Lib.hid (bthen hW.out hb4); clear hb3 hR3 hR4; replace hb4 := Lib.hid hb4)
              | (go_at_call 63; (with_reducible refine c63.mono ?_); rintro e' w5 ⟨rfl, hb5⟩; have hR5 := hR.out.below hb5 hR.out.lt; obtain ⟨t0, t1, t2, t3⟩ := blk4 hR5; replace hR := Lib.hid hR5; replace hW := Lib.hid (bthen hW.out hb5); clear hb5 hR5))
            go_loopw [3] (fun s3 wr => ∃ i : Nat, i ≤ n ∧ s3 = .int .i64 i ∧ (it.drop i).all entB = B ∧ Blk wr w.heap.size 43 #[.string sp, .string nm, .int .i64 0, .slice A n c] ∧ Below w.heap.size w wr) (fun s3 _ => n - (RowKit.intOf s3).toNat)
            case atStart => exact ⟨0, by omega, rfl, by rw [List.drop_zero]; exact e.out.symm, hR.out, hW.out⟩
            case round =>
              obtain ⟨i, hi, rfl, ha, hRr, hWr⟩ := hrel
              obtain ⟨x0, x1, x2, x3⟩ := blk4 hRr
              by_cases hin : i < n
              · have hil : i < it.length := by rw [← hn.out]; exact hin
                obtain ⟨g, o, rfl, hcs⟩ := h.out (by omega)
                obtain ⟨w0, w1⟩ := hcs i hil
                have z0 := (hWr.cell (cell_lt w0)).trans w0
                have z1 := (hWr.cell (cell_lt w1)).trans w1
                have cl := el.out i hil wr
                have cs := es.out i hil
                rw [List.drop_eq_getElem_cons hil, List.all_cons] at ha
                unfold entB at ha
                generalize it[i] = en at cl cs z0 z1 ha
                obtain ⟨L, T⟩ := en
                simp only at cl cs z0 z1 ha
                generalize L.data.toList.all langB = bl at cl ha
                generalize signsB T.data.toList = bt at cs ha
                have hall : (it.drop (i + 1)).all (fun e => e.1.data.toList.all langB && signsB e.2.data.toList) = (it.drop (i + 1)).all entB := rfl
                rw [hall] at ha
                have z1' := fun W (hb : Below wr.heap.size wr W) => (hb.cell (cell_lt z1)).trans z1
                replace z1' := Lib.hid z1'
                replace cs := Lib.hid cs
                replace hRr := Lib.hid hRr
                replace hWr := Lib.hid hWr
                clear hcs w0 w1 hall z1
                cases bl with
                | false =>
                  have ha2 : false = B := by rw [← ha]; simp
                  replace ha := Lib.hid ha2
                  clear ha2
                  go_wp2_with (go_at_call 64; (with_reducible refine cl.mono ?_); rintro e' w6 ⟨rfl, hb6⟩; replace hWr := Lib.hid (bthen hWr.out hb6); clear hb6)
                  go_ret
                  exact ⟨congrArg (fun b => Ending.returned (.bool b)) ha.out, hWr.out⟩
                | true =>
                  cases bt with
                  | false =>
                    have ha2 : false = B := by rw [← ha]; simp
                    replace ha := Lib.hid ha2
                    clear ha2
                    go_wp2_with (first
                      | (go_at_call 64; (with_reducible refine cl.mono ?_); rintro e' w6 ⟨rfl, hb6⟩; have z2 := z1'.out w6 hb6; have hR6 := hRr.out.below hb6 hRr.out.lt; obtain ⟨y0, y1, y2, y3⟩ := blk4 hR6; replace hRr := Lib.hid hR6; replace hWr := Lib.hid (bthen hWr.out hb6); obtain ⟨cc, w7, hcv, hb7, _, c63⟩ := cs.out w6 hWr.out; replace hWr := Lib.hid (bthen hWr.out hb7); clear hb6 hR6; replace hb7 := Lib.hid hb7)
                      | (go_at_call 63; (with_reducible refine c63.mono ?_); rintro e' w8 ⟨rfl, hb8⟩; replace hWr := Lib.hid (bthen hWr.out hb8); clear hb8))
                    go_ret
                    exact ⟨congrArg (fun b => Ending.returned (.bool b)) ha.out, hWr.out⟩
                  | true =>
                    have ha2 : (it.drop (i + 1)).all entB = B := by rw [← ha]; simp
                    replace ha := Lib.hid ha2
                    clear ha2
                    go_wp2_with (first
                      | (go_at_call 64; (with_reducible refine cl.mono ?_); rintro e' w6 ⟨rfl, hb6⟩; have z2 := z1'.out w6 hb6; have hR6 := hRr.out.below hb6 hRr.out.lt; obtain ⟨y0, y1, y2, y3⟩ := blk4 hR6; replace hRr := Lib.hid hR6; replace hWr := Lib.hid (bthen hWr.out hb6); obtain ⟨cc, w7, hcv, hb7, _, c63⟩ := cs.out w6 hWr.out; have hR7 := hRr.out.below hb7 hRr.out.lt; replace hRr := Lib.hid hR7; replace hWr := Lib.hid (bthen hWr.out hb7); clear hb6 hR6 hR7; replace hb7 := Lib.hid hb7)
                      | (go_at_call 63; (with_reducible refine c63.mono ?_); rintro e' w8 ⟨rfl, hb8⟩; have hR8 := hRr.out.below hb8 hRr.out.lt; replace hRr := Lib.hid hR8; replace hWr := Lib.hid (bthen hWr.out hb8); clear hb8 hR8))
                    go_roundw
                    case rel => exact ⟨i + 1, by omega, by go_num, ha.out, hRr.out, hWr.out⟩
                    case measure => simp [RowKit.intOf]; omega
              · have hd : it.drop i = [] := List.drop_eq_nil_of_le (by rw [← hn.out]; omega)
                rw [hd] at ha
                replace ha := Lib.hid ha
                replace hRr := Lib.hid hRr
                replace hWr := Lib.hid hWr
                go_wp2
                go_ret
                exact ⟨congrArg (fun b => Ending.returned (.bool b)) ha.out, hWr.out⟩
          · clear k3
            go_wp2_with (first
              | (go_at_call 61; (with_reducible refine (c1 _).mono ?_); rintro e' w2 ⟨rfl, hb2⟩; have hR2 := hR.out.below hb2 hR.out.lt; obtain ⟨q0, q1, q2, q3⟩ := blk4 hR2; replace hR := Lib.hid hR2; replace hW := Lib.hid (bthen hW.out hb2); clear hb2 hR2)
              | (go_at_call 62; (with_reducible refine (c2 _).mono ?_); rintro e' w3 ⟨rfl, hb3⟩; have hR3 := hR.out.below hb3 hR.out.lt; obtain ⟨s0, s1, s2, s3⟩ := blk4 hR3; replace hW := Lib.hid (bthen hW.out hb3); replace hR := Lib.hid hR3; obtain ⟨cc, w4, hcv, hb4, _, c63⟩ := sg.out w3 hW.out; have hR4 := hR.out.below hb4 hR.out.lt; replace hR := Lib.hid hR4; replace hW := Lib.hid (bthen hW.out hb4); clear hb3 hR3 hR4; replace hb4 := Lib.hid hb4)
              | (go_at_call 63; (with_reducible refine c63.mono ?_); rintro e' w5 ⟨rfl, hb5⟩; have hR5 := hR.out.below hb5 hR.out.lt; obtain ⟨t0, t1, t2, t3⟩ := blk4 hR5; replace hR := Lib.hid hR5; replace hW := Lib.hid (bthen hW.out hb5); clear hb5 hR5))
            go_loopw [3] (fun s3 wr => ∃ i : Nat, i ≤ n ∧ s3 = .int .i64 i ∧ (it.drop i).all entB = B ∧ Blk wr w.heap.size 43 #[.string sp, .string nm, .int .i64 kd, .slice A n c] ∧ Below w.heap.size w wr) (fun s3 _ => n - (RowKit.intOf s3).toNat)
            case atStart => exact ⟨0, by omega, rfl, by rw [List.drop_zero]; exact e.out.symm, hR.out, hW.out⟩
            case round =>
              obtain ⟨i, hi, rfl, ha, hRr, hWr⟩ := hrel
              obtain ⟨x0, x1, x2, x3⟩ := blk4 hRr
              by_cases hin : i < n
              · have hil : i < it.length := by rw [← hn.out]; exact hin
                obtain ⟨g, o, rfl, hcs⟩ := h.out (by omega)
                obtain ⟨w0, w1⟩ := hcs i hil
                have z0 := (hWr.cell (cell_lt w0)).trans w0
                have z1 := (hWr.cell (cell_lt w1)).trans w1
                have cl := el.out i hil wr
                have cs := es.out i hil
                rw [List.drop_eq_getElem_cons hil, List.all_cons] at ha
                unfold entB at ha
                generalize it[i] = en at cl cs z0 z1 ha
                obtain ⟨L, T⟩ := en
                simp only at cl cs z0 z1 ha
                generalize L.data.toList.all langB = bl at cl ha
                generalize signsB T.data.toList = bt at cs ha
                have hall : (it.drop (i + 1)).all (fun e => e.1.data.toList.all langB && signsB e.2.data.toList) = (it.drop (i + 1)).all entB := rfl
                rw [hall] at ha
                have z1' := fun W (hb : Below wr.heap.size wr W) => (hb.cell (cell_lt z1)).trans z1
                replace z1' := Lib.hid z1'
                replace cs := Lib.hid cs
                replace hRr := Lib.hid hRr
                replace hWr := Lib.hid hWr
                clear hcs w0 w1 hall z1
                cases bl with
                | false =>
                  have ha2 : false = B := by rw [← ha]; simp
                  replace ha := Lib.hid ha2
                  clear ha2
                  go_wp2_with (go_at_call 64; (with_reducible refine cl.mono ?_); rintro e' w6 ⟨rfl, hb6⟩; replace hWr := Lib.hid (bthen hWr.out hb6); clear hb6)
                  go_ret
                  exact ⟨congrArg (fun b => Ending.returned (.bool b)) ha.out, hWr.out⟩
                | true =>
                  cases bt with
                  | false =>
                    have ha2 : false = B := by rw [← ha]; simp
                    replace ha := Lib.hid ha2
                    clear ha2
                    go_wp2_with (first
                      | (go_at_call 64; (with_reducible refine cl.mono ?_); rintro e' w6 ⟨rfl, hb6⟩; have z2 := z1'.out w6 hb6; have hR6 := hRr.out.below hb6 hRr.out.lt; obtain ⟨y0, y1, y2, y3⟩ := blk4 hR6; replace hRr := Lib.hid hR6; replace hWr := Lib.hid (bthen hWr.out hb6); obtain ⟨cc, w7, hcv, hb7, _, c63⟩ := cs.out w6 hWr.out; replace hWr := Lib.hid (bthen hWr.out hb7); clear hb6 hR6; replace hb7 := Lib.hid hb7)
                      | (go_at_call 63; (with_reducible refine c63.mono ?_); rintro e' w8 ⟨rfl, hb8⟩; replace hWr := Lib.hid (bthen hWr.out hb8); clear hb8))
                    go_ret
                    exact ⟨congrArg (fun b => Ending.returned (.bool b)) ha.out, hWr.out⟩
                  | true =>
                    have ha2 : (it.drop (i + 1)).all entB = B := by rw [← ha]; simp
                    replace ha := Lib.hid ha2
                    clear ha2
                    go_wp2_with (first
                      | (go_at_call 64; (with_reducible refine cl.mono ?_); rintro e' w6 ⟨rfl, hb6⟩; have z2 := z1'.out w6 hb6; have hR6 := hRr.out.below hb6 hRr.out.lt; obtain ⟨y0, y1, y2, y3⟩ := blk4 hR6; replace hRr := Lib.hid hR6; replace hWr := Lib.hid (bthen hWr.out hb6); obtain ⟨cc, w7, hcv, hb7, _, c63⟩ := cs.out w6 hWr.out; have hR7 := hRr.out.below hb7 hRr.out.lt; replace hRr := Lib.hid hR7; replace hWr := Lib.hid (bthen hWr.out hb7); clear hb6 hR6 hR7; replace hb7 := Lib.hid hb7)
                      | (go_at_call 63; (with_reducible refine c63.mono ?_); rintro e' w8 ⟨rfl, hb8⟩; have hR8 := hRr.out.below hb8 hRr.out.lt; replace hRr := Lib.hid hR8; replace hWr := Lib.hid (bthen hWr.out hb8); clear hb8 hR8))
                    go_roundw
                    case rel => exact ⟨i + 1, by omega, by go_num, ha.out, hRr.out, hWr.out⟩
                    case measure => simp [RowKit.intOf]; omega
              · have hd : it.drop i = [] := List.drop_eq_nil_of_le (by rw [← hn.out]; omega)
                rw [hd] at ha
                replace ha := Lib.hid ha
                replace hRr := Lib.hid hRr
                replace hWr := Lib.hid hWr
                go_wp2
                go_ret
                exact ⟨congrArg (fun b => Ending.returned (.bool b)) ha.out, hWr.out⟩
end Go.Proofs.YtkpikpaepgknnaaGreatDoor

/- Properties compared. No condition. -/
namespace Go.Proofs.YtkpikpaepgknnaaGreatDoor
open Go Go.RowKit Go.Wk Go.Xt Go.Xe Go.Xw
attribute [local go_sem ↓] Go.wp_at_zero Go.wp_at_succ
set_option maxHeartbeats 1000000 in
theorem cmp_isNaN {w : World} (S : ByteArray) : Calls Tryz.prog 111 #[.string S] w fun e w' => e = .returned (.bool false) ∧ w = w' := by
  have h : (S.toList == S.toList) = true := by simp
  go_enter Tryz.func111, Tryz.ntmps111
  go_wp2
  go_ret
  exact ⟨by simp, rfl⟩
set_option maxHeartbeats 1000000 in
theorem cmp_Compare {w : World} (S T : ByteArray) : Calls Tryz.prog 87 #[.string S, .string T] w fun e w' => e = .returned (.int .i64 (cmpI S.toList T.toList)) ∧ w = w' := by
  have c1 := cmp_isNaN (w := w) S
  have c2 := cmp_isNaN (w := w) T
  obtain ⟨Z, hZ⟩ : ∃ Z, Z = cmpI S.toList T.toList := ⟨_, rfl⟩
  rw [← hZ]
  unfold cmpI at hZ
  cases h1 : Op.bytesLess S.toList T.toList with
  | true =>
    rw [show lt S.toList T.toList = true from h1, if_pos rfl] at hZ
    replace hZ := Lib.hid hZ
    go_enter Tryz.func87, Tryz.ntmps87
    go_wp2_with (first | (go_at_call 111; (with_reducible refine c1.mono ?_); rintro e w1 ⟨rfl, rfl⟩) | (go_at_call 111; (with_reducible refine c2.mono ?_); rintro e w1 ⟨rfl, rfl⟩))
    go_ret
    exact ⟨congrArg (fun z => Ending.returned (.int .i64 z)) hZ.out.symm, rfl⟩
  | false =>
    rw [show lt S.toList T.toList = false from h1, if_neg (by decide)] at hZ
    cases h2 : Op.bytesLess T.toList S.toList with
    | true =>
      rw [show lt T.toList S.toList = true from h2, if_pos rfl] at hZ
      replace hZ := Lib.hid hZ
      have h3 : (S.toList == T.toList) = false := by
        rw [beq_eq_false_iff_ne]; intro e
        rw [e] at h2; have := lt_irr T.toList; unfold lt at this; rw [this] at h2; cases h2
      go_enter Tryz.func87, Tryz.ntmps87
      go_wp2_with (first | (go_at_call 111; (with_reducible refine c1.mono ?_); rintro e w1 ⟨rfl, rfl⟩) | (go_at_call 111; (with_reducible refine c2.mono ?_); rintro e w1 ⟨rfl, rfl⟩))
      go_ret
      exact ⟨congrArg (fun z => Ending.returned (.int .i64 z)) hZ.out.symm, rfl⟩
    | false =>
      rw [show lt T.toList S.toList = false from h2, if_neg (by decide)] at hZ
      replace hZ := Lib.hid hZ
      have h3 : (S.toList == T.toList) = true := by
        rw [beq_iff_eq]
        rcases lt_tri S.toList T.toList with h | h | h
        · unfold lt at h; rw [h1] at h; cases h
        · exact h
        · unfold lt at h; rw [h2] at h; cases h
      go_enter Tryz.func87, Tryz.ntmps87
      go_wp2_with (first | (go_at_call 111; (with_reducible refine c1.mono ?_); rintro e w1 ⟨rfl, rfl⟩) | (go_at_call 111; (with_reducible refine c2.mono ?_); rintro e w1 ⟨rfl, rfl⟩))
      go_ret
      exact ⟨congrArg (fun z => Ending.returned (.int .i64 z)) hZ.out.symm, rfl⟩
set_option maxHeartbeats 2000000 in
theorem cmp_Or {w : World} (g : Nat) (a b : Int) (h0 : w.cell? ⟨g, 0, none⟩ = some (.int .i64 a)) (h1 : w.cell? ⟨g, 1, none⟩ = some (.int .i64 b)) :
    Calls Tryz.prog 86 #[.slice (some ⟨g, 0, none⟩) 2 2] w fun e w' => e = .returned (.int .i64 (if a ≠ 0 then a else b)) ∧ w = w' := by
  by_cases ha : a = 0
  · subst ha
    by_cases hb : b = 0
    · subst hb
      go_enter Tryz.func86, Tryz.ntmps86
      go_wp2
      refine wp_loop_rounds 3 ?_; rw [rounds_succ]
      go_wp2
      rw [rounds_succ]
      go_wp2
      rw [rounds_succ]
      go_wp2
      go_ret
      exact ⟨rfl, rfl⟩
    · go_enter Tryz.func86, Tryz.ntmps86
      go_wp2
      refine wp_loop_rounds 3 ?_; rw [rounds_succ]
      go_wp2
      rw [rounds_succ]
      go_wp2
      go_ret
      exact ⟨by simp, rfl⟩
  · go_enter Tryz.func86, Tryz.ntmps86
    go_wp2
    refine wp_loop_rounds 3 ?_; rw [rounds_succ]
    go_wp2
    go_ret
    exact ⟨rfl, rfl⟩
def prV (p : Pr) (v : Value) : Value := .agg #[.string p.sp, .string p.nm, .int .i64 p.kd, v]
set_option maxHeartbeats 4000000 in
set_option maxRecDepth 100000 in
theorem xmp_order {w : World} (p q : Pr) (A C : Option Addr) (n c m d : Nat) : Calls Tryz.prog 58 #[prV p (.slice A n c), prV q (.slice C m d)] w fun e w' => e = .returned (.int .i64 (ordI p q)) ∧ Below w.heap.size w w' := by
  obtain ⟨sp, nm, kd, it⟩ := p
  obtain ⟨sq, nq, kq, iq⟩ := q
  unfold prV
  simp only
  obtain ⟨W1, hW1⟩ : ∃ W, W = w.alloc (.cells #[.string sp, .string nm, .int .i64 kd, .slice A n c] 38) := ⟨_, rfl⟩
  obtain ⟨W2, hW2⟩ : ∃ W, W = W1.alloc (.cells #[.string sq, .string nq, .int .i64 kq, .slice C m d] 38) := ⟨_, rfl⟩
  have hb1 : Below w.heap.size w W1 := by rw [hW1]; exact (Below.refl _ _).alloc (Nat.le_refl _) _
  have hb2 : Below W1.heap.size W1 W2 := by rw [hW2]; exact (Below.refl _ _).alloc (Nat.le_refl _) _
  have hR1 : Blk W2 w.heap.size 38 #[.string sp, .string nm, .int .i64 kd, .slice A n c] := by
    have h : Blk W1 w.heap.size 38 #[.string sp, .string nm, .int .i64 kd, .slice A n c] := by rw [hW1]; exact Blk.new w 38 _
    exact h.below hb2 h.lt
  have hR2 : Blk W2 W1.heap.size 38 #[.string sq, .string nq, .int .i64 kq, .slice C m d] := by rw [hW2]; exact Blk.new W1 38 _
  have e : ordI ⟨sp, nm, kd, it⟩ ⟨sq, nq, kq, iq⟩ = (if cmpI sp.toList sq.toList ≠ 0 then cmpI sp.toList sq.toList else cmpI nm.toList nq.toList) := rfl
  have c1 := fun W => cmp_Compare (w := W) sp sq
  have c2 := fun W => cmp_Compare (w := W) nm nq
  rw [e]
  generalize cmpI sp.toList sq.toList = a at c1 ⊢
  generalize cmpI nm.toList nq.toList = b at c2 ⊢
  have co := fun W g h0 h1 => cmp_Or (w := W) g a b h0 h1
  generalize (if a ≠ 0 then a else b) = r at co ⊢
  obtain ⟨r0, r1, _, _⟩ := blk4 hR1
  have z1 : W1.heap.size = w.heap.size + 1 := by rw [hW1, World.size_alloc]
  rw [z1] at hR2
  obtain ⟨q0, q1, _, _⟩ := blk4 hR2
  have hbb := bthen hb1 hb2
  replace hbb := Lib.hid hbb
  replace co := Lib.hid co
  clear e hb1 hb2 hR1 hR2
  go_enter Tryz.func58, Tryz.ntmps58
  go_upto_region 1 with (fail)
  rw [← hW1, ← hW2]
  replace hW1 := Lib.hid hW1
  replace hW2 := Lib.hid hW2
  go_region_held (fun w' => w'.cell? ⟨w.heap.size, 0, none⟩ = some (.string sp) ∧ w'.cell? ⟨w.heap.size, 1, none⟩ = some (.string nm) ∧ w'.cell? ⟨w.heap.size + 1, 0, none⟩ = some (.string sq) ∧ w'.cell? ⟨w.heap.size + 1, 1, none⟩ = some (.string nq))
    (go_keep) (first
      | (go_at_call 87; (with_reducible refine (c1 _).mono ?_); rintro e w1 ⟨rfl, rfl⟩)
      | (go_at_call 87; (with_reducible refine (c2 _).mono ?_); rintro e w1 ⟨rfl, rfl⟩)
      | (go_at_call 86; (with_reducible refine (co.out _ _ (by simp) (by simp)).mono ?_); rintro e w1 ⟨rfl, rfl⟩))
  go_wp2
  go_ret
  exact ⟨rfl, bthen hbb.out ((Below.refl _ _).drew.alloc (Nat.le_refl _) _)⟩
end Go.Proofs.YtkpikpaepgknnaaGreatDoor

/- A region that draws its order: each operation is looked at once. No condition. -/
/-! A region that draws its order, each operation looked at once -/
namespace Go.Wk
open Go
def upd (x : Nat → Value) (i : Nat) (v : Value) : Nat → Value := fun j => if j = i then v else x j
/-- what the operation waits for -/
def afters (ops : Array Oper) (i : Nat) : List Nat := match ops[i]? with
  | none => []
  | some o => (o.after.toList.filter fun e => Region.binds .any e).map (·.on)
def each (p : Nat → Prop) : Nat → Prop
  | 0 => True
  | n + 1 => each p n ∧ p n
theorem each_all {p : Nat → Prop} : ∀ {n : Nat}, each p n → ∀ i, i < n → p i
  | n + 1, h, i, hi => by
    rcases Nat.lt_or_ge i n with h' | h'
    · exact each_all h.1 i h'
    · have : i = n := by omega
      subst this; exact h.2
theorem getD_set (l : Array Bool) (i j : Nat) (b : Bool) (hi : i < l.size) : (l.setIfInBounds i true).getD j b = if j = i then true else l.getD j b := by
  simp only [Array.getD_eq_getD_getElem?, Array.getElem?_setIfInBounds]
  by_cases h : i = j
  · subst h; simp [hi]
  · simp [h, Ne.symm h]
theorem all_listed {ops : Array Oper} {listed : Array Bool} (back : ((List.range ops.size).all fun i => (afters ops i).all fun j => decide (j < i)) = true) (hs : listed.size = ops.size) (hr : Region.ready .any ops listed = []) :
    ∀ i, i < ops.size → listed.getD i false = true := by
  intro i
  induction i using Nat.strongRecOn with
  | _ i ih =>
    intro hi
    have hil : i < listed.size := by omega
    rcases hb : listed.getD i true with _ | _
    · exfalso
      have : i ∈ Region.ready .any ops listed := by
        rw [mem_ready]
        refine ⟨hb, ops[i], by simp [hi], fun e he hbd => ?_⟩
        have hm : e.on ∈ afters ops i := by
          unfold afters; rw [Array.getElem?_eq_getElem hi]
          exact List.mem_map.2 ⟨e, List.mem_filter.2 ⟨by simpa using he, hbd⟩, rfl⟩
        have h1 := List.all_eq_true.1 (List.all_eq_true.1 back i (List.mem_range.2 hi)) _ hm
        have h2 : e.on < i := of_decide_eq_true h1
        exact ih _ h2 (by omega)
      rw [hr] at this; cases this
    · simp only [Array.getD_eq_getD_getElem?, Array.getElem?_eq_getElem hil, Option.getD_some] at hb ⊢; exact hb
theorem wpAny_lin {P : Program} {ops : Array Oper} {Q : Exit → Act → World → Prop} (mk : (Nat → Value) → Act) {R : World → Prop} {Keeps : World → World → Prop} {Good : Nat → Value → World → Prop}
    (back : ((List.range ops.size).all fun i => (afters ops i).all fun j => decide (j < i)) = true)
    (mono : ∀ i v w w', Good i v w → Keeps w w' → Good i v w')
    (step : ∀ i, i < ops.size → ∀ x w, R w → (∀ j ∈ afters ops i, Good j (x j) w) → wpOp P ops Q i (fun a' w' => ∃ v, a' = mk (upd x i v) ∧ R w' ∧ Keeps w w' ∧ Good i v w') (mk x) w)
    (done : ∀ x w, R w → (∀ i, i < ops.size → Good i (x i) w) → Q .normal (mk x) w) :
    ∀ (fuel : Nat) (listed : Array Bool) (x : Nat → Value) (w : World), listed.toList.count false ≤ fuel → listed.size = ops.size → R w → (∀ i, i < ops.size → listed.getD i false = true → Good i (x i) w) →
      wpAny P .any ops Q fuel listed (mk x) w := by
  have fin : ∀ (listed : Array Bool) (x : Nat → Value) (w : World), listed.size = ops.size → R w → (∀ i, i < ops.size → listed.getD i false = true → Good i (x i) w) → Region.ready .any ops listed = [] → Q .normal (mk x) w :=
    fun listed x w hs hR hG hr => done x w hR fun i hi => hG i hi (all_listed back hs hr i hi)
  intro fuel
  induction fuel with
  | zero =>
    intro listed x w hc hs hR hG
    have hr : Region.ready .any ops listed = [] := by
      apply List.eq_nil_iff_forall_not_mem.2
      intro i hi
      obtain ⟨h1, o, ho, _⟩ := mem_ready.1 hi
      have hi' : i < ops.size := (Array.getElem?_eq_some_iff.1 ho).1
      have hil : i < listed.size := by omega
      have : false ∈ listed.toList := by
        simp only [Array.getD_eq_getD_getElem?, Array.getElem?_eq_getElem hil, Option.getD_some] at h1
        rw [← h1]; simp
      have := List.count_pos_iff.2 this
      omega
    exact ⟨hr, fin listed x w hs hR hG hr⟩
  | succ fuel ih =>
    intro listed x w hc hs hR hG
    refine ⟨fin listed x w hs hR hG, fun i hi => ?_⟩
    obtain ⟨h1, o, ho, hall⟩ := mem_ready.1 hi
    have hi' : i < ops.size := (Array.getElem?_eq_some_iff.1 ho).1
    have hil : i < listed.size := by omega
    have hdep : ∀ j ∈ afters ops i, Good j (x j) w := by
      intro j hj
      have hji : j < i := of_decide_eq_true (List.all_eq_true.1 (List.all_eq_true.1 back i (List.mem_range.2 hi')) _ hj)
      unfold afters at hj; rw [ho] at hj
      obtain ⟨e, he, rfl⟩ := List.mem_map.1 hj
      obtain ⟨he, hb⟩ := List.mem_filter.1 he
      exact hG _ (by omega) (hall e (by simpa using he) hb)
    refine wpOp_mono ?_ (step i hi' x w hR hdep)
    rintro a' w' ⟨v, rfl, hR', hK, hg⟩
    refine ih _ _ _ ?_ (by simpa using hs) hR' ?_
    · have hf : listed.toList[i]'(by simpa using hil) = false := by
        simp only [Array.getD_eq_getD_getElem?, Array.getElem?_eq_getElem hil, Option.getD_some] at h1
        simpa using h1
      rw [Array.toList_setIfInBounds, List.count_set (by simpa using hil)]
      have : 0 < listed.toList.count false := List.count_pos_iff.2 (by rw [← hf]; exact List.getElem_mem _)
      simp only [hf, beq_self_eq_true, if_true, Bool.true_beq, Bool.false_eq_true, if_false]
      omega
    · intro j hj hl
      rw [getD_set _ _ _ _ hil] at hl
      unfold upd
      by_cases hji : j = i
      · subst hji; simpa using hg
      · rw [if_neg hji] at hl ⊢
        exact mono _ _ _ _ (hG j hj hl) hK
theorem wp_region_lin {P : Program} {ops : Array Oper} {Q : Exit → Act → World → Prop} {id : Nat} {a0 : Act} {w0 : World} (hm : P.follows .mixedOrders = true) (mk : (Nat → Value) → Act) (x0 : Nat → Value) (h0 : a0 = mk x0)
    (R : World → Prop) (Keeps : World → World → Prop) (Good : Nat → Value → World → Prop)
    (back : ((List.range ops.size).all fun i => (afters ops i).all fun j => decide (j < i)) = true)
    (hR : R { w0 with drawn := w0.drawn + 1 })
    (mono : ∀ i v w w', Good i v w → Keeps w w' → Good i v w')
    (step : each (fun i => ∀ x w, R w → (∀ j ∈ afters ops i, Good j (x j) w) → wpOp P ops Q i (fun a' w' => ∃ v, a' = mk (upd x i v) ∧ R w' ∧ Keeps w w' ∧ Good i v w') (mk x) w) ops.size)
    (done : ∀ x w, R w → each (fun i => Good i (x i) w) ops.size → Q .normal (mk x) w) : (Code.region id ops true).wp P Q a0 w0 := by
  subst h0
  refine wp_region_any hm (wpAny_lin mk back mono (each_all step) (fun x w hR hG => done x w hR ?_) _ _ _ _ ?_ (by simp) hR ?_)
  · generalize ops.size = n at hG
    induction n with
    | zero => trivial
    | succ n ih => exact ⟨ih fun i hi => hG i (by omega), hG n (by omega)⟩
  · simp
  · intro i hi hl
    simp [Array.getD_eq_getD_getElem?, hi] at hl
end Go.Wk

/- A drawn region, one goal an operation, the frame said by a list. No condition. -/
/-! A drawn region, one goal an operation, the frame said by a list: which operation fills which place -/
namespace Go.Wk
open Go
/-- what is known of what was waited for -/
def All (G : Nat → Value → World → Prop) (x : Nat → Value) (w : World) : List Nat → Prop
  | [] => True
  | j :: js => G j (x j) w ∧ All G x w js
theorem all_of {G : Nat → Value → World → Prop} {x : Nat → Value} {w : World} : ∀ {js : List Nat}, (∀ j ∈ js, G j (x j) w) → All G x w js
  | [], _ => trivial
  | _ :: _, h => ⟨h _ (List.mem_cons_self ..), all_of fun j hj => h j (List.mem_cons_of_mem _ hj)⟩
/-- one operation -/
def Step (P : Program) (ops : Array Oper) (Q : Exit → Act → World → Prop) (mk : (Nat → Value) → Act) (R : World → Prop) (Keeps : World → World → Prop) (G : Nat → Value → World → Prop) (i : Nat) : Prop :=
  ∀ x w, R w → (∀ j ∈ afters ops i, G j (x j) w) → wpOp P ops Q i (fun a' w' => ∃ v, a' = mk (upd x i v) ∧ R w' ∧ Keeps w w' ∧ G i v w') (mk x) w
theorem step_of {P : Program} {ops : Array Oper} {Q : Exit → Act → World → Prop} {mk : (Nat → Value) → Act} {R : World → Prop} {Keeps : World → World → Prop} {G : Nat → Value → World → Prop} {i : Nat} {o : Oper} (js : List Nat)
    (ho : ops[i]? = some o) (hj : (js.all fun j => (afters ops i).contains j) = true)
    (h : ∀ x w, R w → All G x w js → ∀ K : Act → World → Prop, (∀ v w', R w' ∧ Keeps w w' ∧ G i v w' → K (mk (upd x i v)) w') →
      if Region.wanted o (yielded ops (mk x).tmps) = true then Oper.wp P o (mk x) w K Q else K ((mk x).put o.dst undef) w) : Step P ops Q mk R Keeps G i := by
  intro x w hR hd
  unfold wpOp
  simp only [ho]
  have h1 := h x w hR (all_of fun j hj' => hd j (List.contains_iff_mem.1 (List.all_eq_true.1 hj j hj'))) (fun a' w' => ∃ v, a' = mk (upd x i v) ∧ R w' ∧ Keeps w w' ∧ G i v w') (fun v w' h => ⟨v, rfl, h.1, h.2.1, h.2.2⟩)
  split
  · rename_i hw; rw [if_pos hw] at h1; exact .inl h1
  · rename_i hw; rw [if_neg hw] at h1; exact h1
inductive Steps (p : Nat → Prop) : Nat → Prop
  | nil : Steps p 0
  | cons (n : Nat) (h : p n) (t : Steps p n) : Steps p (n + 1)
theorem Steps.each {p : Nat → Prop} : ∀ {n : Nat}, Steps p n → Wk.each p n
  | _, .nil => trivial
  | _, .cons n h t => ⟨t.each, h⟩
/-- the frame: each place by the operation that fills it, or as it was -/
def fillL : List Value → List (Option Nat) → (Nat → Value) → List Value
  | v :: vs, some i :: ss, x => x i :: fillL vs ss x
  | v :: vs, none :: ss, x => v :: fillL vs ss x
  | vs, [], _ => vs
  | [], _, _ => []
def oldX : List Value → List (Option Nat) → Nat → Value
  | v :: vs, some i :: ss, j => if j = i then v else oldX vs ss j
  | _ :: vs, none :: ss, j => oldX vs ss j
  | _, _, _ => undef
theorem wp_lin {P : Program} {ops : Array Oper} {Q : Exit → Act → World → Prop} {id : Nat} {tm : List Value} {df : List Deferred} {w0 : World} (hm : P.follows .mixedOrders = true) (ss : List (Option Nat))
    (R : World → Prop) (Keeps : World → World → Prop) (G : Nat → Value → World → Prop)
    (h0 : fillL tm ss (oldX tm ss) = tm)
    (back : ((List.range ops.size).all fun i => (afters ops i).all fun j => decide (j < i)) = true)
    (n : Nat) (hn : ops.size = n)
    (hR : R w0.drew)
    (mono : ∀ i v w w', G i v w → Keeps w w' → G i v w')
    (step : Steps (Step P ops Q (fun x => { tmps := (fillL tm ss x).toArray, defers := df }) R Keeps G) n)
    (done : ∀ x w, R w → (∀ i, i < n → G i (x i) w) → Q .normal { tmps := (fillL tm ss x).toArray, defers := df } w) : (Code.region id ops true).wp P Q { tmps := tm.toArray, defers := df } w0 := by
  subst hn
  exact wp_region_lin hm (fun x => { tmps := (fillL tm ss x).toArray, defers := df }) (oldX tm ss) (by rw [h0]) R Keeps G back hR mono step.each fun x w hR h => done x w hR (each_all h)
end Go.Wk

/- A drawn region with one operation behind all others: each operation looked at once. No condition. -/
namespace Go.Wk
open Go
theorem wpAny_all {P : Program} {ops : Array Oper} {Q : Exit → Act → World → Prop} (listed : Array Bool) (a : Act) (w : World) (hl : ∀ i, i < ops.size → listed.getD i false = true) (hs : listed.size = ops.size) (hQ : Q .normal a w) : ∀ fuel, wpAny P .any ops Q fuel listed a w := by
  have hr : Region.ready .any ops listed = [] := by
    apply List.eq_nil_iff_forall_not_mem.2
    intro i hi
    obtain ⟨h1, o, ho, _⟩ := mem_ready.1 hi
    have hi' : i < ops.size := (Array.getElem?_eq_some_iff.1 ho).1
    have hil : i < listed.size := by omega
    have h2 := hl i hi'
    simp only [Array.getD_eq_getD_getElem?, Array.getElem?_eq_getElem hil, Option.getD_some] at h1 h2
    rw [h1] at h2; cases h2
  intro fuel
  cases fuel with
  | zero => exact ⟨hr, hQ⟩
  | succ fuel => exact ⟨fun _ => hQ, fun i hi => by rw [hr] at hi; cases hi⟩
theorem wpAny_last {P : Program} {ops : Array Oper} {Q : Exit → Act → World → Prop} (mk : (Nat → Value) → Act) {R : World → Prop} {Keeps : World → World → Prop} {Good : Nat → Value → World → Prop} (last : Nat) (hlast : last < ops.size)
    (back : ((List.range ops.size).all fun i => (afters ops i).all fun j => decide (j < i)) = true)
    (wit : List Nat) (cover : ((List.range ops.size).all fun i => i == last || (afters ops (wit.getD i 0)).contains i) = true)
    (mono : ∀ i v w w', Good i v w → Keeps w w' → Good i v w')
    (step : ∀ i, i < ops.size → i ≠ last → ∀ x w, R w → (∀ j ∈ afters ops i, Good j (x j) w) → wpOp P ops Q i (fun a' w' => ∃ v, a' = mk (upd x i v) ∧ R w' ∧ Keeps w w' ∧ Good i v w') (mk x) w)
    (fin : ∀ x w, R w → (∀ i, i < ops.size → i ≠ last → Good i (x i) w) → wpOp P ops Q last (fun a' w' => Q .normal a' w') (mk x) w) :
    ∀ (fuel : Nat) (listed : Array Bool) (x : Nat → Value) (w : World), listed.toList.count false ≤ fuel → listed.size = ops.size → R w → (∀ i, i < ops.size → listed.getD i false = true → Good i (x i) w) →
      listed.getD last false = false → (∀ i, i < ops.size → listed.getD i false = true → ∀ j ∈ afters ops i, listed.getD j false = true) → wpAny P .any ops Q fuel listed (mk x) w := by
  have gd : ∀ {listed : Array Bool} {i : Nat}, i < listed.size → listed.getD i true = listed.getD i false := fun {listed i} h => by
    simp only [Array.getD_eq_getD_getElem?, Array.getElem?_eq_getElem h, Option.getD_some]
  have ltj : ∀ i j, i < ops.size → j ∈ afters ops i → j < i := fun i j hi hj => of_decide_eq_true (List.all_eq_true.1 (List.all_eq_true.1 back i (List.mem_range.2 hi)) _ hj)
  intro fuel
  induction fuel with
  | zero =>
    intro listed x w hc hs hR hG hl hd
    exfalso
    have hil : last < listed.size := by omega
    have : false ∈ listed.toList := by
      simp only [Array.getD_eq_getD_getElem?, Array.getElem?_eq_getElem hil, Option.getD_some] at hl
      rw [← hl]; simp
    have := List.count_pos_iff.2 this
    omega
  | succ fuel ih =>
    intro listed x w hc hs hR hG hl hd
    refine ⟨fun hr => absurd (all_listed back hs hr last hlast) (by rw [hl]; simp), fun i hi => ?_⟩
    obtain ⟨h1, o, ho, hall⟩ := mem_ready.1 hi
    have hi' : i < ops.size := (Array.getElem?_eq_some_iff.1 ho).1
    have hil : i < listed.size := by omega
    have haft : ∀ j ∈ afters ops i, listed.getD j false = true := by
      intro j hj
      unfold afters at hj; rw [ho] at hj
      obtain ⟨e, he, rfl⟩ := List.mem_map.1 hj
      obtain ⟨he, hb⟩ := List.mem_filter.1 he
      exact hall e (by simpa using he) hb
    by_cases hil2 : i = last
    · subst hil2
      have hothers : ∀ n k, k < ops.size → ops.size ≤ k + n → k ≠ i → listed.getD k false = true := by
        intro n
        induction n with
        | zero => intro k hk hn; omega
        | succ n ihn =>
          intro k hk hn hki
          have hcv := List.all_eq_true.1 cover k (List.mem_range.2 hk)
          rw [Bool.or_eq_true, beq_iff_eq] at hcv
          rcases hcv with hcv | hcv
          · exact absurd hcv hki
          · obtain ⟨j, hjj⟩ : ∃ j, j = wit.getD k 0 := ⟨_, rfl⟩
            rw [← hjj] at hcv
            have hjk := List.contains_iff_mem.1 hcv
            have hj : j < ops.size := by
              rcases Nat.lt_or_ge j ops.size with h | h
              · exact h
              · unfold afters at hjk; rw [Array.getElem?_eq_none h] at hjk; cases hjk
            have hlt := ltj j k hj hjk
            by_cases hji : j = i
            · subst hji; exact haft k hjk
            · exact hd j hj (ihn j hj (by omega) hji) k hjk
      have hG' : ∀ k, k < ops.size → k ≠ i → Good k (x k) w := fun k hk hki => hG k hk (hothers ops.size k hk (by omega) hki)
      refine wpOp_mono ?_ (fin x w hR hG')
      intro a' w' hQ
      refine wpAny_all _ _ _ (fun k hk => ?_) (by simpa using hs) hQ fuel
      rw [getD_set _ _ _ _ hil]
      by_cases hki : k = i
      · rw [if_pos hki]
      · rw [if_neg hki]; exact hothers ops.size k hk (by omega) hki
    · refine wpOp_mono ?_ (step i hi' hil2 x w hR fun j hj => hG j (by have := ltj i j hi' hj; omega) (haft j hj))
      rintro a' w' ⟨v, rfl, hR', hK, hg⟩
      refine ih _ _ _ ?_ (by simpa using hs) hR' ?_ ?_ ?_
      · have hf : listed.toList[i]'(by simpa using hil) = false := by
          simp only [Array.getD_eq_getD_getElem?, Array.getElem?_eq_getElem hil, Option.getD_some] at h1
          simpa using h1
        rw [Array.toList_setIfInBounds, List.count_set (by simpa using hil)]
        have : 0 < listed.toList.count false := List.count_pos_iff.2 (by rw [← hf]; exact List.getElem_mem _)
        simp only [hf, beq_self_eq_true, if_true, Bool.true_beq, Bool.false_eq_true, if_false]
        omega
      · intro j hj hl
        rw [getD_set _ _ _ _ hil] at hl
        unfold upd
        by_cases hji : j = i
        · subst hji; simpa using hg
        · rw [if_neg hji] at hl ⊢
          exact mono _ _ _ _ (hG j hj hl) hK
      · rw [getD_set _ _ _ _ hil, if_neg (fun e => hil2 e.symm)]; exact hl
      · intro k hk hkl j hj
        rw [getD_set _ _ _ _ hil] at hkl ⊢
        by_cases hji : j = i
        · rw [if_pos hji]
        · rw [if_neg hji]
          by_cases hki : k = i
          · subst hki; exact haft j hj
          · rw [if_neg hki] at hkl; exact hd k hk hkl j hj
theorem wp_lin_last {P : Program} {ops : Array Oper} {Q : Exit → Act → World → Prop} {id : Nat} {tm : List Value} {df : List Deferred} {w0 : World} (hm : P.follows .mixedOrders = true) (ss : List (Option Nat))
    (R : World → Prop) (Keeps : World → World → Prop) (G : Nat → Value → World → Prop) (o : Oper)
    (h0 : fillL tm ss (oldX tm ss) = tm)
    (back : ((List.range ops.size).all fun i => (afters ops i).all fun j => decide (j < i)) = true)
    (n : Nat) (hn : ops.size = n + 1) (ho : ops[n]? = some o)
    (hgd : o.guard = none) (wit : List Nat) (cover : ((List.range ops.size).all fun i => i == n || (afters ops (wit.getD i 0)).contains i) = true)
    (hR : R w0.drew)
    (mono : ∀ i v w w', G i v w → Keeps w w' → G i v w')
    (step : Steps (Step P ops Q (fun x => { tmps := (fillL tm ss x).toArray, defers := df }) R Keeps G) n)
    (done : ∀ x w, R w → (∀ i, i < n → G i (x i) w) →
      ∀ fr, fr = fillL tm ss x → Oper.wp P o { tmps := fr.toArray, defers := df } w (fun a' w' => Q .normal a' w') Q) :
    (Code.region id ops true).wp P Q { tmps := tm.toArray, defers := df } w0 := by
  have e0 : ({ tmps := tm.toArray, defers := df } : Act) = (fun x => ({ tmps := (fillL tm ss x).toArray, defers := df } : Act)) (oldX tm ss) := by simp only [h0]
  rw [e0]
  refine wp_region_any hm (wpAny_last (fun x => { tmps := (fillL tm ss x).toArray, defers := df }) n (by omega) back wit cover mono (fun i hi hne => each_all step.each i (by omega)) (fun x w hR hG => ?_) _ _ _ _ ?_ (by simp) hR ?_ ?_ ?_)
  · have h1 := done x w hR (fun i hi => hG i (by omega) (by omega)) _ rfl
    unfold wpOp
    have hw : Region.wanted o (yielded ops (fillL tm ss x).toArray) = true := by simp [Region.wanted, hgd]
    simp only [ho, hw, if_true]
    exact .inl h1
  · simp
  · intro i hi hl
    simp [Array.getD_eq_getD_getElem?, hi] at hl
  · simp [Array.getD_eq_getD_getElem?, hn]
  · intro i hi hl
    simp [Array.getD_eq_getD_getElem?, hi] at hl
end Go.Wk

/- A drawn region: operations in whatever order, each looked at once, and a tail that is forced. No condition. -/
namespace Go.Wk
open Go
section
variable {P : Program} {ops : Array Oper} {Q : Exit → Act → World → Prop}
theorem afters_lt {n : Nat} (back : ((List.range ops.size).all fun i => (afters ops i).all fun j => decide (j < i)) = true) (i j : Nat) (hi : i < ops.size) (hj : j ∈ afters ops i) : j < i :=
  of_decide_eq_true (List.all_eq_true.1 (List.all_eq_true.1 back i (List.mem_range.2 hi)) _ hj)
theorem count_up {listed : Array Bool} {i fuel : Nat} (hil : i < listed.size) (h1 : listed.getD i true = false) (hc : listed.toList.count false ≤ fuel + 1) : (listed.setIfInBounds i true).toList.count false ≤ fuel := by
  have hf : listed.toList[i]'(by simpa using hil) = false := by
    simp only [Array.getD_eq_getD_getElem?, Array.getElem?_eq_getElem hil, Option.getD_some] at h1
    simpa using h1
  rw [Array.toList_setIfInBounds, List.count_set (by simpa using hil)]
  have : 0 < listed.toList.count false := List.count_pos_iff.2 (by rw [← hf]; exact List.getElem_mem _)
  simp only [hf, beq_self_eq_true, if_true, Bool.true_beq, Bool.false_eq_true, if_false]
  omega
theorem count_none {listed : Array Bool} {i : Nat} (hil : i < listed.size) (hl : listed.getD i false = false) (hc : listed.toList.count false ≤ 0) : False := by
  have : false ∈ listed.toList := by
    simp only [Array.getD_eq_getD_getElem?, Array.getElem?_eq_getElem hil, Option.getD_some] at hl
    rw [← hl]; simp
  have := List.count_pos_iff.2 this
  omega
theorem ready_after {listed : Array Bool} {i : Nat} (hi : i ∈ Region.ready .any ops listed) : i < ops.size ∧ listed.getD i true = false ∧ ∀ j ∈ afters ops i, listed.getD j false = true := by
  obtain ⟨h1, o, ho, hall⟩ := mem_ready.1 hi
  refine ⟨(Array.getElem?_eq_some_iff.1 ho).1, h1, fun j hj => ?_⟩
  unfold afters at hj; rw [ho] at hj
  obtain ⟨e, he, rfl⟩ := List.mem_map.1 hj
  obtain ⟨he, hb⟩ := List.mem_filter.1 he
  exact hall e (by simpa using he) hb
theorem wpAny_tail (n : Nat) (back : ((List.range ops.size).all fun i => (afters ops i).all fun j => decide (j < i)) = true)
    (chain : ((List.range ops.size).all fun j => Nat.ble j n || (afters ops j).contains (j - 1)) = true) :
    ∀ (l : List Oper) (k fuel : Nat) (listed : Array Bool) (a : Act) (w : World), n ≤ k → k + l.length = ops.size → (∀ j, l[j]? = ops[k + j]?) → listed.size = ops.size → listed.toList.count false ≤ fuel →
      (∀ i, i < ops.size → (listed.getD i false = true ↔ i < k)) → wpList P ops Q l a w → wpAny P .any ops Q fuel listed a w := by
  intro l
  induction l with
  | nil =>
    intro k fuel listed a w hn hk hl hs hc hL hw
    exact wpAny_all listed a w (fun i hi => (hL i hi).2 (by simp at hk; omega)) hs hw fuel
  | cons o l ih =>
    intro k fuel listed a w hn hk hl hs hc hL hw
    simp only [List.length_cons] at hk
    have hkn : k < ops.size := by omega
    have hkf : listed.getD k false = false := by
      cases h : listed.getD k false with
      | false => rfl
      | true => have := (hL k hkn).1 h; omega
    have ho : ops[k]? = some o := by have := hl 0; simpa using this.symm
    cases fuel with
    | zero => exact (count_none (by omega) hkf hc).elim
    | succ fuel =>
      refine ⟨fun hr => absurd (all_listed back hs hr k hkn) (by rw [hkf]; simp), fun i hi => ?_⟩
      obtain ⟨hi', h1, haft⟩ := ready_after hi
      have hif : listed.getD i false = false := by
        have hil : i < listed.size := by omega
        simp only [Array.getD_eq_getD_getElem?, Array.getElem?_eq_getElem hil, Option.getD_some] at h1 ⊢
        exact h1
      have hik : i = k := by
        have h2 : ¬ i < k := fun h => by rw [(hL i hi').2 h] at hif; cases hif
        rcases Nat.lt_or_ge k i with h3 | h3
        · exfalso
          have hch := List.all_eq_true.1 chain i (List.mem_range.2 hi')
          rw [Bool.or_eq_true] at hch
          rcases hch with hch | hch
          · have := Nat.le_of_ble_eq_true hch; omega
          · have := haft _ (List.contains_iff_mem.1 hch)
            have := (hL (i - 1) (by omega)).1 this
            omega
        · omega
      subst hik
      have hnext : ∀ a' w', wpList P ops Q l a' w' → wpAny P .any ops Q fuel (listed.setIfInBounds i true) a' w' := fun a' w' h =>
        ih (i + 1) fuel _ a' w' (by omega) (by omega) (fun j => by have := hl (j + 1); rw [List.getElem?_cons_succ] at this; rw [this]; congr 1; omega) (by simpa using hs) (count_up (by omega) h1 hc)
          (fun q hq => by
            rw [getD_set _ _ _ _ (by omega)]
            by_cases hqi : q = i
            · subst hqi; simp
            · rw [if_neg hqi, hL q hq]; omega) h
      unfold wpOp
      simp only [ho]
      unfold wpList at hw
      split
      · rename_i hwt
        rw [if_pos hwt] at hw
        rcases hw with hw | hw
        · exact .inl (Oper.wp_mono hnext hw)
        · exact .inr hw
      · rename_i hwt
        rw [if_neg hwt] at hw
        exact hnext _ _ hw
theorem wpAny_free (mk : (Nat → Value) → Act) {R : World → Prop} {Keeps : World → World → Prop} {Good : Nat → Value → World → Prop} (n : Nat) (hn : n < ops.size) (l : List Oper) (hln : n + l.length = ops.size) (hl : ∀ j, l[j]? = ops[n + j]?)
    (back : ((List.range ops.size).all fun i => (afters ops i).all fun j => decide (j < i)) = true)
    (chain : ((List.range ops.size).all fun j => Nat.ble j n || (afters ops j).contains (j - 1)) = true)
    (wit : List Nat) (cover : ((List.range n).all fun i => (afters ops (wit.getD i 0)).contains i && Nat.ble (wit.getD i 0) n) = true)
    (mono : ∀ i v w w', Good i v w → Keeps w w' → Good i v w')
    (step : ∀ i, i < n → ∀ x w, R w → (∀ j ∈ afters ops i, Good j (x j) w) → wpOp P ops Q i (fun a' w' => ∃ v, a' = mk (upd x i v) ∧ R w' ∧ Keeps w w' ∧ Good i v w') (mk x) w)
    (fin : ∀ x w, R w → (∀ i, i < n → Good i (x i) w) → wpList P ops Q l (mk x) w) :
    ∀ (fuel : Nat) (listed : Array Bool) (x : Nat → Value) (w : World), listed.toList.count false ≤ fuel → listed.size = ops.size → R w → (∀ i, i < n → listed.getD i false = true → Good i (x i) w) →
      (∀ i, n ≤ i → i < ops.size → listed.getD i false = false) → (∀ i, i < ops.size → listed.getD i false = true → ∀ j ∈ afters ops i, listed.getD j false = true) → wpAny P .any ops Q fuel listed (mk x) w := by
  intro fuel
  induction fuel with
  | zero =>
    intro listed x w hc hs hR hG hl0 hd
    exact (count_none (i := n) (by omega) (hl0 n (Nat.le_refl _) hn) hc).elim
  | succ fuel ih =>
    intro listed x w hc hs hR hG hl0 hd
    refine ⟨fun hr => absurd (all_listed back hs hr n hn) (by rw [hl0 n (Nat.le_refl _) hn]; simp), fun i hi => ?_⟩
    have hi0 := hi
    obtain ⟨hi', h1, haft⟩ := ready_after hi
    rcases Nat.lt_or_ge i n with hin | hin
    · refine wpOp_mono ?_ (step i hin x w hR fun j hj => hG j (by have := afters_lt (n := 0) back i j hi' hj; omega) (haft j hj))
      rintro a' w' ⟨v, rfl, hR', hK, hg⟩
      refine ih _ _ _ (count_up (by omega) h1 hc) (by simpa using hs) hR' ?_ ?_ ?_
      · intro j hj hlj
        rw [getD_set _ _ _ _ (by omega)] at hlj
        unfold upd
        by_cases hji : j = i
        · subst hji; simpa using hg
        · rw [if_neg hji] at hlj ⊢
          exact mono _ _ _ _ (hG j hj hlj) hK
      · intro j hj hj2
        rw [getD_set _ _ _ _ (by omega), if_neg (by omega)]; exact hl0 j hj hj2
      · intro k hk hkl j hj
        rw [getD_set _ _ _ _ (by omega)] at hkl ⊢
        by_cases hji : j = i
        · rw [if_pos hji]
        · rw [if_neg hji]
          by_cases hki : k = i
          · subst hki; exact haft j hj
          · rw [if_neg hki] at hkl; exact hd k hk hkl j hj
    · have hi2 : i = n := by
        rcases Nat.lt_or_ge n i with h3 | h3
        · exfalso
          have hch := List.all_eq_true.1 chain i (List.mem_range.2 hi')
          rw [Bool.or_eq_true] at hch
          rcases hch with hch | hch
          · have := Nat.le_of_ble_eq_true hch; omega
          · have := haft _ (List.contains_iff_mem.1 hch)
            rw [hl0 (i - 1) (by omega) (by omega)] at this; cases this
        · omega
      subst hi2
      have hothers : ∀ m k, k < i → i ≤ k + m → listed.getD k false = true := by
        intro m
        induction m with
        | zero => intro k hk hm; omega
        | succ m ihm =>
          intro k hk hm
          have hcv := List.all_eq_true.1 cover k (List.mem_range.2 hk)
          rw [Bool.and_eq_true] at hcv
          obtain ⟨j, hjj⟩ : ∃ j, j = wit.getD k 0 := ⟨_, rfl⟩
          rw [← hjj] at hcv
          have hjk := List.contains_iff_mem.1 hcv.1
          have hjn := Nat.le_of_ble_eq_true hcv.2
          have hlt := afters_lt (n := 0) back j k (by omega) hjk
          by_cases hji : j = i
          · subst hji; exact haft k hjk
          · exact hd j (by omega) (ihm j (by omega) (by omega)) k hjk
      have htail := fin x w hR fun k hk => hG k hk (hothers i k hk (by omega))
      have hfin := wpAny_tail (P := P) (Q := Q) i back chain l i (fuel + 1) listed (mk x) w (Nat.le_refl _) hln hl hs hc (fun q hq => ⟨fun h => by
          rcases Nat.lt_or_ge q i with h' | h'
          · exact h'
          · have h2 := hl0 q h' hq; rw [h2] at h; exact absurd h (by simp)
        , fun h => hothers i q h (by omega)⟩) htail
      exact hfin.2 i hi0
end
theorem wp_lin_tail {P : Program} {ops : Array Oper} {Q : Exit → Act → World → Prop} {id : Nat} {tm : List Value} {df : List Deferred} {w0 : World} (hm : P.follows .mixedOrders = true) (ss : List (Option Nat))
    (R : World → Prop) (Keeps : World → World → Prop) (G : Nat → Value → World → Prop)
    (h0 : fillL tm ss (oldX tm ss) = tm)
    (back : ((List.range ops.size).all fun i => (afters ops i).all fun j => decide (j < i)) = true)
    (n : Nat) (l : List Oper) (hdr : ops.toList.drop n = l) (hn : n < ops.size)
    (chain : ((List.range ops.size).all fun j => Nat.ble j n || (afters ops j).contains (j - 1)) = true)
    (wit : List Nat) (cover : ((List.range n).all fun i => (afters ops (wit.getD i 0)).contains i && Nat.ble (wit.getD i 0) n) = true)
    (hR : R w0.drew)
    (mono : ∀ i v w w', G i v w → Keeps w w' → G i v w')
    (step : Steps (Step P ops Q (fun x => { tmps := (fillL tm ss x).toArray, defers := df }) R Keeps G) n)
    (done : ∀ x w, R w → (∀ i, i < n → G i (x i) w) → ∀ fr, fr = fillL tm ss x → wpList P ops Q l { tmps := fr.toArray, defers := df } w) :
    (Code.region id ops true).wp P Q { tmps := tm.toArray, defers := df } w0 := by
  have e0 : ({ tmps := tm.toArray, defers := df } : Act) = (fun x => ({ tmps := (fillL tm ss x).toArray, defers := df } : Act)) (oldX tm ss) := by simp only [h0]
  rw [e0]
  refine wp_region_any hm (wpAny_free (fun x => { tmps := (fillL tm ss x).toArray, defers := df }) n hn l (by rw [← hdr]; simp; omega) (fun j => by rw [← hdr, List.getElem?_drop]; simp) back chain wit cover mono (fun i hi => each_all step.each i hi) (fun x w hR hG => done x w hR hG _ rfl) _ _ _ _ ?_ (by simp) hR ?_ ?_ ?_)
  · simp
  · intro i hi hl
    have : i < ops.size := by omega
    simp [Array.getD_eq_getD_getElem?, this] at hl
  · intro i hi hi2
    simp [Array.getD_eq_getD_getElem?, hi2]
  · intro i hi hl
    simp [Array.getD_eq_getD_getElem?, hi] at hl
end Go.Wk

/- Where a property stands in a row. No condition. -/
namespace Go.Xw
open Go Go.Wk Go.RowKit
/-- a property with the place of its entries, and their room -/
abbrev PA := Pr × (Option Addr × Nat)
def prs (x : PA) : List Value := [.string x.1.sp, .string x.1.nm, .int .i64 x.1.kd, .slice x.2.1 x.1.it.length x.2.2]
def flatP (l : List PA) : List Value := l.flatMap prs
theorem flat_len (l : List PA) : (flatP l).length = l.length * 4 := by
  induction l with
  | nil => rfl
  | cons x l ih => unfold flatP at *; rw [List.flatMap_cons, List.length_append, ih, List.length_cons]; show 4 + _ = _; omega
theorem flat_at : ∀ (l : List PA) (i j : Nat) (hi : i < l.length), j < 4 → (flatP l)[i * 4 + j]? = (prs l[i])[j]?
  | [], i, j, h, _ => by simp at h
  | x :: l, 0, j, _, hj => by
    unfold flatP
    rw [List.flatMap_cons, List.getElem?_append_left (by show 0 * 4 + j < 4; omega)]
    simp
  | x :: l, i + 1, j, hi, hj => by
    unfold flatP
    rw [List.flatMap_cons, List.getElem?_append_right (by show 4 ≤ _; omega)]
    have := flat_at l i j (by simpa using hi) hj
    unfold flatP at this
    rw [show (i + 1) * 4 + j - (prs x).length = i * 4 + j by show (i + 1) * 4 + j - 4 = _; omega, this]
    simp
def pl (l : List PA) : List Pr := l.map (·.1)
theorem pl_len (l : List PA) : (pl l).length = l.length := List.length_map _
theorem pl_at {l : List PA} {i : Nat} (h : i < l.length) : (pl l)[i]'(by rw [pl_len]; exact h) = l[i].1 := List.getElem_map _
/-- a row's cells -/
def CellsP (w : World) (g : Nat) (l : List PA) : Prop := ∀ i (h : i < l.length), w.cell? ⟨g, i * 4, none⟩ = some (.string l[i].1.sp) ∧ w.cell? ⟨g, i * 4 + 1, none⟩ = some (.string l[i].1.nm) ∧ w.cell? ⟨g, i * 4 + 2, none⟩ = some (.int .i64 l[i].1.kd) ∧ w.cell? ⟨g, i * 4 + 3, none⟩ = some (.slice l[i].2.1 l[i].1.it.length l[i].2.2)
theorem CellsP.below {w w' : World} {g : Nat} {l : List PA} (h : CellsP w g l) (hb : Below w.heap.size w w') : CellsP w' g l := fun i hi => by
  obtain ⟨a, b, c, d⟩ := h i hi
  exact ⟨(hb.cell (cell_lt a)).trans a, (hb.cell (cell_lt b)).trans b, (hb.cell (cell_lt c)).trans c, (hb.cell (cell_lt d)).trans d⟩
theorem eight_kept {a b : World} {p0 p1 p2 p3 p4 p5 p6 p7 : Addr} {v0 v1 v2 v3 v4 v5 v6 v7 : Value} (hB : Below a.heap.size a b)
    (h : a.cell? p0 = some v0 ∧ a.cell? p1 = some v1 ∧ a.cell? p2 = some v2 ∧ a.cell? p3 = some v3 ∧ a.cell? p4 = some v4 ∧ a.cell? p5 = some v5 ∧ a.cell? p6 = some v6 ∧ a.cell? p7 = some v7) :
    b.cell? p0 = some v0 ∧ b.cell? p1 = some v1 ∧ b.cell? p2 = some v2 ∧ b.cell? p3 = some v3 ∧ b.cell? p4 = some v4 ∧ b.cell? p5 = some v5 ∧ b.cell? p6 = some v6 ∧ b.cell? p7 = some v7 := by
  obtain ⟨h0, h1, h2, h3, h4, h5, h6, h7⟩ := h
  exact ⟨(hB.cell (cell_lt h0)).trans h0, (hB.cell (cell_lt h1)).trans h1, (hB.cell (cell_lt h2)).trans h2, (hB.cell (cell_lt h3)).trans h3, (hB.cell (cell_lt h4)).trans h4, (hB.cell (cell_lt h5)).trans h5, (hB.cell (cell_lt h6)).trans h6, (hB.cell (cell_lt h7)).trans h7⟩
end Go.Xw
namespace Go.Proofs.YtkpikpaepgknnaaGreatDoor
open Go Go.RowKit Go.Wk Go.Xt Go.Xe Go.Xw
attribute [local go_sem ↓] Go.wp_at_zero Go.wp_at_succ
def GB5 (g n cap bx k : Nat) (ax ap : Array Value) : Nat → Value → World → Prop := fun j v _ => match j with
  | 0 => v = .func (.func 58) #[] #[]
  | 1 => v = .slice (some ⟨g, 0, none⟩) n cap
  | 2 => v = .int .i64 (k : Nat)
  | 3 => v = .pointer (some ⟨g, k * 4, none⟩)
  | 4 => v = .agg ax
  | _ => v = .agg ap
theorem GB5_mono {g n cap bx k : Nat} {ax ap : Array Value} (j : Nat) (v : Value) (w w' : World) (hG : GB5 g n cap bx k ax ap j v w) (hk : Below w.heap.size w w') : GB5 g n cap bx k ax ap j v w' := by
  unfold GB5 at hG ⊢; exact hG
def GB8 (g n cap k : Nat) (ax ap : Array Value) (r : Int) (Z : Bool) : Nat → Value → World → Prop := fun j v _ => match j with
  | 0 => v = .int .i64 (k : Nat)
  | 1 => v = .int .i64 (k : Nat)
  | 2 => v = .int .i64 (n : Nat)
  | 3 => v = .bool true
  | 4 => v = .bool true
  | 5 => v = .func (.func 58) #[] #[]
  | 6 => v = .slice (some ⟨g, 0, none⟩) n cap
  | 7 => v = .int .i64 (k : Nat)
  | 8 => v = .pointer (some ⟨g, k * 4, none⟩)
  | 9 => v = .agg ax
  | 10 => v = .agg ap
  | 11 => v = .int .i64 r
  | 14 => v = .int .i64 (k : Nat)
  | _ => v = .bool Z
theorem GB8_mono {g n cap k : Nat} {ax ap : Array Value} {r : Int} {Z : Bool} (j : Nat) (v : Value) (w w' : World) (hG : GB8 g n cap k ax ap r Z j v w) (hk : Below w.heap.size w w') : GB8 g n cap k ax ap r Z j v w' := by
  unfold GB8 at hG ⊢; exact hG
def GB9 (n : Nat) : Nat → Value → World → Prop := fun j v _ => match j with
  | 0 => v = .int .i64 (n : Nat)
  | 1 => v = .int .i64 (n : Nat)
  | 2 => v = .int .i64 (n : Nat)
  | 3 => v = .bool false
  | 4 => v = .bool false
  | 13 => v = .bool false
  | 14 => v = .int .i64 (n : Nat)
  | _ => True
theorem GB9_mono {n : Nat} (j : Nat) (v : Value) (w w' : World) (hG : GB9 n j v w) (hk : Below w.heap.size w w') : GB9 n j v w' := by
  unfold GB9 at hG ⊢; exact hG
set_option maxHeartbeats 8000000 in
set_option maxRecDepth 100000 in
theorem xmp_search {w : World} (A : Option Addr) (g cap : Nat) (l : List PA) (hA : 0 < l.length → A = some ⟨g, 0, none⟩) (hn : l.length ≤ 20) (hcp : l.length ≤ cap) (hc : CellsP w g l) (p : Pr) (C : Option Addr) (m d : Nat) (hs : Sorted (pl l)) :
    Calls Tryz.prog 57 #[.slice A l.length cap, prV p (.slice C m d), .func (.func 58) #[] #[]] w fun e w' => e = .returned (.tuple #[.int .i64 (posP p (pl l) : Nat), .bool (hasP p (pl l))]) ∧ Below w.heap.size w w' := by
  obtain ⟨W1, hW1⟩ : ∃ W, W = w.alloc (.cells #[.string p.sp, .string p.nm, .int .i64 p.kd, .slice C m d] 38) := ⟨_, rfl⟩
  have hb1 : Below w.heap.size w W1 := by rw [hW1]; exact (Below.refl _ _).alloc (Nat.le_refl _) _
  have hR : Blk W1 w.heap.size 38 #[.string p.sp, .string p.nm, .int .i64 p.kd, .slice C m d] := by rw [hW1]; exact Blk.new w 38 _
  obtain ⟨n, hnn⟩ : ∃ n, n = l.length := ⟨_, rfl⟩
  obtain ⟨P, hP⟩ : ∃ P, P = posP p (pl l) := ⟨_, rfl⟩
  obtain ⟨Z, hZ⟩ : ∃ Z, Z = hasP p (pl l) := ⟨_, rfl⟩
  have hl : (pl l).length = n := by rw [pl_len]; exact hnn.symm
  have hPn : P ≤ n := by rw [hP, ← hl]; exact pos_le _ _
  have hZ2 := has_at (p := p) hs
  have mid1 : ∀ k (hk : k < l.length), ltP l[k].1 p = true → k < P := fun k hk h => by
    rcases Nat.lt_or_ge k P with h1 | h1
    · exact h1
    · have := pos_ge hs (i := k) (by rw [← hP]; exact h1) (by rw [pl_len]; exact hk)
      rw [pl_at hk, h] at this; cases this
  have mid2 : ∀ k (hk : k < l.length), ltP l[k].1 p = false → P ≤ k := fun k hk h => by
    rcases Nat.lt_or_ge k P with h1 | h1
    · obtain ⟨h2, h3⟩ := pos_lt (p := p) (l := pl l) k (by rw [← hP]; exact h1)
      rw [pl_at hk, h] at h3; cases h3
    · exact h1
  have hZ3 : ∀ hk : P < l.length, eqP l[P].1 p = Z := fun hk => by
    rw [hZ, Bool.eq_iff_iff, hZ2]
    constructor
    · intro h; exact ⟨by rw [← hP, pl_len]; exact hk, by simp only [← hP]; rw [pl_at hk]; exact h⟩
    · rintro ⟨h, h3⟩; simp only [← hP] at h3; rw [pl_at hk] at h3; exact h3
  have hZ4 : P = n → Z = false := fun h => by
    cases h5 : Z with
    | false => rfl
    | true => rw [hZ] at h5; obtain ⟨h6, _⟩ := hZ2.1 h5; rw [← hP, hl] at h6; omega
  rw [← hnn, ← hP, ← hZ]
  rw [← hnn] at hn hcp hA
  have hc1 := hc.below hb1
  unfold prV
  replace hb1 := Lib.hid hb1
  replace hR := Lib.hid hR
  replace hc1 := Lib.hid hc1
  replace hnn := Lib.hid hnn
  replace mid1 := Lib.hid mid1
  replace mid2 := Lib.hid mid2
  replace hZ3 := Lib.hid hZ3
  replace hZ4 := Lib.hid hZ4
  replace hA := Lib.hid hA
  replace hPn := Lib.hid hPn
  clear hs hc hP hZ hZ2 hl
  go_enter Tryz.func57, Tryz.ntmps57
  go_upto_region 1 with (fail)
  rw [← hW1]
  replace hW1 := Lib.hid hW1
  go_wp2
  go_loopw [9, 10] (fun s9 s10 wr => ∃ lo hi : Nat, s9 = .int .i64 lo ∧ s10 = .int .i64 hi ∧ lo ≤ P ∧ P ≤ hi ∧ hi ≤ n ∧ Blk wr w.heap.size 38 #[.string p.sp, .string p.nm, .int .i64 p.kd, .slice C m d] ∧ CellsP wr g l ∧ Below w.heap.size w wr) (fun s9 s10 _ => (RowKit.intOf s10).toNat - (RowKit.intOf s9).toNat)
  case atStart => exact ⟨0, n, rfl, rfl, Nat.zero_le _, hPn.out, Nat.le_refl _, hR.out, hc1.out, hb1.out⟩
  case round =>
    obtain ⟨lo, hi, rfl, rfl, h1, h2, h3, hRr, hcr, hBr⟩ := hrel
    obtain ⟨q0, q1, q2, q3⟩ := blk4 hRr
    by_cases hlt : lo < hi
    · obtain ⟨k, hk⟩ : ∃ k, k = (lo + hi) / 2 := ⟨_, rfl⟩
      have hkl : k < l.length := by rw [← hnn.out]; omega
      have hA := hA.out (by omega)
      subst hA
      obtain ⟨x0, x1, x2, x3⟩ := hcr k hkl
      have co := fun W => xmp_order (w := W) l[k].1 p l[k].2.1 C l[k].1.it.length l[k].2.2 m d
      have m1 := mid1.out k hkl
      have m2 := mid2.out k hkl
      have on := ord_neg (p := l[k].1) (q := p)
      generalize l[k] = x at x0 x1 x2 x3 co m1 m2 on
      unfold prV at co
      generalize ordI x.1 p = r at co on
      have hmid : ((lo : Int) + (hi : Int)) / 2 = (k : Int) := by omega
      have hkk : lo ≤ k ∧ k < hi := by omega
      have hkn : (k : Int) < (n : Int) := by omega
      replace hRr := Lib.hid hRr
      replace hcr := Lib.hid hcr
      replace hBr := Lib.hid hBr
      replace hk := Lib.hid hk
      have kp := fun W (hW : Below wr.heap.size wr W) => And.intro ((hW.cell (cell_lt x0)).trans x0) (And.intro ((hW.cell (cell_lt x1)).trans x1) (And.intro ((hW.cell (cell_lt x2)).trans x2) (And.intro ((hW.cell (cell_lt x3)).trans x3) (And.intro ((hW.cell (cell_lt q0)).trans q0) (And.intro ((hW.cell (cell_lt q1)).trans q1) (And.intro ((hW.cell (cell_lt q2)).trans q2) ((hW.cell (cell_lt q3)).trans q3)))))))
      replace kp := Lib.hid kp
      replace m1 := Lib.hid m1
      replace m2 := Lib.hid m2
      replace on := Lib.hid on
      replace co := Lib.hid co
      clear x0 x1 x2 x3 q0 q1 q2 q3
      go_upto_region 5 with (fail)
      refine wp_lin_tail (by kernel_rfl) [none, none, none, none, none, none, none, none, none, none, none, none, none, none, none, none, none, none, none, none, none, none, none, none, some 0, some 1, some 2, some 3, some 4, some 5, none, none, none, none, none, none, none, none, none, none, none, none, none, none, none, none, none, none, none] (fun w' => Below wr.heap.size wr w') (fun w' w'' => Below w'.heap.size w' w'') (GB5 g n cap w.heap.size k #[.string x.1.sp, .string x.1.nm, .int .i64 x.1.kd, .slice x.2.1 x.1.it.length x.2.2] #[.string p.sp, .string p.nm, .int .i64 p.kd, .slice C m d]) (by rfl) (by kernel_rfl) 6 _ rfl (by decide) (by kernel_rfl) [6, 3, 3, 4, 6, 6] (by kernel_rfl) ?shR ?smono (.cons 5 (Wk.step_of [] rfl (by kernel_rfl) ?s5) (.cons 4 (Wk.step_of [3] rfl (by kernel_rfl) ?s4) (.cons 3 (Wk.step_of [1, 2] rfl (by kernel_rfl) ?s3) (.cons 2 (Wk.step_of [] rfl (by kernel_rfl) ?s2) (.cons 1 (Wk.step_of [] rfl (by kernel_rfl) ?s1) (.cons 0 (Wk.step_of [] rfl (by kernel_rfl) ?s0) (.nil))))))) ?sdone
      case shR => exact (Below.refl _ _).drew
      case smono => exact GB5_mono
      case s0 =>
        intro x' w' hRw hd K' hK
        simp only [All, GB5] at hd
        simp (config := {decide := true}) only [upd, GB5, fillL, if_true, if_false] at hK ⊢
        go_simp
        have hK2 := hK _ _ ⟨hRw, Below.refl _ _, rfl⟩
        exact hK2
      case s1 =>
        intro x' w' hRw hd K' hK
        simp only [All, GB5] at hd
        simp (config := {decide := true}) only [upd, GB5, fillL, if_true, if_false] at hK ⊢
        go_simp
        have hK2 := hK _ _ ⟨hRw, Below.refl _ _, rfl⟩
        exact hK2
      case s2 =>
        intro x' w' hRw hd K' hK
        simp only [All, GB5] at hd
        simp (config := {decide := true}) only [upd, GB5, fillL, if_true, if_false] at hK ⊢
        go_simp
        have hK2 := hK _ _ ⟨hRw, Below.refl _ _, rfl⟩
        exact hK2
      case s3 =>
        intro x' w' hRw hd K' hK
        simp only [All, GB5] at hd
        obtain ⟨e1, e2, _⟩ := hd
        simp (config := {decide := true}) only [upd, GB5, fillL, if_true, if_false] at hK ⊢
        simp only [e1, e2] at hK ⊢
        go_simp
        have hK2 := hK _ _ ⟨hRw, Below.refl _ _, rfl⟩
        exact hK2
      case s4 =>
        intro x' w' hRw hd K' hK
        simp only [All, GB5] at hd
        obtain ⟨e3, _⟩ := hd
        simp (config := {decide := true}) only [upd, GB5, fillL, if_true, if_false] at hK ⊢
        simp only [e3] at hK ⊢
        obtain ⟨y0, y1, y2, y3, y4, y5, y6, y7⟩ := kp.out w' hRw
        go_simp
        have hK2 := hK _ _ ⟨hRw, Below.refl _ _, rfl⟩
        exact hK2
      case s5 =>
        intro x' w' hRw hd K' hK
        simp only [All, GB5] at hd
        simp (config := {decide := true}) only [upd, GB5, fillL, if_true, if_false] at hK ⊢
        obtain ⟨y0, y1, y2, y3, y4, y5, y6, y7⟩ := kp.out w' hRw
        go_simp
        have hK2 := hK _ _ ⟨hRw, Below.refl _ _, rfl⟩
        exact hK2
      case sdone =>
        intro x' w4 hR2 hG fr hfr
        have e0 := hG 0 (by omega)
        have e4 := hG 4 (by omega)
        have e5 := hG 5 (by omega)
        simp only [GB5] at e0 e4 e5
        simp only [fillL] at hfr
        rw [e0, e4, e5] at hfr
        clear hG e0 e4 e5
        have hR4 := hRr.out.below hR2 hRr.out.lt
        have hc4 := hcr.out.below hR2
        have hB4 := bthen hBr.out hR2
        have co4 := co.out w4
        replace hR2 := Lib.hid hR2
        replace hR4 := Lib.hid hR4
        replace hc4 := Lib.hid hc4
        replace hB4 := Lib.hid hB4
        subst hfr
        by_cases hr : r < 0
        · have hk1 := m1.out (on.out.1 hr)
          go_wp2_with (go_at_call 58; (with_reducible refine co4.mono ?_); rintro e w5 ⟨rfl, hB5⟩; have hR5 := hR4.out.below hB5 hR4.out.lt; have hc5 := hc4.out.below hB5; have hB6 := bthen hB4.out hB5; replace hR5 := Lib.hid hR5; replace hc5 := Lib.hid hc5; replace hB6 := Lib.hid hB6; clear hB5)
          go_roundw
          case rel => exact ⟨k + 1, hi, by go_num, rfl, by omega, h2, h3, hR5.out, hc5.out, hB6.out⟩
          case measure => simp [RowKit.intOf]; omega
        · have hk1 := m2.out (by cases h9 : ltP x.1 p with | false => rfl | true => exact absurd (on.out.2 h9) hr)
          go_wp2_with (go_at_call 58; (with_reducible refine co4.mono ?_); rintro e w5 ⟨rfl, hB5⟩; have hR5 := hR4.out.below hB5 hR4.out.lt; have hc5 := hc4.out.below hB5; have hB6 := bthen hB4.out hB5; replace hR5 := Lib.hid hR5; replace hc5 := Lib.hid hc5; replace hB6 := Lib.hid hB6; clear hB5)
          go_roundw
          case rel => exact ⟨lo, k, rfl, rfl, h1, hk1, by omega, hR5.out, hc5.out, hB6.out⟩
          case measure => simp [RowKit.intOf]; omega
    · obtain rfl : lo = P := by omega
      obtain rfl : hi = lo := by omega
      by_cases hln : hi < n
      · have hkl : hi < l.length := by rw [← hnn.out]; omega
        have hA := hA.out (by omega)
        subst hA
        obtain ⟨x0, x1, x2, x3⟩ := hcr hi hkl
        have co := fun W => xmp_order (w := W) l[hi].1 p l[hi].2.1 C l[hi].1.it.length l[hi].2.2 m d
        have hz := hZ3.out hkl
        have oz := ord_zero (p := l[hi].1) (q := p)
        generalize l[hi] = x at x0 x1 x2 x3 co hz oz
        unfold prV at co
        generalize ordI x.1 p = r at co oz
        have hrz : Value.bool (r == 0) = Value.bool Z := by rw [← hz]; congr 1; rw [Bool.eq_iff_iff, beq_iff_eq]; exact oz
        have kp := fun W (hW : Below wr.heap.size wr W) => And.intro ((hW.cell (cell_lt x0)).trans x0) (And.intro ((hW.cell (cell_lt x1)).trans x1) (And.intro ((hW.cell (cell_lt x2)).trans x2) (And.intro ((hW.cell (cell_lt x3)).trans x3) (And.intro ((hW.cell (cell_lt q0)).trans q0) (And.intro ((hW.cell (cell_lt q1)).trans q1) (And.intro ((hW.cell (cell_lt q2)).trans q2) ((hW.cell (cell_lt q3)).trans q3)))))))
        clear hz oz h1 h2 x0 x1 x2 x3 q0 q1 q2 q3
        replace kp := Lib.hid kp
        replace co := Lib.hid co
        replace hrz := Lib.hid hrz
        replace hRr := Lib.hid hRr
        replace hcr := Lib.hid hcr
        replace hBr := Lib.hid hBr
        have hle : (hi : Int) < (n : Int) := by omega
        go_upto_region 8 with (fail)
        refine wp_lin_tail (by kernel_rfl) [none, none, none, none, none, none, some 14, none, none, none, none, none, none, none, none, none, none, none, none, none, none, none, none, none, none, none, none, none, none, none, none, none, none, none, none, some 0, some 1, some 2, some 3, some 4, some 5, some 6, some 7, some 8, some 9, some 10, some 11, some 12, some 13] (fun w' => Below wr.heap.size wr w') (fun w' w'' => Below w'.heap.size w' w'') (GB8 g n cap hi #[.string x.1.sp, .string x.1.nm, .int .i64 x.1.kd, .slice x.2.1 x.1.it.length x.2.2] #[.string p.sp, .string p.nm, .int .i64 p.kd, .slice C m d] r Z) (by rfl) (by kernel_rfl) 15 _ rfl (by decide) (by kernel_rfl) [15, 15, 15, 15, 15, 15, 15, 15, 15, 15, 15, 15, 15, 15, 15] (by kernel_rfl) ?thR ?tmono (.cons 14 (Wk.step_of [0] rfl (by kernel_rfl) ?t14) (.cons 13 (Wk.step_of [4, 12] rfl (by kernel_rfl) ?t13) (.cons 12 (Wk.step_of [4, 11] rfl (by kernel_rfl) ?t12) (.cons 11 (Wk.step_of [4, 5, 9, 10] rfl (by kernel_rfl) ?t11) (.cons 10 (Wk.step_of [4] rfl (by kernel_rfl) ?t10) (.cons 9 (Wk.step_of [4, 8] rfl (by kernel_rfl) ?t9) (.cons 8 (Wk.step_of [4, 6, 7] rfl (by kernel_rfl) ?t8) (.cons 7 (Wk.step_of [4] rfl (by kernel_rfl) ?t7) (.cons 6 (Wk.step_of [4] rfl (by kernel_rfl) ?t6) (.cons 5 (Wk.step_of [4] rfl (by kernel_rfl) ?t5) (.cons 4 (Wk.step_of [3] rfl (by kernel_rfl) ?t4) (.cons 3 (Wk.step_of [1, 2] rfl (by kernel_rfl) ?t3) (.cons 2 (Wk.step_of [] rfl (by kernel_rfl) ?t2) (.cons 1 (Wk.step_of [] rfl (by kernel_rfl) ?t1) (.cons 0 (Wk.step_of [] rfl (by kernel_rfl) ?t0) (.nil)))))))))))))))) ?tdone
        case thR => exact (Below.refl _ _).drew
        case tmono => exact GB8_mono
        case t0 =>
          intro x' w' hRw hd K' hK
          simp only [All, GB8] at hd
          simp (config := {decide := true}) only [upd, GB8, fillL, if_true, if_false] at hK ⊢
          go_simp
          have hK2 := hK _ _ ⟨hRw, Below.refl _ _, rfl⟩
          exact hK2
        case t1 =>
          intro x' w' hRw hd K' hK
          simp only [All, GB8] at hd
          simp (config := {decide := true}) only [upd, GB8, fillL, if_true, if_false] at hK ⊢
          go_simp
          have hK2 := hK _ _ ⟨hRw, Below.refl _ _, rfl⟩
          exact hK2
        case t2 =>
          intro x' w' hRw hd K' hK
          simp only [All, GB8] at hd
          simp (config := {decide := true}) only [upd, GB8, fillL, if_true, if_false] at hK ⊢
          go_simp
          have hK2 := hK _ _ ⟨hRw, Below.refl _ _, rfl⟩
          exact hK2
        case t3 =>
          intro x' w' hRw hd K' hK
          simp only [All, GB8] at hd
          obtain ⟨e1, e2, _⟩ := hd
          simp (config := {decide := true}) only [upd, GB8, fillL, if_true, if_false] at hK ⊢
          simp only [e1, e2] at hK ⊢
          go_simp
          have hK2 := hK _ _ ⟨hRw, Below.refl _ _, rfl⟩
          exact hK2
        case t4 =>
          intro x' w' hRw hd K' hK
          simp only [All, GB8] at hd
          obtain ⟨e3, _⟩ := hd
          simp (config := {decide := true}) only [upd, GB8, fillL, if_true, if_false] at hK ⊢
          simp only [e3] at hK ⊢
          go_simp
          have hK2 := hK _ _ ⟨hRw, Below.refl _ _, rfl⟩
          exact hK2
        case t5 =>
          intro x' w' hRw hd K' hK
          simp only [All, GB8] at hd
          obtain ⟨e4, _⟩ := hd
          simp (config := {decide := true}) only [upd, GB8, fillL, if_true, if_false] at hK ⊢
          simp only [e4] at hK ⊢
          go_simp
          have hK2 := hK _ _ ⟨hRw, Below.refl _ _, rfl⟩
          exact hK2
        case t6 =>
          intro x' w' hRw hd K' hK
          simp only [All, GB8] at hd
          obtain ⟨e4, _⟩ := hd
          simp (config := {decide := true}) only [upd, GB8, fillL, if_true, if_false] at hK ⊢
          simp only [e4] at hK ⊢
          go_simp
          have hK2 := hK _ _ ⟨hRw, Below.refl _ _, rfl⟩
          exact hK2
        case t7 =>
          intro x' w' hRw hd K' hK
          simp only [All, GB8] at hd
          obtain ⟨e4, _⟩ := hd
          simp (config := {decide := true}) only [upd, GB8, fillL, if_true, if_false] at hK ⊢
          simp only [e4] at hK ⊢
          go_simp
          have hK2 := hK _ _ ⟨hRw, Below.refl _ _, rfl⟩
          exact hK2
        case t8 =>
          intro x' w' hRw hd K' hK
          simp only [All, GB8] at hd
          obtain ⟨e4, e6, e7, _⟩ := hd
          simp (config := {decide := true}) only [upd, GB8, fillL, if_true, if_false] at hK ⊢
          simp only [e4, e6, e7] at hK ⊢
          go_simp
          have hK2 := hK _ _ ⟨hRw, Below.refl _ _, rfl⟩
          exact hK2
        case t9 =>
          intro x' w' hRw hd K' hK
          simp only [All, GB8] at hd
          obtain ⟨e4, e8, _⟩ := hd
          simp (config := {decide := true}) only [upd, GB8, fillL, if_true, if_false] at hK ⊢
          simp only [e4, e8] at hK ⊢
          obtain ⟨y0, y1, y2, y3, y4, y5, y6, y7⟩ := kp.out w' hRw
          go_simp
          have hK2 := hK _ _ ⟨hRw, Below.refl _ _, rfl⟩
          exact hK2
        case t10 =>
          intro x' w' hRw hd K' hK
          simp only [All, GB8] at hd
          obtain ⟨e4, _⟩ := hd
          simp (config := {decide := true}) only [upd, GB8, fillL, if_true, if_false] at hK ⊢
          simp only [e4] at hK ⊢
          obtain ⟨y0, y1, y2, y3, y4, y5, y6, y7⟩ := kp.out w' hRw
          go_simp
          have hK2 := hK _ _ ⟨hRw, Below.refl _ _, rfl⟩
          exact hK2
        case t11 =>
          intro x' w' hRw hd K' hK
          simp only [All, GB8] at hd
          obtain ⟨e4, e5, e9, e10, _⟩ := hd
          simp (config := {decide := true}) only [upd, GB8, fillL, if_true, if_false] at hK ⊢
          simp only [e4, e5, e9, e10] at hK ⊢
          go_simp
          refine (co.out _).mono ?_
          rintro e' w2 ⟨rfl, hB9⟩
          have hK2 := hK _ _ ⟨bthen hRw hB9, hB9, rfl⟩
          exact hK2
        case t12 =>
          intro x' w' hRw hd K' hK
          simp only [All, GB8] at hd
          obtain ⟨e4, e11, _⟩ := hd
          simp (config := {decide := true}) only [upd, GB8, fillL, if_true, if_false] at hK ⊢
          simp only [e4, e11] at hK ⊢
          go_simp
          have hK2 := hK _ _ ⟨hRw, Below.refl _ _, hrz.out⟩
          exact hK2
        case t13 =>
          intro x' w' hRw hd K' hK
          simp only [All, GB8] at hd
          obtain ⟨e4, e12, _⟩ := hd
          simp (config := {decide := true}) only [upd, GB8, fillL, if_true, if_false] at hK ⊢
          simp only [e4, e12] at hK ⊢
          go_simp
          have hK2 := hK _ _ ⟨hRw, Below.refl _ _, rfl⟩
          exact hK2
        case t14 =>
          intro x' w' hRw hd K' hK
          simp only [All, GB8] at hd
          obtain ⟨e0, _⟩ := hd
          simp (config := {decide := true}) only [upd, GB8, fillL, if_true, if_false] at hK ⊢
          simp only [e0] at hK ⊢
          go_simp
          have hK2 := hK _ _ ⟨hRw, Below.refl _ _, rfl⟩
          exact hK2
        case tdone =>
          intro x' w4 hR2 hG fr hfr
          have e0 := hG 14 (by omega)
          have e13 := hG 13 (by omega)
          simp only [GB8] at e0 e13
          simp only [fillL] at hfr
          rw [e0, e13] at hfr
          clear hG e0 e13
          have hB4 := bthen hBr.out hR2
          replace hR2 := Lib.hid hR2
          replace hB4 := Lib.hid hB4
          subst hfr
          go_wp2
          go_ret2
          exact ⟨rfl, hB4.out⟩
      · have hz := hZ4.out (by omega)
        subst hz
        clear q0 q1 q2 q3
        replace hRr := Lib.hid hRr
        replace hcr := Lib.hid hcr
        replace hBr := Lib.hid hBr
        obtain rfl : hi = n := by omega
        go_upto_region 8 with (fail)
        refine wp_lin_tail (by kernel_rfl) [none, none, none, none, none, none, some 14, none, none, none, none, none, none, none, none, none, none, none, none, none, none, none, none, none, none, none, none, none, none, none, none, none, none, none, none, some 0, some 1, some 2, some 3, some 4, some 5, some 6, some 7, some 8, some 9, some 10, some 11, some 12, some 13] (fun w' => Below wr.heap.size wr w') (fun w' w'' => Below w'.heap.size w' w'') (GB9 hi) (by rfl) (by kernel_rfl) 15 _ rfl (by decide) (by kernel_rfl) [15, 15, 15, 15, 15, 15, 15, 15, 15, 15, 15, 15, 15, 15, 15] (by kernel_rfl) ?uhR ?umono (.cons 14 (Wk.step_of [0] rfl (by kernel_rfl) ?u14) (.cons 13 (Wk.step_of [4] rfl (by kernel_rfl) ?u13) (.cons 12 (Wk.step_of [4] rfl (by kernel_rfl) ?u12) (.cons 11 (Wk.step_of [4] rfl (by kernel_rfl) ?u11) (.cons 10 (Wk.step_of [4] rfl (by kernel_rfl) ?u10) (.cons 9 (Wk.step_of [4] rfl (by kernel_rfl) ?u9) (.cons 8 (Wk.step_of [4] rfl (by kernel_rfl) ?u8) (.cons 7 (Wk.step_of [4] rfl (by kernel_rfl) ?u7) (.cons 6 (Wk.step_of [4] rfl (by kernel_rfl) ?u6) (.cons 5 (Wk.step_of [4] rfl (by kernel_rfl) ?u5) (.cons 4 (Wk.step_of [3] rfl (by kernel_rfl) ?u4) (.cons 3 (Wk.step_of [1, 2] rfl (by kernel_rfl) ?u3) (.cons 2 (Wk.step_of [] rfl (by kernel_rfl) ?u2) (.cons 1 (Wk.step_of [] rfl (by kernel_rfl) ?u1) (.cons 0 (Wk.step_of [] rfl (by kernel_rfl) ?u0) (.nil)))))))))))))))) ?udone
        case uhR => exact (Below.refl _ _).drew
        case umono => exact GB9_mono
        case u0 =>
          intro x' w' hRw hd K' hK
          simp only [All, GB9] at hd
          simp (config := {decide := true}) only [upd, GB9, fillL, if_true, if_false] at hK ⊢
          go_simp
          have hK2 := hK _ _ ⟨hRw, Below.refl _ _, rfl⟩
          exact hK2
        case u1 =>
          intro x' w' hRw hd K' hK
          simp only [All, GB9] at hd
          simp (config := {decide := true}) only [upd, GB9, fillL, if_true, if_false] at hK ⊢
          go_simp
          have hK2 := hK _ _ ⟨hRw, Below.refl _ _, rfl⟩
          exact hK2
        case u2 =>
          intro x' w' hRw hd K' hK
          simp only [All, GB9] at hd
          simp (config := {decide := true}) only [upd, GB9, fillL, if_true, if_false] at hK ⊢
          go_simp
          have hK2 := hK _ _ ⟨hRw, Below.refl _ _, rfl⟩
          exact hK2
        case u3 =>
          intro x' w' hRw hd K' hK
          simp only [All, GB9] at hd
          obtain ⟨e1, e2, _⟩ := hd
          simp (config := {decide := true}) only [upd, GB9, fillL, if_true, if_false] at hK ⊢
          simp only [e1, e2] at hK ⊢
          go_simp
          have hK2 := hK _ _ ⟨hRw, Below.refl _ _, rfl⟩
          exact hK2
        case u4 =>
          intro x' w' hRw hd K' hK
          simp only [All, GB9] at hd
          obtain ⟨e3, _⟩ := hd
          simp (config := {decide := true}) only [upd, GB9, fillL, if_true, if_false] at hK ⊢
          simp only [e3] at hK ⊢
          go_simp
          have hK2 := hK _ _ ⟨hRw, Below.refl _ _, rfl⟩
          exact hK2
        case u5 =>
          intro x' w' hRw hd K' hK
          simp only [All, GB9] at hd
          obtain ⟨e4, _⟩ := hd
          simp (config := {decide := true}) only [upd, GB9, fillL, if_true, if_false] at hK ⊢
          simp only [e4] at hK ⊢
          go_simp
          have hK2 := hK undef _ ⟨hRw, Below.refl _ _, trivial⟩
          exact hK2
        case u6 =>
          intro x' w' hRw hd K' hK
          simp only [All, GB9] at hd
          obtain ⟨e4, _⟩ := hd
          simp (config := {decide := true}) only [upd, GB9, fillL, if_true, if_false] at hK ⊢
          simp only [e4] at hK ⊢
          go_simp
          have hK2 := hK undef _ ⟨hRw, Below.refl _ _, trivial⟩
          exact hK2
        case u7 =>
          intro x' w' hRw hd K' hK
          simp only [All, GB9] at hd
          obtain ⟨e4, _⟩ := hd
          simp (config := {decide := true}) only [upd, GB9, fillL, if_true, if_false] at hK ⊢
          simp only [e4] at hK ⊢
          go_simp
          have hK2 := hK undef _ ⟨hRw, Below.refl _ _, trivial⟩
          exact hK2
        case u8 =>
          intro x' w' hRw hd K' hK
          simp only [All, GB9] at hd
          obtain ⟨e4, _⟩ := hd
          simp (config := {decide := true}) only [upd, GB9, fillL, if_true, if_false] at hK ⊢
          simp only [e4] at hK ⊢
          go_simp
          have hK2 := hK undef _ ⟨hRw, Below.refl _ _, trivial⟩
          exact hK2
        case u9 =>
          intro x' w' hRw hd K' hK
          simp only [All, GB9] at hd
          obtain ⟨e4, _⟩ := hd
          simp (config := {decide := true}) only [upd, GB9, fillL, if_true, if_false] at hK ⊢
          simp only [e4] at hK ⊢
          go_simp
          have hK2 := hK undef _ ⟨hRw, Below.refl _ _, trivial⟩
          exact hK2
        case u10 =>
          intro x' w' hRw hd K' hK
          simp only [All, GB9] at hd
          obtain ⟨e4, _⟩ := hd
          simp (config := {decide := true}) only [upd, GB9, fillL, if_true, if_false] at hK ⊢
          simp only [e4] at hK ⊢
          go_simp
          have hK2 := hK undef _ ⟨hRw, Below.refl _ _, trivial⟩
          exact hK2
        case u11 =>
          intro x' w' hRw hd K' hK
          simp only [All, GB9] at hd
          obtain ⟨e4, _⟩ := hd
          simp (config := {decide := true}) only [upd, GB9, fillL, if_true, if_false] at hK ⊢
          simp only [e4] at hK ⊢
          go_simp
          have hK2 := hK undef _ ⟨hRw, Below.refl _ _, trivial⟩
          exact hK2
        case u12 =>
          intro x' w' hRw hd K' hK
          simp only [All, GB9] at hd
          obtain ⟨e4, _⟩ := hd
          simp (config := {decide := true}) only [upd, GB9, fillL, if_true, if_false] at hK ⊢
          simp only [e4] at hK ⊢
          go_simp
          have hK2 := hK undef _ ⟨hRw, Below.refl _ _, trivial⟩
          exact hK2
        case u13 =>
          intro x' w' hRw hd K' hK
          simp only [All, GB9] at hd
          obtain ⟨e4, _⟩ := hd
          simp (config := {decide := true}) only [upd, GB9, fillL, if_true, if_false] at hK ⊢
          simp only [e4] at hK ⊢
          go_simp
          have hK2 := hK _ _ ⟨hRw, Below.refl _ _, rfl⟩
          exact hK2
        case u14 =>
          intro x' w' hRw hd K' hK
          simp only [All, GB9] at hd
          obtain ⟨e0, _⟩ := hd
          simp (config := {decide := true}) only [upd, GB9, fillL, if_true, if_false] at hK ⊢
          simp only [e0] at hK ⊢
          go_simp
          have hK2 := hK _ _ ⟨hRw, Below.refl _ _, rfl⟩
          exact hK2
        case udone =>
          intro x' w4 hR2 hG fr hfr
          have e0 := hG 14 (by omega)
          have e13 := hG 13 (by omega)
          simp only [GB9] at e0 e13
          simp only [fillL] at hfr
          rw [e0, e13] at hfr
          clear hG e0 e13
          have hB4 := bthen hBr.out hR2
          replace hR2 := Lib.hid hR2
          replace hB4 := Lib.hid hB4
          subst hfr
          go_wp2
          go_ret2
          exact ⟨rfl, hB4.out⟩
end Go.Proofs.YtkpikpaepgknnaaGreatDoor

/- A property put into a row. No condition. -/
namespace Go.Xw
open Go Go.Wk Go.RowKit
/-- a copy of whole elements within a row, or into it -/
theorem run_copy_rows (P : Program) (w : World) (dT sT ty elem : TypeId) (g o dLen dCap : Nat) (a : Addr) (sLen sCap : Nat) (cur : Array Value) (t : TypeId) (cs : List Value) (k : Nat)
    (hu : P.underlying dT = some (.slice elem)) (hs : (P.info? elem).map (·.size) = some k)
    (hg : w.heap[g]? = some (.cells cur t (0, 0))) (hn : cs.length = Nat.min sLen dLen * k)
    (hsrc : ∀ j v, cs[j]? = some v → w.cell? (a.add j) = some v) (hfit : o + cs.length ≤ cur.size) (h1 : ∀ v ∈ cs, v.oneCell' = true) :
    (Builtin.copy_ #[dT, sT] ty #[.slice (some ⟨g, o, none⟩) dLen dCap, .slice (some a) sLen sCap]).run P w =
      .ok (goInt (Nat.min sLen dLen : Nat)) (w.setRow g (cur.toList.take o ++ cs ++ cur.toList.drop (o + cs.length)).toArray) := by
  have hl := run_loadCells_list (P := P) w a cs hsrc
  have hst := run_storeCells_at P g o t cs 0 cur w hg (by simpa using hfit) h1
  cases hq : P.info? elem with
  | none => simp [hq] at hs
  | some i =>
    have hi : i.size = k := by simpa [hq] using hs
    simp [Builtin.copy_, run_underlying hu, Builtin.lenOf, Builtin.firstCells, sizeOf, typeInfo, hq, hi, ← hn, hl, hst]
theorem prs_len (x : PA) : (prs x).length = 4 := rfl
theorem prs_one (x : PA) : ∀ u ∈ prs x, u.oneCell' = true := by
  intro u hu
  simp only [prs, List.mem_cons, List.not_mem_nil, or_false] at hu
  rcases hu with rfl | rfl | rfl | rfl <;> rfl
theorem flat_one (l : List PA) : ∀ u ∈ flatP l, u.oneCell' = true := by
  intro u hu
  obtain ⟨x, _, hx⟩ := List.mem_flatMap.1 hu
  exact prs_one x u hx
theorem flat_app (a b : List PA) : flatP (a ++ b) = flatP a ++ flatP b := List.flatMap_append
theorem flat_take (l : List PA) (i : Nat) : flatP (l.take i) = (flatP l).take (i * 4) := by
  induction l generalizing i with
  | nil => simp [flatP]
  | cons x l ih =>
    cases i with
    | zero => simp [flatP]
    | succ i =>
      have := ih i
      unfold flatP at *
      rw [List.take_succ_cons, List.flatMap_cons, List.flatMap_cons, this, List.take_append, List.take_of_length_le (show (prs x).length ≤ (i + 1) * 4 by rw [prs_len]; omega), prs_len, show (i + 1) * 4 - 4 = i * 4 by omega]
theorem flat_drop (l : List PA) (i : Nat) : flatP (l.drop i) = (flatP l).drop (i * 4) := by
  have h1 := flat_app (l.take i) (l.drop i)
  rw [List.take_append_drop, flat_take] at h1
  have h2 := List.take_append_drop (i * 4) (flatP l)
  rw [← h2] at h1
  have h3 : (flatP l).take (i * 4) ++ (flatP l).drop (i * 4) = (flatP l).take (i * 4) ++ flatP (l.drop i) := by
    rw [List.take_append_drop] at h1 ⊢
    rw [← List.take_append_drop (i * 4) (flatP l)] at h1
    simpa using h1
  exact (List.append_cancel_left h3).symm
theorem row_grown (w : World) (g : Nat) (cs : Array Value) : w.grownBy (w.setRow g cs) (some g) := by
  refine ⟨rfl, rfl, rfl, by simp [World.setRow], fun k _ hk => ?_⟩
  have hne : ¬ g = k := fun e => hk (by rw [e])
  simp [World.setRow, Array.getElem?_modify, hne]
theorem row_blk {w : World} {g : Nat} {cur cs : Array Value} {t : TypeId} (h : Blk w g t cur) : Blk (w.setRow g cs) g t cs := setRow_heap w g cur cs t (0, 0) h
end Go.Xw
namespace Go.Proofs.YtkpikpaepgknnaaGreatDoor
open Go Go.RowKit Go.Wk Go.Xt Go.Xe Go.Xw
theorem prop_info : ∃ i, Tryz.prog.info? 38 = some i ∧ i.zero = some (.agg #[.string ⟨#[]⟩, .string ⟨#[]⟩, .int .i64 0, .slice none 0 0]) ∧ i.size = 4 ∧ i.bytes = 64 := ⟨Tryz.t38, by kernel_rfl, by kernel_rfl, by kernel_rfl, by kernel_rfl⟩
theorem app_eq (w : World) (ty : TypeId) (ba : Option Addr) (la ca : Nat) (b : Value) : (Builtin.append_ #[59, 29] ty #[.slice ba la ca, b]).run Tryz.prog w = (Builtin.append_ #[59, 59] ty #[.slice ba la ca, b]).run Tryz.prog w := by
  have hz := Tryz.sizeOf38
  simp only [Builtin.append_, Sem.run_bind, run_underlying Tryz.underlying59, run_underlying Tryz.underlying29, Result.andThen_ok, List.getElem?_toArray, List.getElem?_cons_zero, List.getElem?_cons_succ, hz]
theorem app_row {w : World} {B : Nat} {v : Value} {n : Nat} {xs : List Value} (hO : w.ownsRow B 38 4 v n xs) (vb : Nat) (x : PA) (hx : Blk w vb 38 (prs x).toArray) (hn : n ≤ 20) (hB : B ≤ w.heap.size) (ty : TypeId) :
    ∃ v' w', (Builtin.append_ #[59, 29] ty #[v, .slice (some ⟨vb, 0, none⟩) 1 1]).run Tryz.prog w = .ok v' w' ∧ w'.ownsRow B 38 4 v' (n + 1) (xs ++ prs x) ∧ w.grownBy w' v.ownBlock := by
  obtain ⟨i0, hi, hz, hs, hb⟩ := prop_info
  obtain ⟨v', w', h1, h2, h3, _⟩ := run_append_own_at (P := Tryz.prog) w B 59 ty 38 i0 _ 4 64 Tryz.underlying59 hi hz hs hb rfl (by decide) v n xs hO ⟨vb, 0, none⟩ 1 1 (prs x) (prs_len x)
    (fun j u hu => by
      have := hx.cell j
      rw [add_none, Nat.zero_add, this]
      simpa using hu) (prs_one x) (by unfold maxLen; omega) (by omega) hB
  obtain ⟨ba, la, ca, rfl⟩ : ∃ ba la ca, v = .slice ba la ca := by rcases hO.2 with ⟨rfl, _⟩ | ⟨g, cap, cur, rfl, _⟩ <;> exact ⟨_, _, _, rfl⟩
  exact ⟨v', w', by rw [app_eq]; exact h1, h2, h3⟩
set_option maxHeartbeats 4000000 in
set_option maxRecDepth 100000 in
theorem ins_end {w : World} (B : Nat) (v : Value) (n : Nat) (xs : List Value) (hO : w.ownsRow B 38 4 v n xs) (hn : n ≤ 20) (vb : Nat) (x : PA) (hx : Blk w vb 38 (prs x).toArray) (hB : B ≤ w.heap.size) :
    Calls Tryz.prog 59 #[v, .int .i64 (n : Nat), .slice (some ⟨vb, 0, none⟩) 1 1] w fun e w' => ∃ v', e = .returned v' ∧ w'.ownsRow B 38 4 v' (n + 1) (xs ++ prs x) ∧ w.grownBy w' v.ownBlock := by
  have ha := fun ty => app_row hO vb x hx hn hB ty
  replace ha := Lib.hid ha
  rcases hO.2 with ⟨rfl, rfl⟩ | ⟨g, cap, cur, rfl, hg1, hg2, hcp, hcm, hsz, htk⟩
  · go_enter Tryz.func59, Tryz.ntmps59
    go_wp2_with (at_builtin; obtain ⟨v', w', h1, h2, h3⟩ := ha.out 59; refine Lib.wpList_append_run _ rfl _ _ _ _ rfl _ _ rfl rfl _ _ h1 ?_)
    go_ret
    exact ⟨_, rfl, h2, h3⟩
  · clear hg2 hsz htk
    unfold maxLen at hcm
    go_enter Tryz.func59, Tryz.ntmps59
    go_wp2_with (at_builtin; obtain ⟨v', w', h1, h2, h3⟩ := ha.out 59; refine Lib.wpList_append_run _ rfl _ _ _ _ rfl _ _ rfl rfl _ _ h1 ?_)
    all_goals go_ret
    all_goals exact ⟨_, rfl, h2, h3⟩
def GI (g n cap i : Nat) : Nat → Value → World → Prop := fun j v _ => match j with
  | 0 => v = .slice (some ⟨g, 0, none⟩) (n + 1) cap
  | 1 => v = .int .i64 (i : Nat)
  | 2 => v = .int .i64 1
  | 3 => v = .int .i64 ((i : Int) + 1)
  | 4 => v = .slice (some ⟨g, (i + 1) * 4, none⟩) (n - i) (cap - (i + 1))
  | 5 => v = .slice (some ⟨g, 0, none⟩) (n + 1) cap
  | 6 => v = .int .i64 (i : Nat)
  | _ => v = .slice (some ⟨g, i * 4, none⟩) (n + 1 - i) (cap - i)
theorem GI_mono {g n cap i : Nat} (j : Nat) (v : Value) (w w' : World) (hG : GI g n cap i j v w) (hk : Below w.heap.size w w') : GI g n cap i j v w' := by
  unfold GI at hG ⊢; exact hG
/-- the plain row behind both copies -/
theorem row_two {cur : List Value} {l : List PA} {x : PA} {n i cap : Nat} (hl : l.length = n) (hi : i < n) (hroom : n + 1 ≤ cap) (hsz : cur.length = cap * 4) (htk : cur.take (n * 4) = flatP l) :
    ∀ F R1 R2 : List Value, F = (flatP l).drop (i * 4) → R1 = cur.take ((i + 1) * 4) ++ F ++ cur.drop ((i + 1) * 4 + F.length) → R2 = R1.take (i * 4) ++ prs x ++ R1.drop (i * 4 + 4) →
    R1.length = cap * 4 ∧ R2.length = cap * 4 ∧ R2.take ((n + 1) * 4) = flatP (l.take i ++ x :: l.drop i) := by
  intro F R1 R2 eF eR1 eR2
  have hf : (flatP l).length = n * 4 := by rw [Xw.flat_len, hl]
  have hF : F.length = n * 4 - i * 4 := by rw [eF, List.length_drop, hf]
  have h1 : R1.length = cap * 4 := by
    rw [eR1, List.length_append, List.length_append, List.length_take, List.length_drop, hF, hsz]; omega
  have hp : (prs x).length = 4 := rfl
  have h2 : R2.length = cap * 4 := by
    rw [eR2, List.length_append, List.length_append, List.length_take, List.length_drop, hp, h1]; omega
  refine ⟨h1, h2, ?_⟩
  have e1 : R1.take (i * 4) = (flatP l).take (i * 4) := by
    rw [eR1, List.append_assoc, List.take_append_of_le_length (by rw [List.length_take, hsz]; omega), List.take_take, Nat.min_eq_left (by omega), ← htk, List.take_take, Nat.min_eq_left (by omega)]
  have e2 : R1.drop (i * 4 + 4) = F ++ cur.drop ((i + 1) * 4 + F.length) := by
    rw [eR1, List.append_assoc, List.drop_append, List.length_take, hsz, Nat.min_eq_left (by omega), List.drop_eq_nil_of_le (by rw [List.length_take]; omega), show i * 4 + 4 - (i + 1) * 4 = 0 by omega]
    rfl
  have hlen : ((flatP l).take (i * 4) ++ prs x ++ F).length = (n + 1) * 4 := by
    rw [List.length_append, List.length_append, List.length_take, hp, hF, hf]; omega
  rw [eR2, e1, e2, ← List.append_assoc, List.take_append_of_le_length (by omega), List.take_of_length_le (by omega), flat_app, flat_take]
  have : flatP (x :: l.drop i) = prs x ++ flatP (l.drop i) := rfl
  rw [this, flat_drop, ← eF, List.append_assoc]
set_option maxHeartbeats 8000000 in
set_option maxRecDepth 100000 in
theorem ins_room {w : World} (g cap n i : Nat) (cur : Array Value) (l : List PA) (hl : l.length = n) (hi : i < n) (hn : n ≤ 20) (hroom : n + 1 ≤ cap) (hcm : cap ≤ maxLen) (hg : Blk w g 38 cur) (hsz : cur.size = cap * 4) (htk : cur.toList.take (n * 4) = flatP l) (vb : Nat) (x : PA) (hx : Blk w vb 38 (prs x).toArray) (hne : vb ≠ g) :
    Calls Tryz.prog 59 #[.slice (some ⟨g, 0, none⟩) n cap, .int .i64 (i : Nat), .slice (some ⟨vb, 0, none⟩) 1 1] w fun e w' => e = .returned (.slice (some ⟨g, 0, none⟩) (n + 1) cap) ∧ w.grownBy w' (some g) ∧ ∃ R : List Value, Blk w' g 38 R.toArray ∧ R.length = cap * 4 ∧ R.take ((n + 1) * 4) = flatP (l.take i ++ x :: l.drop i) := by
  unfold maxLen at hcm
  have hov : ∀ lb cb, (callFunc 88 #[.slice (some ⟨vb, 0, none⟩) 1 1, .slice (some ⟨g, (i + 1) * 4, none⟩) lb cb]).run Tryz.prog w = .ok (.value (.bool false)) w := fun lb cb => by
    rw [run_callFunc_extern Tryz.func88 (by kernel_rfl) (by kernel_rfl) (by kernel_rfl) (e := Extern.SlicesOverlaps.overlaps #[29, 29] #[4]) (by kernel_rfl),
      Lib.run_overlaps_apart w 29 4 38 Tryz.underlying29 4 Tryz.sizeOf38 ⟨vb, 0, none⟩ ⟨g, (i + 1) * 4, none⟩ 1 1 lb cb hne 38 38 4 (cap * 4) (by unfold Blk at hx; simp [World.shape?, hx, prs]) (by unfold Blk at hg; simp [World.shape?, hg, hsz]) (by omega) (hx.frozen 0) (hx.frozen 4)]
    rfl
  have hw1 : IntKind.i64.wrap ((i : Int) + 1) = (i : Int) + 1 := by rw [IntKind.wrap_i64]; omega
  have hb1 : (0 : Int) ≤ (i : Int) + 1 := by omega
  have htn : ((i : Int) + 1).toNat = i + 1 := by omega
  have hb2 : ¬ (cap = i + 1) := by omega
  have hb4 : ¬ (cap = i) := by omega
  have hz2 : ¬ ((i : Int) = (n : Int)) := by omega
  replace hg := Lib.hid hg
  replace hx := Lib.hid hx
  replace htk := Lib.hid htk
  replace hl := Lib.hid hl
  replace hsz := Lib.hid hsz
  go_enter Tryz.func59, Tryz.ntmps59
  go_wp2_with (simp only [hov])
  obtain ⟨bb, hbb⟩ : ∃ b, b = ((i : Int) == (n : Int)) := ⟨_, rfl⟩
  rw [← hbb]
  obtain ⟨bc, hbc⟩ : ∃ b, b = decide ((cap : Int) < (n : Int) + 1) := ⟨_, rfl⟩
  rw [← hbc]
  clear hbb hbc
  have hin : i ≤ n := by omega
  have hin1 : (i : Int) ≤ (n : Int) + 1 := by omega
  refine wp_lin_tail (by kernel_rfl) [none, none, none, none, none, none, none, none, none, none, none, none, none, none, none, none, none, none, none, none, none, none, none, none, none, none, none, none, none, none, none, none, none, none, none, none, none, none, none, none, none, none, none, none, none, none, none, none, none, none, none, none, none, none, none, none, none, none, none, none, none, none, none, none, none, none, none, none, none, some 0, some 1, some 2, some 3, some 4, some 5, some 6, some 7, none, none, none, none, none, none, none, none, none, none, none, none, none, none, none, none, none, none] (fun w' => Below w.heap.size w w') (fun w' w'' => Below w'.heap.size w' w'') (GI g n cap i) (by rfl) (by kernel_rfl) 8 _ rfl (by decide) (by kernel_rfl) [4, 3, 3, 4, 8, 7, 7, 8] (by kernel_rfl) ?shR ?smono (.cons 7 (Wk.step_of [5, 6] rfl (by kernel_rfl) ?s7) (.cons 6 (Wk.step_of [] rfl (by kernel_rfl) ?s6) (.cons 5 (Wk.step_of [] rfl (by kernel_rfl) ?s5) (.cons 4 (Wk.step_of [0, 3] rfl (by kernel_rfl) ?s4) (.cons 3 (Wk.step_of [1, 2] rfl (by kernel_rfl) ?s3) (.cons 2 (Wk.step_of [] rfl (by kernel_rfl) ?s2) (.cons 1 (Wk.step_of [] rfl (by kernel_rfl) ?s1) (.cons 0 (Wk.step_of [] rfl (by kernel_rfl) ?s0) (.nil))))))))) ?sdone
  case shR => exact (Below.refl _ _).drew
  case smono => exact GI_mono
  case s0 =>
    intro x' w' hRw hd K' hK
    simp only [All, GI] at hd
    simp (config := {decide := true}) only [upd, GI, fillL, if_true, if_false] at hK ⊢
    go_simp
    have hK2 := hK _ _ ⟨hRw, Below.refl _ _, rfl⟩
    exact hK2
  case s1 =>
    intro x' w' hRw hd K' hK
    simp only [All, GI] at hd
    simp (config := {decide := true}) only [upd, GI, fillL, if_true, if_false] at hK ⊢
    go_simp
    have hK2 := hK _ _ ⟨hRw, Below.refl _ _, rfl⟩
    exact hK2
  case s2 =>
    intro x' w' hRw hd K' hK
    simp only [All, GI] at hd
    simp (config := {decide := true}) only [upd, GI, fillL, if_true, if_false] at hK ⊢
    go_simp
    have hK2 := hK _ _ ⟨hRw, Below.refl _ _, rfl⟩
    exact hK2
  case s3 =>
    intro x' w' hRw hd K' hK
    simp only [All, GI] at hd
    obtain ⟨e1, e2, _⟩ := hd
    simp (config := {decide := true}) only [upd, GI, fillL, if_true, if_false] at hK ⊢
    simp only [e1, e2] at hK ⊢
    go_simp
    have hK2 := hK _ _ ⟨hRw, Below.refl _ _, rfl⟩
    exact hK2
  case s4 =>
    intro x' w' hRw hd K' hK
    simp only [All, GI] at hd
    obtain ⟨e0, e3, _⟩ := hd
    simp (config := {decide := true}) only [upd, GI, fillL, if_true, if_false] at hK ⊢
    simp only [e0, e3] at hK ⊢
    go_simp
    have hK2 := hK _ _ ⟨hRw, Below.refl _ _, rfl⟩
    exact hK2
  case s5 =>
    intro x' w' hRw hd K' hK
    simp only [All, GI] at hd
    simp (config := {decide := true}) only [upd, GI, fillL, if_true, if_false] at hK ⊢
    go_simp
    have hK2 := hK _ _ ⟨hRw, Below.refl _ _, rfl⟩
    exact hK2
  case s6 =>
    intro x' w' hRw hd K' hK
    simp only [All, GI] at hd
    simp (config := {decide := true}) only [upd, GI, fillL, if_true, if_false] at hK ⊢
    go_simp
    have hK2 := hK _ _ ⟨hRw, Below.refl _ _, rfl⟩
    exact hK2
  case s7 =>
    intro x' w' hRw hd K' hK
    simp only [All, GI] at hd
    obtain ⟨e5, e6, _⟩ := hd
    simp (config := {decide := true}) only [upd, GI, fillL, if_true, if_false] at hK ⊢
    simp only [e5, e6] at hK ⊢
    go_simp
    have hK2 := hK _ _ ⟨hRw, Below.refl _ _, rfl⟩
    exact hK2
  case sdone =>
    intro x' w4 hR2 hG fr hfr
    have e4 := hG 4 (by omega)
    have e7 := hG 7 (by omega)
    simp only [GI] at e4 e7
    simp only [fillL] at hfr
    rw [e4, e7] at hfr
    clear hG e4 e7
    have hg4 := hg.out.below hR2 hg.out.lt
    have hx4 := hx.out.below hR2 hx.out.lt
    obtain ⟨F, hF⟩ : ∃ F, F = (flatP l).drop (i * 4) := ⟨_, rfl⟩
    have hszl : cur.toList.length = cap * 4 := by rw [Array.length_toList]; exact hsz.out
    have hFl : F.length = (n - i) * 4 := by rw [hF, List.length_drop, Xw.flat_len, hl.out]; omega
    obtain ⟨R1, hR1⟩ : ∃ R, R = cur.toList.take ((i + 1) * 4) ++ F ++ cur.toList.drop ((i + 1) * 4 + F.length) := ⟨_, rfl⟩
    obtain ⟨R2, hR2'⟩ : ∃ R, R = R1.take (i * 4) ++ prs x ++ R1.drop (i * 4 + 4) := ⟨_, rfl⟩
    obtain ⟨z1, z2, z3⟩ := row_two (x := x) hl.out hi hroom hszl htk.out F R1 R2 hF hR1 hR2'
    have hcp1 : ∀ ty, (Builtin.copy_ #[59, 59] ty #[.slice (some ⟨g, (i + 1) * 4, none⟩) (n - i) (cap - (i + 1)), .slice (some ⟨g, i * 4, none⟩) (n + 1 - i) (cap - i)]).run Tryz.prog w4 = .ok (goInt (Nat.min (n + 1 - i) (n - i) : Nat)) (w4.setRow g R1.toArray) := fun ty => by
      rw [hR1]
      exact run_copy_rows Tryz.prog w4 59 59 ty 38 g ((i + 1) * 4) (n - i) (cap - (i + 1)) ⟨g, i * 4, none⟩ (n + 1 - i) (cap - i) cur 38 F 4 Tryz.underlying59 (by kernel_rfl) hg4 (by rw [hFl]; simp only [Nat.min_def]; split <;> omega) (fun j v hj => by
        rw [add_none, hg4.cell]
        rw [hF, List.getElem?_drop, ← htk.out, List.getElem?_take] at hj
        split at hj
        · rw [← Array.getElem?_toList]; exact hj
        · cases hj) (by rw [hFl, hsz.out]; omega) (fun v hv => flat_one l v (by rw [hF] at hv; exact List.mem_of_mem_drop hv))
    have hgb := row_blk (cs := R1.toArray) hg4
    have hxb : Blk (w4.setRow g R1.toArray) vb 38 (prs x).toArray := hx4.grown (row_grown w4 g _) (by intro e; injection e with e; exact hne e)
    have hgr := row_grown w4 g R1.toArray
    obtain ⟨w5, hw5⟩ : ∃ W, W = w4.setRow g R1.toArray := ⟨_, rfl⟩
    rw [← hw5] at hcp1 hgb hxb hgr
    have hcp2 : ∀ ty, (Builtin.copy_ #[59, 29] ty #[.slice (some ⟨g, i * 4, none⟩) (n + 1 - i) (cap - i), .slice (some ⟨vb, 0, none⟩) 1 1]).run Tryz.prog w5 = .ok (goInt (Nat.min 1 (n + 1 - i) : Nat)) (w5.setRow g R2.toArray) := fun ty => by
      rw [hR2']
      have h0 := run_copy_rows Tryz.prog w5 59 29 ty 38 g (i * 4) (n + 1 - i) (cap - i) ⟨vb, 0, none⟩ 1 1 R1.toArray 38 (prs x) 4 Tryz.underlying59 (by kernel_rfl) hgb (by rw [prs_len]; simp only [Nat.min_def]; split <;> omega) (fun j v hj => by
        rw [add_none, Nat.zero_add, hxb.cell]; simpa using hj) (by rw [prs_len, List.size_toArray, z1]; omega) (prs_one x)
      rw [prs_len] at h0
      exact h0
    have hgb2 := row_blk (cs := R2.toArray) hgb
    have hgr2 := row_grown w5 g R2.toArray
    have hww : w.grownBy w4 (some g) := ⟨hR2.os, hR2.tape, hR2.output, hR2.size, fun k hk _ => hR2.block k hk⟩
    have hfin := (hww.trans hgr).trans hgr2
    replace hfin := Lib.hid hfin
    replace hgb2 := Lib.hid hgb2
    replace z2 := Lib.hid z2
    replace z3 := Lib.hid z3
    clear hg4 hx4 hF hszl z1 hFl hR1 hR2' hgb hxb hgr hw5 hgr2 hww hR2
    subst hfr
    refine wpList_copy_runI _ rfl _ _ 59 59 rfl _ _ rfl rfl (hcp1 _) ?_
    clear hcp1
    go_wp2_with (at_builtin; refine wpList_copy_runI _ rfl _ _ 59 29 rfl _ _ rfl rfl (hcp2 _) ?_)
    go_ret
    exact ⟨rfl, hfin.out, R2, hgb2.out, z2.out, z3.out⟩
end Go.Proofs.YtkpikpaepgknnaaGreatDoor

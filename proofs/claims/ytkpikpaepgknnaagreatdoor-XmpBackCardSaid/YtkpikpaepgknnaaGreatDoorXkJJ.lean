/- Walks and laws, joined: part J. No condition. -/
import Derived.Test.YtkpikpaepgknnaaGreatDoorXkJI
set_option linter.unusedSimpArgs false
set_option linter.unusedVariables false
/- What is written, by the document's own answer. No condition. -/
namespace Go.Proofs.YtkpikpaepgknnaaGreatDoor
open Go Go.RowKit Go.Wk Go.Xt Go.Xe Go.Xw
attribute [local go_sem ↓] Go.wp_at_zero Go.wp_at_succ
/-- a row's cells, from a place on -/
def CellsO (w : World) (g o : Nat) (l : List PA) : Prop := ∀ i (h : i < l.length), w.cell? ⟨g, o + i * 4, none⟩ = some (.string l[i].1.sp) ∧ w.cell? ⟨g, o + i * 4 + 1, none⟩ = some (.string l[i].1.nm) ∧ w.cell? ⟨g, o + i * 4 + 2, none⟩ = some (.int .i64 l[i].1.kd) ∧ w.cell? ⟨g, o + i * 4 + 3, none⟩ = some (.slice l[i].2.1 l[i].1.it.length l[i].2.2)
theorem CellsO.below {w w' : World} {g o : Nat} {l : List PA} (h : CellsO w g o l) (hb : Below w.heap.size w w') : CellsO w' g o l := fun i hi => by
  obtain ⟨a, b, c, d⟩ := h i hi
  exact ⟨(hb.cell (cell_lt a)).trans a, (hb.cell (cell_lt b)).trans b, (hb.cell (cell_lt c)).trans c, (hb.cell (cell_lt d)).trans d⟩
def LM (L : ByteArray) : ByteArray := ⟨(langL L.data.toList).toArray⟩
theorem ref_LM {w : World} (L : ByteArray) (hL : L.size ≤ 100) : Calls Tryz.prog 30 #[.string L] w fun e w' => e = .returned (.string (LM L)) ∧ w = w' :=
  (ref_langMark L hL).mono fun e w' ⟨R, h1, h2, _, h4⟩ => ⟨by rw [h1]; congr 2; unfold LM; rw [← h2], h4⟩
theorem LM_size (L : ByteArray) (hL : L.size ≤ 100) : (LM L).size ≤ 200 := by
  unfold LM langL
  have : L.data.toList.length = L.size := Array.length_toList
  split
  · decide
  · show (List.toArray _).size ≤ _
    simp; omega
theorem LM_list (L : ByteArray) : (LM L).data.toList = langL L.data.toList := by unfold LM; simp
/-- an element of an entry, but for its name's beginning -/
def liR (e : ByteArray × ByteArray) : Xw.Bs := [60, 114, 100, 102, 58, 108, 105] ++ langL e.1.data.toList ++ [62] ++ escS e.2.data.toList ++ [60, 47, 114, 100, 102, 58, 108, 105, 62]
theorem liR_mark (e : ByteArray × ByteArray) : liR e = markL e liL := by unfold liR markL liL; simp
def G18 (o L T E : ByteArray) (b g f : Nat) (sv : Value) : Nat → Value → World → Prop := fun j v _ => match j with
  | 0 => v = .string o
  | 1 => v = .pointer (some ⟨b, 3, none⟩)
  | 2 => v = sv
  | 3 => v = .pointer (some ⟨g, f, none⟩)
  | 4 => v = .pointer (some ⟨g, f, none⟩)
  | 5 => v = .string L
  | 6 => v = .string (LM L)
  | 7 => v = .string (o ++ LM L)
  | 8 => v = .string (o ++ LM L ++ ⟨#[62]⟩)
  | 9 => v = .pointer (some ⟨b, 3, none⟩)
  | 10 => v = sv
  | 11 => v = .pointer (some ⟨g, f, none⟩)
  | 12 => v = .pointer (some ⟨g, f + 1, none⟩)
  | 13 => v = .string T
  | 14 => v = .string E
  | _ => v = .string (o ++ LM L ++ ⟨#[62]⟩ ++ E)
theorem G18_mono {o L T E : ByteArray} {b g f : Nat} {sv : Value} (j : Nat) (v : Value) (w w' : World) (hG : G18 o L T E b g f sv j v w) (hk : Below w.heap.size w w') : G18 o L T E b g f sv j v w' := by
  unfold G18 at hG ⊢; exact hG
def G24 (o L T E : ByteArray) (b g f m : Nat) (sv : Value) : Nat → Value → World → Prop := fun j v _ => match j with
  | 0 => v = .string o
  | 1 => v = .string (o ++ ⟨#[60, 114, 100, 102, 58, 108, 105]⟩)
  | 2 => v = .pointer (some ⟨b, 3, none⟩)
  | 3 => v = sv
  | 4 => v = .int .i64 (m : Nat)
  | 5 => v = .pointer (some ⟨g, f, none⟩)
  | 6 => v = .pointer (some ⟨g, f, none⟩)
  | 7 => v = .string L
  | 8 => v = .string (LM L)
  | 9 => v = .string (o ++ ⟨#[60, 114, 100, 102, 58, 108, 105]⟩ ++ LM L)
  | 10 => v = .string (o ++ ⟨#[60, 114, 100, 102, 58, 108, 105]⟩ ++ LM L ++ ⟨#[62]⟩)
  | 11 => v = .pointer (some ⟨b, 3, none⟩)
  | 12 => v = sv
  | 13 => v = .int .i64 (m : Nat)
  | 14 => v = .pointer (some ⟨g, f, none⟩)
  | 15 => v = .pointer (some ⟨g, f + 1, none⟩)
  | 16 => v = .string T
  | 17 => v = .string E
  | 18 => v = .string (o ++ ⟨#[60, 114, 100, 102, 58, 108, 105]⟩ ++ LM L ++ ⟨#[62]⟩ ++ E)
  | _ => v = .string (o ++ ⟨#[60, 114, 100, 102, 58, 108, 105]⟩ ++ LM L ++ ⟨#[62]⟩ ++ E ++ ⟨#[60, 47, 114, 100, 102, 58, 108, 105, 62]⟩)
theorem G24_mono {o L T E : ByteArray} {b g f m : Nat} {sv : Value} (j : Nat) (v : Value) (w w' : World) (hG : G24 o L T E b g f m sv j v w) (hk : Below w.heap.size w w') : G24 o L T E b g f m sv j v w' := by
  unfold G24 at hG ⊢; exact hG
set_option maxHeartbeats 32000000 in
set_option maxRecDepth 100000 in
theorem ref_Write {w : World} (A : Option Addr) (g og c : Nat) (ps : List PA) (hA : 0 < ps.length → A = some ⟨g, og, none⟩) (hn : ps.length ≤ 20) (hcp : ps.length ≤ c) (hc : CellsO w g og ps) (hg : ∀ x ∈ ps, GoodP w x) (hT : Lib.Utf8Tabs 0 1 w) (h2 : 2 ≤ w.heap.size) :
    Calls Tryz.prog 12 #[.slice A ps.length c] w fun e w' => Below w.heap.size w w' ∧ Wrote (addAll [] (pl ps)) e w' := by
  obtain ⟨n, hnn⟩ : ∃ n, n = ps.length := ⟨_, rfl⟩
  obtain ⟨RES, hRES⟩ : ∃ r, r = addAll [] (pl ps) := ⟨_, rfl⟩
  rw [← hnn, ← hRES]
  rw [← hnn] at hn hcp hA
  have hc1 := hc
  have gd := fun x hx W (hW : Below w.heap.size w W) => (hg x hx).below hW
  have tabs := fun W (hW : Below w.heap.size w W) => tabs_below hT h2 hW
  have siz := fun W (hW : Below w.heap.size w W) => Nat.le_trans h2 hW.size
  replace gd := Lib.hid gd
  replace tabs := Lib.hid tabs
  replace siz := Lib.hid siz
  replace hc1 := Lib.hid hc1
  replace hnn := Lib.hid hnn
  replace hA := Lib.hid hA
  replace hRES := Lib.hid hRES
  clear hc hg hT h2
  go_enter Tryz.func12, Tryz.ntmps12
  go_wp2
  go_loopw [4, 5] (fun s4 s5 wr => ∃ (k : Nat) (l : List PA) (A' : Option Addr) (g' c' : Nat), k ≤ n ∧ s5 = .int .i64 k ∧ s4 = .slice A' k c' ∧ l.length = k ∧ (0 < k → A' = some ⟨g', 0, none⟩) ∧ k ≤ c' ∧ CellsP wr g' l ∧ Sorted (pl l) ∧ (∀ x ∈ l, GoodP w x ∧ mayB x.1 = true) ∧ RES = addAll (pl l) (pl (ps.drop k)) ∧ Below w.heap.size w wr) (fun _ s5 _ => n - (RowKit.intOf s5).toNat)
  case atStart => exact ⟨0, [], none, 0, 0, Nat.zero_le _, rfl, rfl, rfl, fun h => by omega, Nat.le_refl _, fun i hi => by simp at hi, List.Pairwise.nil, fun x hx => by simp at hx, hRES.out, Below.refl _ _⟩
  case round =>
    obtain ⟨k, l, A', g', c', hk, rfl, rfl, hlk, hA', hc', hcl, hso, hgl, hres, hB⟩ := hrel
    by_cases hkn : k < n
    · have hkl : k < ps.length := by rw [← hnn.out]; exact hkn
      have hAe := hA.out (by omega)
      subst hAe
      obtain ⟨x0, x1, x2, x3⟩ := hc1.out.below hB k hkl
      have hxm := List.getElem_mem hkl
      have hd : pl (ps.drop k) = ps[k].1 :: pl (ps.drop (k + 1)) := by rw [List.drop_eq_getElem_cons hkl]; rfl
      rw [hd] at hres
      clear hd
      generalize ps[k] = x at x0 x1 x2 x3 hxm hres
      have kx := fun W (hW : Below wr.heap.size wr W) => And.intro ((hW.cell (cell_lt x0)).trans x0) (And.intro ((hW.cell (cell_lt x1)).trans x1) (And.intro ((hW.cell (cell_lt x2)).trans x2) ((hW.cell (cell_lt x3)).trans x3)))
      obtain ⟨g1, g2, g3⟩ := gd.out x hxm wr hB
      have gx := gd.out x hxm w (Below.refl _ _)
      have c28 := ref_may (w := wr) x.1 x.2.1 x.2.2 g1 g3 (tabs.out wr hB) (siz.out wr hB)
      have c29 := fun W (hW : Below wr.heap.size wr W) => ref_add (w := W) A' g' c' l (by rw [hlk]; exact hA') (by omega) (by omega) (hcl.below hW) hso x
      unfold prV at c29
      rw [hlk] at c29
      obtain ⟨PN, hPN⟩ : ∃ P, P = posP x.1 (pl l) := ⟨_, rfl⟩
      obtain ⟨Z, hZ⟩ : ∃ z, z = hasP x.1 (pl l) := ⟨_, rfl⟩
      obtain ⟨RD, hRD⟩ : ∃ z, z = (x.1.sp.toList == rdfL) := ⟨_, rfl⟩
      obtain ⟨M, hM⟩ : ∃ z, z = mayB x.1 := ⟨_, rfl⟩
      have hmr : mayR x.1 = (M && !RD) := by rw [hM, hRD]; rfl
      rw [hmr] at c28
      clear hmr
      have ha : addP (pl l) x.1 = if (Z || RD) = true then none else some (pl (insL l x PN)) := by
        rw [hZ, hRD, hPN]; unfold insL; rw [pl_ins]; rfl
      have hsi : Z = false → Sorted (pl (insL l x PN)) := fun h => by
        have h3 := sorted_ins hso (hZ.symm.trans h)
        unfold insP at h3
        rw [← hPN] at h3
        unfold insL; rw [pl_ins]; exact h3
      have hil : (insL l x PN).length = k + 1 := by
        have h1 : PN ≤ l.length := by rw [hPN, ← pl_len l]; exact pos_le _ _
        unfold insL
        rw [List.length_append, List.length_cons, List.length_take, List.length_drop]; omega
      rw [← hPN, ← hZ, ← hRD] at c29
      rw [addAll_cons, ← hM, ha] at hres
      clear ha hPN hZ hRD g1 g2 g3 hso
      replace hM := Lib.hid hM
      replace hsi := Lib.hid hsi
      replace hil := Lib.hid hil
      replace kx := Lib.hid kx
      replace c28 := Lib.hid c28
      replace c29 := Lib.hid c29
      replace hB := Lib.hid hB
      replace hgl := Lib.hid hgl
      replace gx := Lib.hid gx
      replace hlk := Lib.hid hlk
      replace hA' := Lib.hid hA'
      clear hcl hxm
      cases M with
      | false =>
        have hr : RES = none := hres
        replace hr := Lib.hid hr
        clear hres
        go_wp2_with (go_at_call 28; (with_reducible refine c28.out.mono ?_); rintro e' w2 ⟨rfl, hb2⟩; replace hb2 := Lib.hid hb2)
        go_ret2
        refine ⟨bthen hB.out hb2.out, ?_⟩
        rw [hr.out]; rfl
      | true =>
        cases RD with
        | true =>
          have hr : RES = none := by rw [hres, Bool.or_true]; rfl
          replace hr := Lib.hid hr
          clear hres
          go_wp2_with (go_at_call 28; (with_reducible refine c28.out.mono ?_); rintro e' w2 ⟨rfl, hb2⟩; replace hb2 := Lib.hid hb2)
          go_ret2
          refine ⟨bthen hB.out hb2.out, ?_⟩
          rw [hr.out]; rfl
        | false =>
          cases Z with
          | true =>
            have hr : RES = none := hres
            replace hr := Lib.hid hr
            clear hres
            go_wp2_with (first
              | (go_at_call 28; (with_reducible refine c28.out.mono ?_); rintro e' w2 ⟨rfl, hb2⟩; obtain ⟨z0, z1, z2, z3⟩ := kx.out w2 hb2; have c29' := c29.out w2 hb2; replace c29' := Lib.hid c29'; replace hb2 := Lib.hid hb2)
              | (go_at_call 29; (with_reducible refine c29'.out.mono ?_); rintro e' w3 ⟨hb3, A9, n9, c9, rfl, -⟩; replace hb3 := Lib.hid hb3))
            go_ret2
            refine ⟨bthen hB.out (bthen hb2.out hb3.out), ?_⟩
            rw [hr.out]; rfl
          | false =>
            have hr : RES = addAll (pl (insL l x PN)) (pl (ps.drop (k + 1))) := hres
            replace hr := Lib.hid hr
            clear hres
            go_wp2_with (first
              | (go_at_call 28; (with_reducible refine c28.out.mono ?_); rintro e' w2 ⟨rfl, hb2⟩; obtain ⟨z0, z1, z2, z3⟩ := kx.out w2 hb2; have c29' := c29.out w2 hb2; replace c29' := Lib.hid c29'; replace hb2 := Lib.hid hb2)
              | (go_at_call 29; (with_reducible refine c29'.out.mono ?_); rintro e' w3 ⟨hb3, A9, n9, c9, rfl, h9⟩; obtain ⟨rfl, h9c, g9, rfl, h9x⟩ := h9 (by simp); replace hb3 := Lib.hid hb3; replace h9x := Lib.hid h9x; replace h9c := Lib.hid h9c))
            go_roundw
            case rel => exact ⟨k + 1, insL l x PN, _, g9, c9, by omega, by go_num, by rw [hil.out], hil.out, fun _ => rfl, by rw [← hil.out]; exact h9c.out, h9x.out, hsi.out (by simp), fun y hy => (mem_ins hy).elim (fun h => by rw [h]; exact ⟨gx.out, hM.out.symm⟩) (fun h => hgl.out y h), hr.out, bthen hB.out (bthen hb2.out hb3.out)⟩
            case measure => simp [RowKit.intOf]; omega
    · obtain rfl : k = n := by omega
      have hd : ps.drop k = [] := List.drop_eq_nil_of_le (by have := hnn.out; omega)
      rw [hd] at hres
      have hR9 : RES = some (pl l) := hres
      clear hres hd hso
      have hB0 := hB
      replace hB0 := Lib.hid hB0
      have hc7 := hcl
      replace hc7 := Lib.hid hc7
      replace hgl := Lib.hid hgl
      replace hA' := Lib.hid hA'
      replace hlk := Lib.hid hlk
      replace hR9 := Lib.hid hR9
      obtain ⟨WX, hWX⟩ : ∃ W, W = wr := ⟨_, rfl⟩
      rw [← hWX] at hc7 hB0 ⊢
      replace hWX := Lib.hid hWX
      clear hcl hB
      go_wp2
      go_loopw [8, 9] (fun s8 s9 wq => ∃ (j : Nat) (o : ByteArray), j ≤ k ∧ s9 = .int .i64 j ∧ s8 = .string o ∧ o.data.toList = hdrL ++ (l.take j).flatMap (fun x => descL x.1) ∧ o.size ≤ 200 + j * 101000 ∧ Below WX.heap.size WX wq) (fun _ s9 _ => k - (RowKit.intOf s9).toNat)
      case atStart => exact ⟨0, _, Nat.zero_le _, rfl, rfl, by rw [List.take_zero, List.flatMap_nil, List.append_nil]; rfl, by decide, Below.refl _ _⟩
      case round =>
        obtain ⟨j, o, hj, rfl, rfl, ho, hos, hB⟩ := hrel
        by_cases hjk : j < k
        · have hjl : j < l.length := by rw [hlk.out]; exact hjk
          have hAe := hA'.out (by omega)
          subst hAe
          have hxm := List.getElem_mem hjl
          obtain ⟨x0, x1, x2, x3⟩ := hc7.out.below hB j hjl
          obtain ⟨gx, hm⟩ := hgl.out _ hxm
          have hT : hdrL ++ (l.take (j + 1)).flatMap (fun x => descL x.1) = o.data.toList ++ descL l[j].1 := by
            rw [ho, List.take_succ_eq_append_getElem hjl, List.flatMap_append]; simp
          generalize l[j] = x at x0 x1 x2 x3 gx hm hT
          obtain ⟨WY, hWY⟩ : ∃ W, W = wr.alloc (.cells #[.string x.1.sp, .string x.1.nm, .int .i64 x.1.kd, .slice x.2.1 x.1.it.length x.2.2] 43) := ⟨_, rfl⟩
          have hbY : Below wr.heap.size wr WY := by rw [hWY]; exact (Below.refl _ _).alloc (Nat.le_refl _) _
          have hBY := bthen hB hbY
          have hBZ := bthen hB0.out hBY
          have hRY : Blk WY wr.heap.size 43 #[.string x.1.sp, .string x.1.nm, .int .i64 x.1.kd, .slice x.2.1 x.1.it.length x.2.2] := by rw [hWY]; exact Blk.new wr 43 _
          have kb := fun W (hW : Below WY.heap.size WY W) => blk4 (hRY.below hW hRY.lt)
          obtain ⟨y0, y1, y2, y3⟩ := blk4 hRY
          obtain ⟨bY, hbk⟩ : ∃ b, b = wr.heap.size := ⟨_, rfl⟩
          rw [← hbk] at hRY kb y0 y1 y2 y3
          have gY := gx.below hBZ
          obtain ⟨gy1, gy2, gy3⟩ := gY
          have tY := tabs.out WY hBZ
          have zY := siz.out WY hBZ
          have hkd := may_kind hm
          obtain ⟨⟨sp, nm, kd, it⟩, B, cB⟩ := x
          simp only at gy1 gy2 gy3 hkd kb y0 y1 y2 y3 hWY hT x0 x1 x2 x3
          obtain ⟨i1, i2, i3, i4⟩ := gy3
          simp only at i1 i2 i3 i4
          obtain ⟨m, hm9⟩ : ∃ m, m = it.length := ⟨_, rfl⟩
          rw [← hm9] at hWY x3 y3 kb i3 gy2 hkd
          unfold kindB at hkd
          simp only [Bool.and_eq_true, decide_eq_true_eq, Bool.or_eq_true, bne_iff_ne, beq_iff_eq] at hkd
          obtain ⟨k1, k2, k3⟩ := hkd
          have cm : ∀ i (hi : i < it.length), ∃ E : ByteArray, E.data.toList = escS it[i].2.data.toList ∧ E.size ≤ 3000 ∧ (∀ W, Below WY.heap.size WY W → Calls Tryz.prog 31 #[.string it[i].2] W fun e w' => e = .returned (.string E) ∧ Below W.heap.size W w') ∧ (∀ W, Calls Tryz.prog 30 #[.string it[i].1] W fun e w' => e = .returned (.string (LM it[i].1)) ∧ W = w') ∧ (LM it[i].1).size ≤ 200 := fun i hi => by
            have h4 := i4 _ (List.getElem_mem hi)
            obtain ⟨E, h1, h2, _, h3⟩ := esc_of (w := WY) it[i].2 (by omega) tY zY
            exact ⟨E, h1, h2, h3, fun W => ref_LM _ h4.1, LM_size _ h4.1⟩
          have hos2 : o.size ≤ 2000000 := by omega
          have hjn : j < 20 := by omega
          replace hT := Lib.hid hT
          replace ho := Lib.hid ho
          replace kb := Lib.hid kb
          replace cm := Lib.hid cm
          replace hBY := Lib.hid hBY
          replace hbY := Lib.hid hbY
          replace hB := Lib.hid hB
          replace hm9 := Lib.hid hm9
          replace gy1 := Lib.hid gy1
          replace hos := Lib.hid hos
          replace hbk := Lib.hid hbk
          clear gx hm hRY hBZ hxm i4 tY zY
          go_upto_region 16 with (fail)
          rw [← hWY]
          rw [← hbk.out]
          replace hWY := Lib.hid hWY
          go_upto_region 17 with (fail)
          obtain ⟨PRE, hPRE⟩ : ∃ s : ByteArray, s = o ++ ⟨#[60, 114, 100, 102, 58, 68, 101, 115, 99, 114, 105, 112, 116, 105, 111, 110, 32, 114, 100, 102, 58, 97, 98, 111, 117, 116, 61, 34, 34, 32, 120, 109, 108, 110, 115, 58, 112, 61, 34]⟩ ++ sp ++ ⟨#[34, 62, 60, 112, 58]⟩ ++ nm := ⟨_, rfl⟩
          have hPs : PRE.size ≤ o.size + 444 := by rw [hPRE]; simp only [ByteArray.size_append]; show _ + 39 + _ + 5 + _ ≤ _; omega
          have hPl : PRE.data.toList = o.data.toList ++ (D1.data.toList ++ sp.data.toList ++ [34, 62, 60, 112, 58] ++ nm.data.toList) := by rw [hPRE]; unfold D1; simp only [ba_app]; simp
          replace hPl := Lib.hid hPl
          rw [← hPRE]
          replace hPRE := Lib.hid hPRE
          clear x0 x1 x2 x3
          by_cases h0 : kd = 0
          · subst h0
            have hn1 : m = 1 := k3.elim (fun h => absurd rfl h) id
            clear k1 k2 k3
            obtain ⟨en, rfl⟩ : ∃ e, it = [e] := by
              have := hm9.out
              rw [hn1] at this
              match it, this with
              | [e], _ => exact ⟨e, rfl⟩
            subst hn1
            obtain ⟨gg, oo, rfl, hcs⟩ := gy1.out (by simp)
            obtain ⟨w0, w1⟩ := hcs 0 (by simp)
            obtain ⟨E, hE, hEs, c31, c30, hLs⟩ := cm.out 0 (by simp)
            obtain ⟨L, T⟩ := en
            simp only [List.getElem_cons_zero] at w0 w1 c30 c31 hE hLs
            rw [Nat.zero_mul, Nat.add_zero] at w0 w1
            have ke := fun W (hW : Below WY.heap.size WY W) => And.intro ((hW.cell (cell_lt w0)).trans w0) ((hW.cell (cell_lt w1)).trans w1)
            have zo : PRE.size ≤ 2300000 := by omega
            replace ke := Lib.hid ke
            replace zo := Lib.hid zo
            have zl := Lib.hid hLs
            have ze := Lib.hid hEs
            replace hE := Lib.hid hE
            replace c30 := Lib.hid c30
            replace c31 := Lib.hid c31
            clear hcs w0 w1 cm
            go_upto_region 18 with (fail)
            refine wp_lin_tail (by kernel_rfl) [none, none, none, none, none, none, none, none, none, none, none, none, none, none, none, none, none, none, none, none, none, none, none, none, none, none, none, none, none, none, none, none, none, none, none, none, none, none, none, none, none, none, none, none, none, none, none, none, none, none, none, none, none, none, none, none, none, none, none, some 0, some 1, some 2, some 3, some 4, some 5, some 6, some 7, some 8, some 9, some 10, some 11, some 12, some 13, some 14, some 15, none, none, none, none, none, none, none, none, none, none, none, none, none, none, none, none, none, none, none, none, none, none, none, none, none, none, none, none, none, none, none, none, none, none, none, none, none, none, none, none, none, none, none, none, none, none, none, none, none, none, none] (fun w' => Below WY.heap.size WY w') (fun w' w'' => Below w'.heap.size w' w'') (G18 PRE L T E bY gg oo (.slice (some ⟨gg, oo, none⟩) 1 cB)) (by rfl) (by kernel_rfl) 16 _ rfl (by decide) (by kernel_rfl) [7, 2, 3, 4, 5, 6, 7, 8, 15, 10, 11, 12, 13, 14, 15, 16] (by kernel_rfl) ?shR ?smono (.cons 15 (Wk.step_of [8, 14] rfl (by kernel_rfl) ?s15) (.cons 14 (Wk.step_of [13] rfl (by kernel_rfl) ?s14) (.cons 13 (Wk.step_of [12] rfl (by kernel_rfl) ?s13) (.cons 12 (Wk.step_of [11] rfl (by kernel_rfl) ?s12) (.cons 11 (Wk.step_of [10] rfl (by kernel_rfl) ?s11) (.cons 10 (Wk.step_of [9] rfl (by kernel_rfl) ?s10) (.cons 9 (Wk.step_of [] rfl (by kernel_rfl) ?s9) (.cons 8 (Wk.step_of [7] rfl (by kernel_rfl) ?s8) (.cons 7 (Wk.step_of [0, 6] rfl (by kernel_rfl) ?s7) (.cons 6 (Wk.step_of [5] rfl (by kernel_rfl) ?s6) (.cons 5 (Wk.step_of [4] rfl (by kernel_rfl) ?s5) (.cons 4 (Wk.step_of [3] rfl (by kernel_rfl) ?s4) (.cons 3 (Wk.step_of [2] rfl (by kernel_rfl) ?s3) (.cons 2 (Wk.step_of [1] rfl (by kernel_rfl) ?s2) (.cons 1 (Wk.step_of [] rfl (by kernel_rfl) ?s1) (.cons 0 (Wk.step_of [] rfl (by kernel_rfl) ?s0) (.nil))))))))))))))))) ?sdone
            case shR => exact (Below.refl _ _).drew
            case smono => exact G18_mono
            case s0 =>
              intro x' w' hRw hd K' hK
              simp only [All, G18] at hd
              simp (config := {decide := true}) only [upd, G18, fillL, if_true, if_false] at hK ⊢
              go_simp
              have hK2 := hK _ _ ⟨hRw, Below.refl _ _, rfl⟩
              exact hK2
            case s1 =>
              intro x' w' hRw hd K' hK
              simp only [All, G18] at hd
              simp (config := {decide := true}) only [upd, G18, fillL, if_true, if_false] at hK ⊢
              go_simp
              have hK2 := hK _ _ ⟨hRw, Below.refl _ _, rfl⟩
              exact hK2
            case s2 =>
              intro x' w' hRw hd K' hK
              simp only [All, G18] at hd
              obtain ⟨e1, _⟩ := hd
              simp (config := {decide := true}) only [upd, G18, fillL, if_true, if_false] at hK ⊢
              simp only [e1] at hK ⊢
              obtain ⟨y0, y1, y2, y3⟩ := kb.out w' hRw
              go_simp
              have hK2 := hK _ _ ⟨hRw, Below.refl _ _, rfl⟩
              exact hK2
            case s3 =>
              intro x' w' hRw hd K' hK
              simp only [All, G18] at hd
              obtain ⟨e2, _⟩ := hd
              simp (config := {decide := true}) only [upd, G18, fillL, if_true, if_false] at hK ⊢
              simp only [e2] at hK ⊢
              go_simp
              have hK2 := hK _ _ ⟨hRw, Below.refl _ _, rfl⟩
              exact hK2
            case s4 =>
              intro x' w' hRw hd K' hK
              simp only [All, G18] at hd
              obtain ⟨e3, _⟩ := hd
              simp (config := {decide := true}) only [upd, G18, fillL, if_true, if_false] at hK ⊢
              simp only [e3] at hK ⊢
              go_simp
              have hK2 := hK _ _ ⟨hRw, Below.refl _ _, rfl⟩
              exact hK2
            case s5 =>
              intro x' w' hRw hd K' hK
              simp only [All, G18] at hd
              obtain ⟨e4, _⟩ := hd
              simp (config := {decide := true}) only [upd, G18, fillL, if_true, if_false] at hK ⊢
              simp only [e4] at hK ⊢
              obtain ⟨q0, q1⟩ := ke.out w' hRw
              go_simp
              have hK2 := hK _ _ ⟨hRw, Below.refl _ _, rfl⟩
              exact hK2
            case s6 =>
              intro x' w' hRw hd K' hK
              simp only [All, G18] at hd
              obtain ⟨e5, _⟩ := hd
              simp (config := {decide := true}) only [upd, G18, fillL, if_true, if_false] at hK ⊢
              simp only [e5] at hK ⊢
              go_simp
              refine (c30.out w').mono ?_
              rintro e' w2 ⟨rfl, rfl⟩
              have hK2 := hK _ _ ⟨hRw, Below.refl _ _, rfl⟩
              exact hK2
            case s7 =>
              intro x' w' hRw hd K' hK
              simp only [All, G18] at hd
              obtain ⟨e0, e6, _⟩ := hd
              simp (config := {decide := true}) only [upd, G18, fillL, if_true, if_false] at hK ⊢
              simp only [e0, e6] at hK ⊢
              go_simp
              rw [if_neg (by
                have h1 := zo.out
                have h2 := zl.out
                have h3 := ze.out
                have h4 : (ByteArray.mk #[62]).size = 1 := rfl
                have h5 : (ByteArray.mk #[60, 114, 100, 102, 58, 108, 105]).size = 7 := rfl
                have h6 : (ByteArray.mk #[60, 47, 114, 100, 102, 58, 108, 105, 62]).size = 9 := rfl
                first | omega | (simp only [ByteArray.size_append]; omega))]
              have hK2 := hK _ _ ⟨hRw, Below.refl _ _, rfl⟩
              exact hK2
            case s8 =>
              intro x' w' hRw hd K' hK
              simp only [All, G18] at hd
              obtain ⟨e7, _⟩ := hd
              simp (config := {decide := true}) only [upd, G18, fillL, if_true, if_false] at hK ⊢
              simp only [e7] at hK ⊢
              go_simp
              rw [if_neg (by
                have h1 := zo.out
                have h2 := zl.out
                have h3 := ze.out
                have h4 : (ByteArray.mk #[62]).size = 1 := rfl
                have h5 : (ByteArray.mk #[60, 114, 100, 102, 58, 108, 105]).size = 7 := rfl
                have h6 : (ByteArray.mk #[60, 47, 114, 100, 102, 58, 108, 105, 62]).size = 9 := rfl
                first | omega | (simp only [ByteArray.size_append]; omega))]
              have hK2 := hK _ _ ⟨hRw, Below.refl _ _, rfl⟩
              exact hK2
            case s9 =>
              intro x' w' hRw hd K' hK
              simp only [All, G18] at hd
              simp (config := {decide := true}) only [upd, G18, fillL, if_true, if_false] at hK ⊢
              go_simp
              have hK2 := hK _ _ ⟨hRw, Below.refl _ _, rfl⟩
              exact hK2
            case s10 =>
              intro x' w' hRw hd K' hK
              simp only [All, G18] at hd
              obtain ⟨e9, _⟩ := hd
              simp (config := {decide := true}) only [upd, G18, fillL, if_true, if_false] at hK ⊢
              simp only [e9] at hK ⊢
              obtain ⟨y0, y1, y2, y3⟩ := kb.out w' hRw
              go_simp
              have hK2 := hK _ _ ⟨hRw, Below.refl _ _, rfl⟩
              exact hK2
            case s11 =>
              intro x' w' hRw hd K' hK
              simp only [All, G18] at hd
              obtain ⟨e10, _⟩ := hd
              simp (config := {decide := true}) only [upd, G18, fillL, if_true, if_false] at hK ⊢
              simp only [e10] at hK ⊢
              go_simp
              have hK2 := hK _ _ ⟨hRw, Below.refl _ _, rfl⟩
              exact hK2
            case s12 =>
              intro x' w' hRw hd K' hK
              simp only [All, G18] at hd
              obtain ⟨e11, _⟩ := hd
              simp (config := {decide := true}) only [upd, G18, fillL, if_true, if_false] at hK ⊢
              simp only [e11] at hK ⊢
              go_simp
              have hK2 := hK _ _ ⟨hRw, Below.refl _ _, rfl⟩
              exact hK2
            case s13 =>
              intro x' w' hRw hd K' hK
              simp only [All, G18] at hd
              obtain ⟨e12, _⟩ := hd
              simp (config := {decide := true}) only [upd, G18, fillL, if_true, if_false] at hK ⊢
              simp only [e12] at hK ⊢
              obtain ⟨q0, q1⟩ := ke.out w' hRw
              go_simp
              have hK2 := hK _ _ ⟨hRw, Below.refl _ _, rfl⟩
              exact hK2
            case s14 =>
              intro x' w' hRw hd K' hK
              simp only [All, G18] at hd
              obtain ⟨e13, _⟩ := hd
              simp (config := {decide := true}) only [upd, G18, fillL, if_true, if_false] at hK ⊢
              simp only [e13] at hK ⊢
              go_simp
              refine (c31.out w' hRw).mono ?_
              rintro e' w2 ⟨rfl, hB9⟩
              have hK2 := hK _ _ ⟨bthen hRw hB9, hB9, rfl⟩
              exact hK2
            case s15 =>
              intro x' w' hRw hd K' hK
              simp only [All, G18] at hd
              obtain ⟨e8, e14, _⟩ := hd
              simp (config := {decide := true}) only [upd, G18, fillL, if_true, if_false] at hK ⊢
              simp only [e8, e14] at hK ⊢
              go_simp
              rw [if_neg (by
                have h1 := zo.out
                have h2 := zl.out
                have h3 := ze.out
                have h4 : (ByteArray.mk #[62]).size = 1 := rfl
                have h5 : (ByteArray.mk #[60, 114, 100, 102, 58, 108, 105]).size = 7 := rfl
                have h6 : (ByteArray.mk #[60, 47, 114, 100, 102, 58, 108, 105, 62]).size = 9 := rfl
                first | omega | (simp only [ByteArray.size_append]; omega))]
              have hK2 := hK _ _ ⟨hRw, Below.refl _ _, rfl⟩
              exact hK2
            case sdone =>
              intro x' w7 hR7 hG fr hfr
              have e15 := hG 15 (by omega)
              simp only [G18] at e15
              simp only [fillL] at hfr
              rw [e15] at hfr
              clear hG e15
              obtain ⟨MID, hMID⟩ : ∃ s : ByteArray, s = PRE ++ LM L ++ ⟨#[62]⟩ ++ E := ⟨_, rfl⟩
              have hMs : MID.size ≤ PRE.size + 3300 := by rw [hMID]; simp only [ByteArray.size_append]; show _ + _ + 1 + _ ≤ _; omega
              have hMl : MID.data.toList = PRE.data.toList ++ (langL L.data.toList ++ [62] ++ escS T.data.toList) := by rw [hMID]; simp only [ba_app, LM_list, hE.out]; simp
              rw [← hMID] at hfr
              obtain ⟨y0, y1, y2, y3⟩ := kb.out w7 hR7
              replace hMl := Lib.hid hMl
              replace hR7 := Lib.hid hR7
              have hMs2 : MID.size ≤ 2400000 := by omega
              clear hMID
              subst hfr
              go_wp2
              go_roundw
              case rel =>
                refine ⟨j + 1, _, by omega, by go_num, rfl, ?_, ?_, hBY.out.trans (hR7.out.mono hBY.out.size)⟩
                · rw [hT.out]
                  simp only [ba_app, hMl.out, hPl.out]
                  unfold descL bodyL markL D2
                  simp
                · have h1 := hos.out
                  simp only [ByteArray.size_append]
                  show _ + 4 + _ + 20 ≤ _
                  omega
              case measure => simp [RowKit.intOf]; omega
          · clear k3
            have hkc : kd = 1 ∨ kd = 2 ∨ kd = 3 := by omega
            clear k1 k2 h0
            have hBB : Below WY.heap.size WY (WY.alloc (.cells #[.string ⟨#[]⟩, .string ⟨#[114, 100, 102, 58, 65, 108, 116]⟩, .string ⟨#[114, 100, 102, 58, 83, 101, 113]⟩, .string ⟨#[114, 100, 102, 58, 66, 97, 103]⟩] 9)) := (Below.refl _ _).alloc (Nat.le_refl _) _
            obtain ⟨b0, b1, b2, b3⟩ := kb.out _ hBB
            obtain ⟨t0, t1, t2, t3⟩ := blk4 (Blk.new WY 9 #[.string ⟨#[]⟩, .string ⟨#[114, 100, 102, 58, 65, 108, 116]⟩, .string ⟨#[114, 100, 102, 58, 83, 101, 113]⟩, .string ⟨#[114, 100, 102, 58, 66, 97, 103]⟩])
            replace hBB := Lib.hid hBB
            rcases hkc with hq | hq | hq
            · subst hq
              go_upto_region 19 with (fail)
              go_upto_region 20 with (fail)
              clear t0 t1 t2 t3 y0 y1 y2 y3 b0 b1 b2 b3
              generalize (WY.alloc (.cells #[.string ⟨#[]⟩, .string ⟨#[114, 100, 102, 58, 65, 108, 116]⟩, .string ⟨#[114, 100, 102, 58, 83, 101, 113]⟩, .string ⟨#[114, 100, 102, 58, 66, 97, 103]⟩] 9)) = WB at *
              go_upto_region 21 with (fail)
              obtain ⟨PR2, hPR2⟩ : ∃ s : ByteArray, s = PRE ++ ⟨#[62, 60]⟩ ++ ⟨#[114, 100, 102, 58, 65, 108, 116]⟩ ++ ⟨#[62]⟩ := ⟨_, rfl⟩
              have hP2s : PR2.size = PRE.size + 10 := by rw [hPR2]; simp only [ByteArray.size_append]; rfl
              have hP2b : PR2.size ≤ 2100000 := by omega
              have hP2l : PR2.data.toList = PRE.data.toList ++ ([62, 60] ++ ([114, 100, 102, 58] ++ kindL 1) ++ [62]) := by rw [hPR2]; simp only [ba_app]; simp [kindL]
              rw [← hPR2]
              replace hP2l := Lib.hid hP2l
              clear hPR2 hos2
              replace hP2s := Lib.hid hP2s
              replace hPs := Lib.hid hPs
              go_wp2
              go_loopw [8, 12] (fun s8 s12 wv => ∃ (q : Nat) (o2 : ByteArray), q ≤ m ∧ s12 = .int .i64 q ∧ s8 = .string o2 ∧ o2.data.toList = PR2.data.toList ++ (it.take q).flatMap (fun e => markL e liL) ∧ o2.size ≤ PR2.size + q * 4000 ∧ Below WB.heap.size WB wv) (fun _ s12 _ => m - (RowKit.intOf s12).toNat)
              case atStart => exact ⟨0, PR2, Nat.zero_le _, rfl, rfl, by simp, by omega, Below.refl _ _⟩
              case round =>
                obtain ⟨q, o2, hq, rfl, rfl, ho2, ho2s, hBv⟩ := hrel
                obtain ⟨v0, v1, v2, v3⟩ := kb.out wr (bthen hBB.out hBv)
                by_cases hqm : q < m
                · have hql : q < it.length := by rw [← hm9.out]; exact hqm
                  obtain ⟨gg, oo, rfl, hcs⟩ := gy1.out (by omega)
                  obtain ⟨w0, w1⟩ := hcs q hql
                  obtain ⟨E, hE, hEs, c31, c30, hLs⟩ := cm.out q hql
                  have hTq : (it.take (q + 1)).flatMap (fun e => markL e liL) = (it.take q).flatMap (fun e => markL e liL) ++ liR it[q] := by
                    rw [List.take_succ_eq_append_getElem hql, List.flatMap_append]; simp [liR_mark]
                  generalize it[q] = en at w0 w1 c30 c31 hE hLs hTq
                  obtain ⟨L, T⟩ := en
                  simp only at w0 w1 c30 c31 hE hLs
                  have hBW := bthen hBB.out hBv
                  have ke := fun W (hW : Below wr.heap.size wr W) => And.intro (((bthen hBW hW).cell (cell_lt w0)).trans w0) (((bthen hBW hW).cell (cell_lt w1)).trans w1)
                  have kb2 := fun W (hW : Below wr.heap.size wr W) => kb.out W (bthen hBW hW)
                  have c31' := fun W (hW : Below wr.heap.size wr W) => c31 W (bthen hBW hW)
                  have zo : o2.size ≤ 2300000 := by omega
                  replace ke := Lib.hid ke
                  replace zo := Lib.hid zo
                  have zl := Lib.hid hLs
                  have ze := Lib.hid hEs
                  replace hE := Lib.hid hE
                  replace c30 := Lib.hid c30
                  replace c31' := Lib.hid c31'
                  replace kb2 := Lib.hid kb2
                  replace hTq := Lib.hid hTq
                  replace ho2 := Lib.hid ho2
                  replace hBv := Lib.hid hBv
                  clear hcs w0 w1 c31 hBW
                  go_upto_region 24 with (fail)
                  refine wp_lin_tail (by kernel_rfl) [none, none, none, none, none, none, none, none, none, none, none, none, none, none, none, none, none, none, none, none, none, none, none, none, none, none, none, none, none, none, none, none, none, none, none, none, none, none, none, none, none, none, none, none, none, none, none, none, none, none, none, none, none, none, none, none, none, none, none, none, none, none, none, none, none, none, none, none, none, none, none, none, none, none, none, none, none, none, none, none, none, none, none, none, none, none, none, none, none, none, none, none, some 0, some 1, some 2, some 3, some 4, some 5, some 6, some 7, some 8, some 9, some 10, some 11, some 12, some 13, some 14, some 15, some 16, some 17, some 18, some 19, none, none, none, none, none, none, none, none, none, none, none, none, none, none] (fun w' => Below wr.heap.size wr w') (fun w' w'' => Below w'.heap.size w' w'') (G24 o2 L T E bY gg (oo + q * 2) q (.slice (some ⟨gg, oo, none⟩) m cB)) (by rfl) (by kernel_rfl) 20 _ rfl (by decide) (by kernel_rfl) [1, 9, 3, 5, 5, 6, 7, 8, 9, 10, 18, 12, 14, 14, 15, 16, 17, 18, 19, 20] (by kernel_rfl) ?thR ?tmono (.cons 19 (Wk.step_of [18] rfl (by kernel_rfl) ?t19) (.cons 18 (Wk.step_of [10, 17] rfl (by kernel_rfl) ?t18) (.cons 17 (Wk.step_of [16] rfl (by kernel_rfl) ?t17) (.cons 16 (Wk.step_of [15] rfl (by kernel_rfl) ?t16) (.cons 15 (Wk.step_of [14] rfl (by kernel_rfl) ?t15) (.cons 14 (Wk.step_of [12, 13] rfl (by kernel_rfl) ?t14) (.cons 13 (Wk.step_of [] rfl (by kernel_rfl) ?t13) (.cons 12 (Wk.step_of [11] rfl (by kernel_rfl) ?t12) (.cons 11 (Wk.step_of [] rfl (by kernel_rfl) ?t11) (.cons 10 (Wk.step_of [9] rfl (by kernel_rfl) ?t10) (.cons 9 (Wk.step_of [1, 8] rfl (by kernel_rfl) ?t9) (.cons 8 (Wk.step_of [7] rfl (by kernel_rfl) ?t8) (.cons 7 (Wk.step_of [6] rfl (by kernel_rfl) ?t7) (.cons 6 (Wk.step_of [5] rfl (by kernel_rfl) ?t6) (.cons 5 (Wk.step_of [3, 4] rfl (by kernel_rfl) ?t5) (.cons 4 (Wk.step_of [] rfl (by kernel_rfl) ?t4) (.cons 3 (Wk.step_of [2] rfl (by kernel_rfl) ?t3) (.cons 2 (Wk.step_of [] rfl (by kernel_rfl) ?t2) (.cons 1 (Wk.step_of [0] rfl (by kernel_rfl) ?t1) (.cons 0 (Wk.step_of [] rfl (by kernel_rfl) ?t0) (.nil))))))))))))))))))))) ?tdone
                  case thR => exact (Below.refl _ _).drew
                  case tmono => exact G24_mono
                  case t0 =>
                    intro x' w' hRw hd K' hK
                    simp only [All, G24] at hd
                    simp (config := {decide := true}) only [upd, G24, fillL, if_true, if_false] at hK ⊢
                    go_simp
                    have hK2 := hK _ _ ⟨hRw, Below.refl _ _, rfl⟩
                    exact hK2
                  case t1 =>
                    intro x' w' hRw hd K' hK
                    simp only [All, G24] at hd
                    obtain ⟨e0, _⟩ := hd
                    simp (config := {decide := true}) only [upd, G24, fillL, if_true, if_false] at hK ⊢
                    simp only [e0] at hK ⊢
                    go_simp
                    rw [if_neg (by
                      have h1 := zo.out
                      have h2 := zl.out
                      have h3 := ze.out
                      have h4 : (ByteArray.mk #[62]).size = 1 := rfl
                      have h5 : (ByteArray.mk #[60, 114, 100, 102, 58, 108, 105]).size = 7 := rfl
                      have h6 : (ByteArray.mk #[60, 47, 114, 100, 102, 58, 108, 105, 62]).size = 9 := rfl
                      first | omega | (simp only [ByteArray.size_append]; omega))]
                    have hK2 := hK _ _ ⟨hRw, Below.refl _ _, rfl⟩
                    exact hK2
                  case t2 =>
                    intro x' w' hRw hd K' hK
                    simp only [All, G24] at hd
                    simp (config := {decide := true}) only [upd, G24, fillL, if_true, if_false] at hK ⊢
                    go_simp
                    have hK2 := hK _ _ ⟨hRw, Below.refl _ _, rfl⟩
                    exact hK2
                  case t3 =>
                    intro x' w' hRw hd K' hK
                    simp only [All, G24] at hd
                    obtain ⟨e2, _⟩ := hd
                    simp (config := {decide := true}) only [upd, G24, fillL, if_true, if_false] at hK ⊢
                    simp only [e2] at hK ⊢
                    obtain ⟨y0, y1, y2, y3⟩ := kb2.out w' hRw
                    go_simp
                    have hK2 := hK _ _ ⟨hRw, Below.refl _ _, rfl⟩
                    exact hK2
                  case t4 =>
                    intro x' w' hRw hd K' hK
                    simp only [All, G24] at hd
                    simp (config := {decide := true}) only [upd, G24, fillL, if_true, if_false] at hK ⊢
                    go_simp
                    have hK2 := hK _ _ ⟨hRw, Below.refl _ _, rfl⟩
                    exact hK2
                  case t5 =>
                    intro x' w' hRw hd K' hK
                    simp only [All, G24] at hd
                    obtain ⟨e3, e4, _⟩ := hd
                    simp (config := {decide := true}) only [upd, G24, fillL, if_true, if_false] at hK ⊢
                    simp only [e3, e4] at hK ⊢
                    go_simp
                    have hK2 := hK _ _ ⟨hRw, Below.refl _ _, rfl⟩
                    exact hK2
                  case t6 =>
                    intro x' w' hRw hd K' hK
                    simp only [All, G24] at hd
                    obtain ⟨e5, _⟩ := hd
                    simp (config := {decide := true}) only [upd, G24, fillL, if_true, if_false] at hK ⊢
                    simp only [e5] at hK ⊢
                    go_simp
                    have hK2 := hK _ _ ⟨hRw, Below.refl _ _, rfl⟩
                    exact hK2
                  case t7 =>
                    intro x' w' hRw hd K' hK
                    simp only [All, G24] at hd
                    obtain ⟨e6, _⟩ := hd
                    simp (config := {decide := true}) only [upd, G24, fillL, if_true, if_false] at hK ⊢
                    simp only [e6] at hK ⊢
                    obtain ⟨q0, q1⟩ := ke.out w' hRw
                    go_simp
                    have hK2 := hK _ _ ⟨hRw, Below.refl _ _, rfl⟩
                    exact hK2
                  case t8 =>
                    intro x' w' hRw hd K' hK
                    simp only [All, G24] at hd
                    obtain ⟨e7, _⟩ := hd
                    simp (config := {decide := true}) only [upd, G24, fillL, if_true, if_false] at hK ⊢
                    simp only [e7] at hK ⊢
                    go_simp
                    refine (c30.out w').mono ?_
                    rintro e' w2 ⟨rfl, rfl⟩
                    have hK2 := hK _ _ ⟨hRw, Below.refl _ _, rfl⟩
                    exact hK2
                  case t9 =>
                    intro x' w' hRw hd K' hK
                    simp only [All, G24] at hd
                    obtain ⟨e1, e8, _⟩ := hd
                    simp (config := {decide := true}) only [upd, G24, fillL, if_true, if_false] at hK ⊢
                    simp only [e1, e8] at hK ⊢
                    go_simp
                    rw [if_neg (by
                      have h1 := zo.out
                      have h2 := zl.out
                      have h3 := ze.out
                      have h4 : (ByteArray.mk #[62]).size = 1 := rfl
                      have h5 : (ByteArray.mk #[60, 114, 100, 102, 58, 108, 105]).size = 7 := rfl
                      have h6 : (ByteArray.mk #[60, 47, 114, 100, 102, 58, 108, 105, 62]).size = 9 := rfl
                      first | omega | (simp only [ByteArray.size_append]; omega))]
                    have hK2 := hK _ _ ⟨hRw, Below.refl _ _, rfl⟩
                    exact hK2
                  case t10 =>
                    intro x' w' hRw hd K' hK
                    simp only [All, G24] at hd
                    obtain ⟨e9, _⟩ := hd
                    simp (config := {decide := true}) only [upd, G24, fillL, if_true, if_false] at hK ⊢
                    simp only [e9] at hK ⊢
                    go_simp
                    rw [if_neg (by
                      have h1 := zo.out
                      have h2 := zl.out
                      have h3 := ze.out
                      have h4 : (ByteArray.mk #[62]).size = 1 := rfl
                      have h5 : (ByteArray.mk #[60, 114, 100, 102, 58, 108, 105]).size = 7 := rfl
                      have h6 : (ByteArray.mk #[60, 47, 114, 100, 102, 58, 108, 105, 62]).size = 9 := rfl
                      first | omega | (simp only [ByteArray.size_append]; omega))]
                    have hK2 := hK _ _ ⟨hRw, Below.refl _ _, rfl⟩
                    exact hK2
                  case t11 =>
                    intro x' w' hRw hd K' hK
                    simp only [All, G24] at hd
                    simp (config := {decide := true}) only [upd, G24, fillL, if_true, if_false] at hK ⊢
                    go_simp
                    have hK2 := hK _ _ ⟨hRw, Below.refl _ _, rfl⟩
                    exact hK2
                  case t12 =>
                    intro x' w' hRw hd K' hK
                    simp only [All, G24] at hd
                    obtain ⟨e11, _⟩ := hd
                    simp (config := {decide := true}) only [upd, G24, fillL, if_true, if_false] at hK ⊢
                    simp only [e11] at hK ⊢
                    obtain ⟨y0, y1, y2, y3⟩ := kb2.out w' hRw
                    go_simp
                    have hK2 := hK _ _ ⟨hRw, Below.refl _ _, rfl⟩
                    exact hK2
                  case t13 =>
                    intro x' w' hRw hd K' hK
                    simp only [All, G24] at hd
                    simp (config := {decide := true}) only [upd, G24, fillL, if_true, if_false] at hK ⊢
                    go_simp
                    have hK2 := hK _ _ ⟨hRw, Below.refl _ _, rfl⟩
                    exact hK2
                  case t14 =>
                    intro x' w' hRw hd K' hK
                    simp only [All, G24] at hd
                    obtain ⟨e12, e13, _⟩ := hd
                    simp (config := {decide := true}) only [upd, G24, fillL, if_true, if_false] at hK ⊢
                    simp only [e12, e13] at hK ⊢
                    go_simp
                    have hK2 := hK _ _ ⟨hRw, Below.refl _ _, rfl⟩
                    exact hK2
                  case t15 =>
                    intro x' w' hRw hd K' hK
                    simp only [All, G24] at hd
                    obtain ⟨e14, _⟩ := hd
                    simp (config := {decide := true}) only [upd, G24, fillL, if_true, if_false] at hK ⊢
                    simp only [e14] at hK ⊢
                    go_simp
                    have hK2 := hK _ _ ⟨hRw, Below.refl _ _, rfl⟩
                    exact hK2
                  case t16 =>
                    intro x' w' hRw hd K' hK
                    simp only [All, G24] at hd
                    obtain ⟨e15, _⟩ := hd
                    simp (config := {decide := true}) only [upd, G24, fillL, if_true, if_false] at hK ⊢
                    simp only [e15] at hK ⊢
                    obtain ⟨q0, q1⟩ := ke.out w' hRw
                    go_simp
                    have hK2 := hK _ _ ⟨hRw, Below.refl _ _, rfl⟩
                    exact hK2
                  case t17 =>
                    intro x' w' hRw hd K' hK
                    simp only [All, G24] at hd
                    obtain ⟨e16, _⟩ := hd
                    simp (config := {decide := true}) only [upd, G24, fillL, if_true, if_false] at hK ⊢
                    simp only [e16] at hK ⊢
                    go_simp
                    refine (c31'.out w' hRw).mono ?_
                    rintro e' w2 ⟨rfl, hB9⟩
                    have hK2 := hK _ _ ⟨bthen hRw hB9, hB9, rfl⟩
                    exact hK2
                  case t18 =>
                    intro x' w' hRw hd K' hK
                    simp only [All, G24] at hd
                    obtain ⟨e10, e17, _⟩ := hd
                    simp (config := {decide := true}) only [upd, G24, fillL, if_true, if_false] at hK ⊢
                    simp only [e10, e17] at hK ⊢
                    go_simp
                    rw [if_neg (by
                      have h1 := zo.out
                      have h2 := zl.out
                      have h3 := ze.out
                      have h4 : (ByteArray.mk #[62]).size = 1 := rfl
                      have h5 : (ByteArray.mk #[60, 114, 100, 102, 58, 108, 105]).size = 7 := rfl
                      have h6 : (ByteArray.mk #[60, 47, 114, 100, 102, 58, 108, 105, 62]).size = 9 := rfl
                      first | omega | (simp only [ByteArray.size_append]; omega))]
                    have hK2 := hK _ _ ⟨hRw, Below.refl _ _, rfl⟩
                    exact hK2
                  case t19 =>
                    intro x' w' hRw hd K' hK
                    simp only [All, G24] at hd
                    obtain ⟨e18, _⟩ := hd
                    simp (config := {decide := true}) only [upd, G24, fillL, if_true, if_false] at hK ⊢
                    simp only [e18] at hK ⊢
                    go_simp
                    rw [if_neg (by
                      have h1 := zo.out
                      have h2 := zl.out
                      have h3 := ze.out
                      have h4 : (ByteArray.mk #[62]).size = 1 := rfl
                      have h5 : (ByteArray.mk #[60, 114, 100, 102, 58, 108, 105]).size = 7 := rfl
                      have h6 : (ByteArray.mk #[60, 47, 114, 100, 102, 58, 108, 105, 62]).size = 9 := rfl
                      first | omega | (simp only [ByteArray.size_append]; omega))]
                    have hK2 := hK _ _ ⟨hRw, Below.refl _ _, rfl⟩
                    exact hK2
                  case tdone =>
                    intro x' w7 hR7 hG fr hfr
                    have e19 := hG 19 (by omega)
                    simp only [G24] at e19
                    simp only [fillL] at hfr
                    rw [e19] at hfr
                    clear hG e19
                    replace hR7 := Lib.hid hR7
                    subst hfr
                    go_wp2
                    go_roundw
                    case rel =>
                      refine ⟨q + 1, _, by omega, by go_num, rfl, ?_, ?_, bthen hBv.out hR7.out⟩
                      · rw [hTq.out]
                        unfold liR
                        simp only [ba_app, LM_list, hE.out, ho2.out]
                        simp
                      · simp only [ByteArray.size_append]
                        show _ + 7 + _ + 1 + _ + 9 ≤ _
                        omega
                    case measure => simp [RowKit.intOf]; omega
                · obtain rfl : q = m := by omega
                  have hTk : it.take q = it := by rw [hm9.out, List.take_length]
                  rw [hTk] at ho2
                  have zo2 : o2.size ≤ 2200000 := by omega
                  have hos3 : o2.size ≤ o.size + 444 + 10 + 80000 := by have := hP2s.out; have := hPs.out; omega
                  replace hos3 := Lib.hid hos3
                  replace ho2 := Lib.hid ho2
                  replace hBv := Lib.hid hBv
                  clear hTk ho2s
                  go_wp2
                  go_roundw
                  case rel =>
                    refine ⟨j + 1, _, by omega, by go_num, rfl, ?_, ?_, bthen hBY.out (bthen hBB.out hBv.out)⟩
                    · rw [hT.out]
                      simp only [ba_app, ho2.out, hP2l.out, hPl.out]
                      unfold descL bodyL D2
                      simp [kindL, liL]
                    · have h1 := hos.out
                      have h2 := hos3.out
                      simp only [ByteArray.size_append]
                      show _ + 2 + 7 + 1 + 4 + _ + 20 ≤ _
                      omega
                  case measure => simp [RowKit.intOf]; omega
            · subst hq
              go_upto_region 19 with (fail)
              go_upto_region 20 with (fail)
              clear t0 t1 t2 t3 y0 y1 y2 y3 b0 b1 b2 b3
              generalize (WY.alloc (.cells #[.string ⟨#[]⟩, .string ⟨#[114, 100, 102, 58, 65, 108, 116]⟩, .string ⟨#[114, 100, 102, 58, 83, 101, 113]⟩, .string ⟨#[114, 100, 102, 58, 66, 97, 103]⟩] 9)) = WB at *
              go_upto_region 21 with (fail)
              obtain ⟨PR2, hPR2⟩ : ∃ s : ByteArray, s = PRE ++ ⟨#[62, 60]⟩ ++ ⟨#[114, 100, 102, 58, 83, 101, 113]⟩ ++ ⟨#[62]⟩ := ⟨_, rfl⟩
              have hP2s : PR2.size = PRE.size + 10 := by rw [hPR2]; simp only [ByteArray.size_append]; rfl
              have hP2b : PR2.size ≤ 2100000 := by omega
              have hP2l : PR2.data.toList = PRE.data.toList ++ ([62, 60] ++ ([114, 100, 102, 58] ++ kindL 2) ++ [62]) := by rw [hPR2]; simp only [ba_app]; simp [kindL]
              rw [← hPR2]
              replace hP2l := Lib.hid hP2l
              clear hPR2 hos2
              replace hP2s := Lib.hid hP2s
              replace hPs := Lib.hid hPs
              go_wp2
              go_loopw [8, 12] (fun s8 s12 wv => ∃ (q : Nat) (o2 : ByteArray), q ≤ m ∧ s12 = .int .i64 q ∧ s8 = .string o2 ∧ o2.data.toList = PR2.data.toList ++ (it.take q).flatMap (fun e => markL e liL) ∧ o2.size ≤ PR2.size + q * 4000 ∧ Below WB.heap.size WB wv) (fun _ s12 _ => m - (RowKit.intOf s12).toNat)
              case atStart => exact ⟨0, PR2, Nat.zero_le _, rfl, rfl, by simp, by omega, Below.refl _ _⟩
              case round =>
                obtain ⟨q, o2, hq, rfl, rfl, ho2, ho2s, hBv⟩ := hrel
                obtain ⟨v0, v1, v2, v3⟩ := kb.out wr (bthen hBB.out hBv)
                by_cases hqm : q < m
                · have hql : q < it.length := by rw [← hm9.out]; exact hqm
                  obtain ⟨gg, oo, rfl, hcs⟩ := gy1.out (by omega)
                  obtain ⟨w0, w1⟩ := hcs q hql
                  obtain ⟨E, hE, hEs, c31, c30, hLs⟩ := cm.out q hql
                  have hTq : (it.take (q + 1)).flatMap (fun e => markL e liL) = (it.take q).flatMap (fun e => markL e liL) ++ liR it[q] := by
                    rw [List.take_succ_eq_append_getElem hql, List.flatMap_append]; simp [liR_mark]
                  generalize it[q] = en at w0 w1 c30 c31 hE hLs hTq
                  obtain ⟨L, T⟩ := en
                  simp only at w0 w1 c30 c31 hE hLs
                  have hBW := bthen hBB.out hBv
                  have ke := fun W (hW : Below wr.heap.size wr W) => And.intro (((bthen hBW hW).cell (cell_lt w0)).trans w0) (((bthen hBW hW).cell (cell_lt w1)).trans w1)
                  have kb2 := fun W (hW : Below wr.heap.size wr W) => kb.out W (bthen hBW hW)
                  have c31' := fun W (hW : Below wr.heap.size wr W) => c31 W (bthen hBW hW)
                  have zo : o2.size ≤ 2300000 := by omega
                  replace ke := Lib.hid ke
                  replace zo := Lib.hid zo
                  have zl := Lib.hid hLs
                  have ze := Lib.hid hEs
                  replace hE := Lib.hid hE
                  replace c30 := Lib.hid c30
                  replace c31' := Lib.hid c31'
                  replace kb2 := Lib.hid kb2
                  replace hTq := Lib.hid hTq
                  replace ho2 := Lib.hid ho2
                  replace hBv := Lib.hid hBv
                  clear hcs w0 w1 c31 hBW
                  go_upto_region 24 with (fail)
                  refine wp_lin_tail (by kernel_rfl) [none, none, none, none, none, none, none, none, none, none, none, none, none, none, none, none, none, none, none, none, none, none, none, none, none, none, none, none, none, none, none, none, none, none, none, none, none, none, none, none, none, none, none, none, none, none, none, none, none, none, none, none, none, none, none, none, none, none, none, none, none, none, none, none, none, none, none, none, none, none, none, none, none, none, none, none, none, none, none, none, none, none, none, none, none, none, none, none, none, none, none, none, some 0, some 1, some 2, some 3, some 4, some 5, some 6, some 7, some 8, some 9, some 10, some 11, some 12, some 13, some 14, some 15, some 16, some 17, some 18, some 19, none, none, none, none, none, none, none, none, none, none, none, none, none, none] (fun w' => Below wr.heap.size wr w') (fun w' w'' => Below w'.heap.size w' w'') (G24 o2 L T E bY gg (oo + q * 2) q (.slice (some ⟨gg, oo, none⟩) m cB)) (by rfl) (by kernel_rfl) 20 _ rfl (by decide) (by kernel_rfl) [1, 9, 3, 5, 5, 6, 7, 8, 9, 10, 18, 12, 14, 14, 15, 16, 17, 18, 19, 20] (by kernel_rfl) ?thR ?tmono (.cons 19 (Wk.step_of [18] rfl (by kernel_rfl) ?t19) (.cons 18 (Wk.step_of [10, 17] rfl (by kernel_rfl) ?t18) (.cons 17 (Wk.step_of [16] rfl (by kernel_rfl) ?t17) (.cons 16 (Wk.step_of [15] rfl (by kernel_rfl) ?t16) (.cons 15 (Wk.step_of [14] rfl (by kernel_rfl) ?t15) (.cons 14 (Wk.step_of [12, 13] rfl (by kernel_rfl) ?t14) (.cons 13 (Wk.step_of [] rfl (by kernel_rfl) ?t13) (.cons 12 (Wk.step_of [11] rfl (by kernel_rfl) ?t12) (.cons 11 (Wk.step_of [] rfl (by kernel_rfl) ?t11) (.cons 10 (Wk.step_of [9] rfl (by kernel_rfl) ?t10) (.cons 9 (Wk.step_of [1, 8] rfl (by kernel_rfl) ?t9) (.cons 8 (Wk.step_of [7] rfl (by kernel_rfl) ?t8) (.cons 7 (Wk.step_of [6] rfl (by kernel_rfl) ?t7) (.cons 6 (Wk.step_of [5] rfl (by kernel_rfl) ?t6) (.cons 5 (Wk.step_of [3, 4] rfl (by kernel_rfl) ?t5) (.cons 4 (Wk.step_of [] rfl (by kernel_rfl) ?t4) (.cons 3 (Wk.step_of [2] rfl (by kernel_rfl) ?t3) (.cons 2 (Wk.step_of [] rfl (by kernel_rfl) ?t2) (.cons 1 (Wk.step_of [0] rfl (by kernel_rfl) ?t1) (.cons 0 (Wk.step_of [] rfl (by kernel_rfl) ?t0) (.nil))))))))))))))))))))) ?tdone
                  case thR => exact (Below.refl _ _).drew
                  case tmono => exact G24_mono
                  case t0 =>
                    intro x' w' hRw hd K' hK
                    simp only [All, G24] at hd
                    simp (config := {decide := true}) only [upd, G24, fillL, if_true, if_false] at hK ⊢
                    go_simp
                    have hK2 := hK _ _ ⟨hRw, Below.refl _ _, rfl⟩
                    exact hK2
                  case t1 =>
                    intro x' w' hRw hd K' hK
                    simp only [All, G24] at hd
                    obtain ⟨e0, _⟩ := hd
                    simp (config := {decide := true}) only [upd, G24, fillL, if_true, if_false] at hK ⊢
                    simp only [e0] at hK ⊢
                    go_simp
                    rw [if_neg (by
                      have h1 := zo.out
                      have h2 := zl.out
                      have h3 := ze.out
                      have h4 : (ByteArray.mk #[62]).size = 1 := rfl
                      have h5 : (ByteArray.mk #[60, 114, 100, 102, 58, 108, 105]).size = 7 := rfl
                      have h6 : (ByteArray.mk #[60, 47, 114, 100, 102, 58, 108, 105, 62]).size = 9 := rfl
                      first | omega | (simp only [ByteArray.size_append]; omega))]
                    have hK2 := hK _ _ ⟨hRw, Below.refl _ _, rfl⟩
                    exact hK2
                  case t2 =>
                    intro x' w' hRw hd K' hK
                    simp only [All, G24] at hd
                    simp (config := {decide := true}) only [upd, G24, fillL, if_true, if_false] at hK ⊢
                    go_simp
                    have hK2 := hK _ _ ⟨hRw, Below.refl _ _, rfl⟩
                    exact hK2
                  case t3 =>
                    intro x' w' hRw hd K' hK
                    simp only [All, G24] at hd
                    obtain ⟨e2, _⟩ := hd
                    simp (config := {decide := true}) only [upd, G24, fillL, if_true, if_false] at hK ⊢
                    simp only [e2] at hK ⊢
                    obtain ⟨y0, y1, y2, y3⟩ := kb2.out w' hRw
                    go_simp
                    have hK2 := hK _ _ ⟨hRw, Below.refl _ _, rfl⟩
                    exact hK2
                  case t4 =>
                    intro x' w' hRw hd K' hK
                    simp only [All, G24] at hd
                    simp (config := {decide := true}) only [upd, G24, fillL, if_true, if_false] at hK ⊢
                    go_simp
                    have hK2 := hK _ _ ⟨hRw, Below.refl _ _, rfl⟩
                    exact hK2
                  case t5 =>
                    intro x' w' hRw hd K' hK
                    simp only [All, G24] at hd
                    obtain ⟨e3, e4, _⟩ := hd
                    simp (config := {decide := true}) only [upd, G24, fillL, if_true, if_false] at hK ⊢
                    simp only [e3, e4] at hK ⊢
                    go_simp
                    have hK2 := hK _ _ ⟨hRw, Below.refl _ _, rfl⟩
                    exact hK2
                  case t6 =>
                    intro x' w' hRw hd K' hK
                    simp only [All, G24] at hd
                    obtain ⟨e5, _⟩ := hd
                    simp (config := {decide := true}) only [upd, G24, fillL, if_true, if_false] at hK ⊢
                    simp only [e5] at hK ⊢
                    go_simp
                    have hK2 := hK _ _ ⟨hRw, Below.refl _ _, rfl⟩
                    exact hK2
                  case t7 =>
                    intro x' w' hRw hd K' hK
                    simp only [All, G24] at hd
                    obtain ⟨e6, _⟩ := hd
                    simp (config := {decide := true}) only [upd, G24, fillL, if_true, if_false] at hK ⊢
                    simp only [e6] at hK ⊢
                    obtain ⟨q0, q1⟩ := ke.out w' hRw
                    go_simp
                    have hK2 := hK _ _ ⟨hRw, Below.refl _ _, rfl⟩
                    exact hK2
                  case t8 =>
                    intro x' w' hRw hd K' hK
                    simp only [All, G24] at hd
                    obtain ⟨e7, _⟩ := hd
                    simp (config := {decide := true}) only [upd, G24, fillL, if_true, if_false] at hK ⊢
                    simp only [e7] at hK ⊢
                    go_simp
                    refine (c30.out w').mono ?_
                    rintro e' w2 ⟨rfl, rfl⟩
                    have hK2 := hK _ _ ⟨hRw, Below.refl _ _, rfl⟩
                    exact hK2
                  case t9 =>
                    intro x' w' hRw hd K' hK
                    simp only [All, G24] at hd
                    obtain ⟨e1, e8, _⟩ := hd
                    simp (config := {decide := true}) only [upd, G24, fillL, if_true, if_false] at hK ⊢
                    simp only [e1, e8] at hK ⊢
                    go_simp
                    rw [if_neg (by
                      have h1 := zo.out
                      have h2 := zl.out
                      have h3 := ze.out
                      have h4 : (ByteArray.mk #[62]).size = 1 := rfl
                      have h5 : (ByteArray.mk #[60, 114, 100, 102, 58, 108, 105]).size = 7 := rfl
                      have h6 : (ByteArray.mk #[60, 47, 114, 100, 102, 58, 108, 105, 62]).size = 9 := rfl
                      first | omega | (simp only [ByteArray.size_append]; omega))]
                    have hK2 := hK _ _ ⟨hRw, Below.refl _ _, rfl⟩
                    exact hK2
                  case t10 =>
                    intro x' w' hRw hd K' hK
                    simp only [All, G24] at hd
                    obtain ⟨e9, _⟩ := hd
                    simp (config := {decide := true}) only [upd, G24, fillL, if_true, if_false] at hK ⊢
                    simp only [e9] at hK ⊢
                    go_simp
                    rw [if_neg (by
                      have h1 := zo.out
                      have h2 := zl.out
                      have h3 := ze.out
                      have h4 : (ByteArray.mk #[62]).size = 1 := rfl
                      have h5 : (ByteArray.mk #[60, 114, 100, 102, 58, 108, 105]).size = 7 := rfl
                      have h6 : (ByteArray.mk #[60, 47, 114, 100, 102, 58, 108, 105, 62]).size = 9 := rfl
                      first | omega | (simp only [ByteArray.size_append]; omega))]
                    have hK2 := hK _ _ ⟨hRw, Below.refl _ _, rfl⟩
                    exact hK2
                  case t11 =>
                    intro x' w' hRw hd K' hK
                    simp only [All, G24] at hd
                    simp (config := {decide := true}) only [upd, G24, fillL, if_true, if_false] at hK ⊢
                    go_simp
                    have hK2 := hK _ _ ⟨hRw, Below.refl _ _, rfl⟩
                    exact hK2
                  case t12 =>
                    intro x' w' hRw hd K' hK
                    simp only [All, G24] at hd
                    obtain ⟨e11, _⟩ := hd
                    simp (config := {decide := true}) only [upd, G24, fillL, if_true, if_false] at hK ⊢
                    simp only [e11] at hK ⊢
                    obtain ⟨y0, y1, y2, y3⟩ := kb2.out w' hRw
                    go_simp
                    have hK2 := hK _ _ ⟨hRw, Below.refl _ _, rfl⟩
                    exact hK2
                  case t13 =>
                    intro x' w' hRw hd K' hK
                    simp only [All, G24] at hd
                    simp (config := {decide := true}) only [upd, G24, fillL, if_true, if_false] at hK ⊢
                    go_simp
                    have hK2 := hK _ _ ⟨hRw, Below.refl _ _, rfl⟩
                    exact hK2
                  case t14 =>
                    intro x' w' hRw hd K' hK
                    simp only [All, G24] at hd
                    obtain ⟨e12, e13, _⟩ := hd
                    simp (config := {decide := true}) only [upd, G24, fillL, if_true, if_false] at hK ⊢
                    simp only [e12, e13] at hK ⊢
                    go_simp
                    have hK2 := hK _ _ ⟨hRw, Below.refl _ _, rfl⟩
                    exact hK2
                  case t15 =>
                    intro x' w' hRw hd K' hK
                    simp only [All, G24] at hd
                    obtain ⟨e14, _⟩ := hd
                    simp (config := {decide := true}) only [upd, G24, fillL, if_true, if_false] at hK ⊢
                    simp only [e14] at hK ⊢
                    go_simp
                    have hK2 := hK _ _ ⟨hRw, Below.refl _ _, rfl⟩
                    exact hK2
                  case t16 =>
                    intro x' w' hRw hd K' hK
                    simp only [All, G24] at hd
                    obtain ⟨e15, _⟩ := hd
                    simp (config := {decide := true}) only [upd, G24, fillL, if_true, if_false] at hK ⊢
                    simp only [e15] at hK ⊢
                    obtain ⟨q0, q1⟩ := ke.out w' hRw
                    go_simp
                    have hK2 := hK _ _ ⟨hRw, Below.refl _ _, rfl⟩
                    exact hK2
                  case t17 =>
                    intro x' w' hRw hd K' hK
                    simp only [All, G24] at hd
                    obtain ⟨e16, _⟩ := hd
                    simp (config := {decide := true}) only [upd, G24, fillL, if_true, if_false] at hK ⊢
                    simp only [e16] at hK ⊢
                    go_simp
                    refine (c31'.out w' hRw).mono ?_
                    rintro e' w2 ⟨rfl, hB9⟩
                    have hK2 := hK _ _ ⟨bthen hRw hB9, hB9, rfl⟩
                    exact hK2
                  case t18 =>
                    intro x' w' hRw hd K' hK
                    simp only [All, G24] at hd
                    obtain ⟨e10, e17, _⟩ := hd
                    simp (config := {decide := true}) only [upd, G24, fillL, if_true, if_false] at hK ⊢
                    simp only [e10, e17] at hK ⊢
                    go_simp
                    rw [if_neg (by
                      have h1 := zo.out
                      have h2 := zl.out
                      have h3 := ze.out
                      have h4 : (ByteArray.mk #[62]).size = 1 := rfl
                      have h5 : (ByteArray.mk #[60, 114, 100, 102, 58, 108, 105]).size = 7 := rfl
                      have h6 : (ByteArray.mk #[60, 47, 114, 100, 102, 58, 108, 105, 62]).size = 9 := rfl
                      first | omega | (simp only [ByteArray.size_append]; omega))]
                    have hK2 := hK _ _ ⟨hRw, Below.refl _ _, rfl⟩
                    exact hK2
                  case t19 =>
                    intro x' w' hRw hd K' hK
                    simp only [All, G24] at hd
                    obtain ⟨e18, _⟩ := hd
                    simp (config := {decide := true}) only [upd, G24, fillL, if_true, if_false] at hK ⊢
                    simp only [e18] at hK ⊢
                    go_simp
                    rw [if_neg (by
                      have h1 := zo.out
                      have h2 := zl.out
                      have h3 := ze.out
                      have h4 : (ByteArray.mk #[62]).size = 1 := rfl
                      have h5 : (ByteArray.mk #[60, 114, 100, 102, 58, 108, 105]).size = 7 := rfl
                      have h6 : (ByteArray.mk #[60, 47, 114, 100, 102, 58, 108, 105, 62]).size = 9 := rfl
                      first | omega | (simp only [ByteArray.size_append]; omega))]
                    have hK2 := hK _ _ ⟨hRw, Below.refl _ _, rfl⟩
                    exact hK2
                  case tdone =>
                    intro x' w7 hR7 hG fr hfr
                    have e19 := hG 19 (by omega)
                    simp only [G24] at e19
                    simp only [fillL] at hfr
                    rw [e19] at hfr
                    clear hG e19
                    replace hR7 := Lib.hid hR7
                    subst hfr
                    go_wp2
                    go_roundw
                    case rel =>
                      refine ⟨q + 1, _, by omega, by go_num, rfl, ?_, ?_, bthen hBv.out hR7.out⟩
                      · rw [hTq.out]
                        unfold liR
                        simp only [ba_app, LM_list, hE.out, ho2.out]
                        simp
                      · simp only [ByteArray.size_append]
                        show _ + 7 + _ + 1 + _ + 9 ≤ _
                        omega
                    case measure => simp [RowKit.intOf]; omega
                · obtain rfl : q = m := by omega
                  have hTk : it.take q = it := by rw [hm9.out, List.take_length]
                  rw [hTk] at ho2
                  have zo2 : o2.size ≤ 2200000 := by omega
                  have hos3 : o2.size ≤ o.size + 444 + 10 + 80000 := by have := hP2s.out; have := hPs.out; omega
                  replace hos3 := Lib.hid hos3
                  replace ho2 := Lib.hid ho2
                  replace hBv := Lib.hid hBv
                  clear hTk ho2s
                  go_wp2
                  go_roundw
                  case rel =>
                    refine ⟨j + 1, _, by omega, by go_num, rfl, ?_, ?_, bthen hBY.out (bthen hBB.out hBv.out)⟩
                    · rw [hT.out]
                      simp only [ba_app, ho2.out, hP2l.out, hPl.out]
                      unfold descL bodyL D2
                      simp [kindL, liL]
                    · have h1 := hos.out
                      have h2 := hos3.out
                      simp only [ByteArray.size_append]
                      show _ + 2 + 7 + 1 + 4 + _ + 20 ≤ _
                      omega
                  case measure => simp [RowKit.intOf]; omega
            · subst hq
              go_upto_region 19 with (fail)
              go_upto_region 20 with (fail)
              clear t0 t1 t2 t3 y0 y1 y2 y3 b0 b1 b2 b3
              generalize (WY.alloc (.cells #[.string ⟨#[]⟩, .string ⟨#[114, 100, 102, 58, 65, 108, 116]⟩, .string ⟨#[114, 100, 102, 58, 83, 101, 113]⟩, .string ⟨#[114, 100, 102, 58, 66, 97, 103]⟩] 9)) = WB at *
              go_upto_region 21 with (fail)
              obtain ⟨PR2, hPR2⟩ : ∃ s : ByteArray, s = PRE ++ ⟨#[62, 60]⟩ ++ ⟨#[114, 100, 102, 58, 66, 97, 103]⟩ ++ ⟨#[62]⟩ := ⟨_, rfl⟩
              have hP2s : PR2.size = PRE.size + 10 := by rw [hPR2]; simp only [ByteArray.size_append]; rfl
              have hP2b : PR2.size ≤ 2100000 := by omega
              have hP2l : PR2.data.toList = PRE.data.toList ++ ([62, 60] ++ ([114, 100, 102, 58] ++ kindL 3) ++ [62]) := by rw [hPR2]; simp only [ba_app]; simp [kindL]
              rw [← hPR2]
              replace hP2l := Lib.hid hP2l
              clear hPR2 hos2
              replace hP2s := Lib.hid hP2s
              replace hPs := Lib.hid hPs
              go_wp2
              go_loopw [8, 12] (fun s8 s12 wv => ∃ (q : Nat) (o2 : ByteArray), q ≤ m ∧ s12 = .int .i64 q ∧ s8 = .string o2 ∧ o2.data.toList = PR2.data.toList ++ (it.take q).flatMap (fun e => markL e liL) ∧ o2.size ≤ PR2.size + q * 4000 ∧ Below WB.heap.size WB wv) (fun _ s12 _ => m - (RowKit.intOf s12).toNat)
              case atStart => exact ⟨0, PR2, Nat.zero_le _, rfl, rfl, by simp, by omega, Below.refl _ _⟩
              case round =>
                obtain ⟨q, o2, hq, rfl, rfl, ho2, ho2s, hBv⟩ := hrel
                obtain ⟨v0, v1, v2, v3⟩ := kb.out wr (bthen hBB.out hBv)
                by_cases hqm : q < m
                · have hql : q < it.length := by rw [← hm9.out]; exact hqm
                  obtain ⟨gg, oo, rfl, hcs⟩ := gy1.out (by omega)
                  obtain ⟨w0, w1⟩ := hcs q hql
                  obtain ⟨E, hE, hEs, c31, c30, hLs⟩ := cm.out q hql
                  have hTq : (it.take (q + 1)).flatMap (fun e => markL e liL) = (it.take q).flatMap (fun e => markL e liL) ++ liR it[q] := by
                    rw [List.take_succ_eq_append_getElem hql, List.flatMap_append]; simp [liR_mark]
                  generalize it[q] = en at w0 w1 c30 c31 hE hLs hTq
                  obtain ⟨L, T⟩ := en
                  simp only at w0 w1 c30 c31 hE hLs
                  have hBW := bthen hBB.out hBv
                  have ke := fun W (hW : Below wr.heap.size wr W) => And.intro (((bthen hBW hW).cell (cell_lt w0)).trans w0) (((bthen hBW hW).cell (cell_lt w1)).trans w1)
                  have kb2 := fun W (hW : Below wr.heap.size wr W) => kb.out W (bthen hBW hW)
                  have c31' := fun W (hW : Below wr.heap.size wr W) => c31 W (bthen hBW hW)
                  have zo : o2.size ≤ 2300000 := by omega
                  replace ke := Lib.hid ke
                  replace zo := Lib.hid zo
                  have zl := Lib.hid hLs
                  have ze := Lib.hid hEs
                  replace hE := Lib.hid hE
                  replace c30 := Lib.hid c30
                  replace c31' := Lib.hid c31'
                  replace kb2 := Lib.hid kb2
                  replace hTq := Lib.hid hTq
                  replace ho2 := Lib.hid ho2
                  replace hBv := Lib.hid hBv
                  clear hcs w0 w1 c31 hBW
                  go_upto_region 24 with (fail)
                  refine wp_lin_tail (by kernel_rfl) [none, none, none, none, none, none, none, none, none, none, none, none, none, none, none, none, none, none, none, none, none, none, none, none, none, none, none, none, none, none, none, none, none, none, none, none, none, none, none, none, none, none, none, none, none, none, none, none, none, none, none, none, none, none, none, none, none, none, none, none, none, none, none, none, none, none, none, none, none, none, none, none, none, none, none, none, none, none, none, none, none, none, none, none, none, none, none, none, none, none, none, none, some 0, some 1, some 2, some 3, some 4, some 5, some 6, some 7, some 8, some 9, some 10, some 11, some 12, some 13, some 14, some 15, some 16, some 17, some 18, some 19, none, none, none, none, none, none, none, none, none, none, none, none, none, none] (fun w' => Below wr.heap.size wr w') (fun w' w'' => Below w'.heap.size w' w'') (G24 o2 L T E bY gg (oo + q * 2) q (.slice (some ⟨gg, oo, none⟩) m cB)) (by rfl) (by kernel_rfl) 20 _ rfl (by decide) (by kernel_rfl) [1, 9, 3, 5, 5, 6, 7, 8, 9, 10, 18, 12, 14, 14, 15, 16, 17, 18, 19, 20] (by kernel_rfl) ?thR ?tmono (.cons 19 (Wk.step_of [18] rfl (by kernel_rfl) ?t19) (.cons 18 (Wk.step_of [10, 17] rfl (by kernel_rfl) ?t18) (.cons 17 (Wk.step_of [16] rfl (by kernel_rfl) ?t17) (.cons 16 (Wk.step_of [15] rfl (by kernel_rfl) ?t16) (.cons 15 (Wk.step_of [14] rfl (by kernel_rfl) ?t15) (.cons 14 (Wk.step_of [12, 13] rfl (by kernel_rfl) ?t14) (.cons 13 (Wk.step_of [] rfl (by kernel_rfl) ?t13) (.cons 12 (Wk.step_of [11] rfl (by kernel_rfl) ?t12) (.cons 11 (Wk.step_of [] rfl (by kernel_rfl) ?t11) (.cons 10 (Wk.step_of [9] rfl (by kernel_rfl) ?t10) (.cons 9 (Wk.step_of [1, 8] rfl (by kernel_rfl) ?t9) (.cons 8 (Wk.step_of [7] rfl (by kernel_rfl) ?t8) (.cons 7 (Wk.step_of [6] rfl (by kernel_rfl) ?t7) (.cons 6 (Wk.step_of [5] rfl (by kernel_rfl) ?t6) (.cons 5 (Wk.step_of [3, 4] rfl (by kernel_rfl) ?t5) (.cons 4 (Wk.step_of [] rfl (by kernel_rfl) ?t4) (.cons 3 (Wk.step_of [2] rfl (by kernel_rfl) ?t3) (.cons 2 (Wk.step_of [] rfl (by kernel_rfl) ?t2) (.cons 1 (Wk.step_of [0] rfl (by kernel_rfl) ?t1) (.cons 0 (Wk.step_of [] rfl (by kernel_rfl) ?t0) (.nil))))))))))))))))))))) ?tdone
                  case thR => exact (Below.refl _ _).drew
                  case tmono => exact G24_mono
                  case t0 =>
                    intro x' w' hRw hd K' hK
                    simp only [All, G24] at hd
                    simp (config := {decide := true}) only [upd, G24, fillL, if_true, if_false] at hK ⊢
                    go_simp
                    have hK2 := hK _ _ ⟨hRw, Below.refl _ _, rfl⟩
                    exact hK2
                  case t1 =>
                    intro x' w' hRw hd K' hK
                    simp only [All, G24] at hd
                    obtain ⟨e0, _⟩ := hd
                    simp (config := {decide := true}) only [upd, G24, fillL, if_true, if_false] at hK ⊢
                    simp only [e0] at hK ⊢
                    go_simp
                    rw [if_neg (by
                      have h1 := zo.out
                      have h2 := zl.out
                      have h3 := ze.out
                      have h4 : (ByteArray.mk #[62]).size = 1 := rfl
                      have h5 : (ByteArray.mk #[60, 114, 100, 102, 58, 108, 105]).size = 7 := rfl
                      have h6 : (ByteArray.mk #[60, 47, 114, 100, 102, 58, 108, 105, 62]).size = 9 := rfl
                      first | omega | (simp only [ByteArray.size_append]; omega))]
                    have hK2 := hK _ _ ⟨hRw, Below.refl _ _, rfl⟩
                    exact hK2
                  case t2 =>
                    intro x' w' hRw hd K' hK
                    simp only [All, G24] at hd
                    simp (config := {decide := true}) only [upd, G24, fillL, if_true, if_false] at hK ⊢
                    go_simp
                    have hK2 := hK _ _ ⟨hRw, Below.refl _ _, rfl⟩
                    exact hK2
                  case t3 =>
                    intro x' w' hRw hd K' hK
                    simp only [All, G24] at hd
                    obtain ⟨e2, _⟩ := hd
                    simp (config := {decide := true}) only [upd, G24, fillL, if_true, if_false] at hK ⊢
                    simp only [e2] at hK ⊢
                    obtain ⟨y0, y1, y2, y3⟩ := kb2.out w' hRw
                    go_simp
                    have hK2 := hK _ _ ⟨hRw, Below.refl _ _, rfl⟩
                    exact hK2
                  case t4 =>
                    intro x' w' hRw hd K' hK
                    simp only [All, G24] at hd
                    simp (config := {decide := true}) only [upd, G24, fillL, if_true, if_false] at hK ⊢
                    go_simp
                    have hK2 := hK _ _ ⟨hRw, Below.refl _ _, rfl⟩
                    exact hK2
                  case t5 =>
                    intro x' w' hRw hd K' hK
                    simp only [All, G24] at hd
                    obtain ⟨e3, e4, _⟩ := hd
                    simp (config := {decide := true}) only [upd, G24, fillL, if_true, if_false] at hK ⊢
                    simp only [e3, e4] at hK ⊢
                    go_simp
                    have hK2 := hK _ _ ⟨hRw, Below.refl _ _, rfl⟩
                    exact hK2
                  case t6 =>
                    intro x' w' hRw hd K' hK
                    simp only [All, G24] at hd
                    obtain ⟨e5, _⟩ := hd
                    simp (config := {decide := true}) only [upd, G24, fillL, if_true, if_false] at hK ⊢
                    simp only [e5] at hK ⊢
                    go_simp
                    have hK2 := hK _ _ ⟨hRw, Below.refl _ _, rfl⟩
                    exact hK2
                  case t7 =>
                    intro x' w' hRw hd K' hK
                    simp only [All, G24] at hd
                    obtain ⟨e6, _⟩ := hd
                    simp (config := {decide := true}) only [upd, G24, fillL, if_true, if_false] at hK ⊢
                    simp only [e6] at hK ⊢
                    obtain ⟨q0, q1⟩ := ke.out w' hRw
                    go_simp
                    have hK2 := hK _ _ ⟨hRw, Below.refl _ _, rfl⟩
                    exact hK2
                  case t8 =>
                    intro x' w' hRw hd K' hK
                    simp only [All, G24] at hd
                    obtain ⟨e7, _⟩ := hd
                    simp (config := {decide := true}) only [upd, G24, fillL, if_true, if_false] at hK ⊢
                    simp only [e7] at hK ⊢
                    go_simp
                    refine (c30.out w').mono ?_
                    rintro e' w2 ⟨rfl, rfl⟩
                    have hK2 := hK _ _ ⟨hRw, Below.refl _ _, rfl⟩
                    exact hK2
                  case t9 =>
                    intro x' w' hRw hd K' hK
                    simp only [All, G24] at hd
                    obtain ⟨e1, e8, _⟩ := hd
                    simp (config := {decide := true}) only [upd, G24, fillL, if_true, if_false] at hK ⊢
                    simp only [e1, e8] at hK ⊢
                    go_simp
                    rw [if_neg (by
                      have h1 := zo.out
                      have h2 := zl.out
                      have h3 := ze.out
                      have h4 : (ByteArray.mk #[62]).size = 1 := rfl
                      have h5 : (ByteArray.mk #[60, 114, 100, 102, 58, 108, 105]).size = 7 := rfl
                      have h6 : (ByteArray.mk #[60, 47, 114, 100, 102, 58, 108, 105, 62]).size = 9 := rfl
                      first | omega | (simp only [ByteArray.size_append]; omega))]
                    have hK2 := hK _ _ ⟨hRw, Below.refl _ _, rfl⟩
                    exact hK2
                  case t10 =>
                    intro x' w' hRw hd K' hK
                    simp only [All, G24] at hd
                    obtain ⟨e9, _⟩ := hd
                    simp (config := {decide := true}) only [upd, G24, fillL, if_true, if_false] at hK ⊢
                    simp only [e9] at hK ⊢
                    go_simp
                    rw [if_neg (by
                      have h1 := zo.out
                      have h2 := zl.out
                      have h3 := ze.out
                      have h4 : (ByteArray.mk #[62]).size = 1 := rfl
                      have h5 : (ByteArray.mk #[60, 114, 100, 102, 58, 108, 105]).size = 7 := rfl
                      have h6 : (ByteArray.mk #[60, 47, 114, 100, 102, 58, 108, 105, 62]).size = 9 := rfl
                      first | omega | (simp only [ByteArray.size_append]; omega))]
                    have hK2 := hK _ _ ⟨hRw, Below.refl _ _, rfl⟩
                    exact hK2
                  case t11 =>
                    intro x' w' hRw hd K' hK
                    simp only [All, G24] at hd
                    simp (config := {decide := true}) only [upd, G24, fillL, if_true, if_false] at hK ⊢
                    go_simp
                    have hK2 := hK _ _ ⟨hRw, Below.refl _ _, rfl⟩
                    exact hK2
                  case t12 =>
                    intro x' w' hRw hd K' hK
                    simp only [All, G24] at hd
                    obtain ⟨e11, _⟩ := hd
                    simp (config := {decide := true}) only [upd, G24, fillL, if_true, if_false] at hK ⊢
                    simp only [e11] at hK ⊢
                    obtain ⟨y0, y1, y2, y3⟩ := kb2.out w' hRw
                    go_simp
                    have hK2 := hK _ _ ⟨hRw, Below.refl _ _, rfl⟩
                    exact hK2
                  case t13 =>
                    intro x' w' hRw hd K' hK
                    simp only [All, G24] at hd
                    simp (config := {decide := true}) only [upd, G24, fillL, if_true, if_false] at hK ⊢
                    go_simp
                    have hK2 := hK _ _ ⟨hRw, Below.refl _ _, rfl⟩
                    exact hK2
                  case t14 =>
                    intro x' w' hRw hd K' hK
                    simp only [All, G24] at hd
                    obtain ⟨e12, e13, _⟩ := hd
                    simp (config := {decide := true}) only [upd, G24, fillL, if_true, if_false] at hK ⊢
                    simp only [e12, e13] at hK ⊢
                    go_simp
                    have hK2 := hK _ _ ⟨hRw, Below.refl _ _, rfl⟩
                    exact hK2
                  case t15 =>
                    intro x' w' hRw hd K' hK
                    simp only [All, G24] at hd
                    obtain ⟨e14, _⟩ := hd
                    simp (config := {decide := true}) only [upd, G24, fillL, if_true, if_false] at hK ⊢
                    simp only [e14] at hK ⊢
                    go_simp
                    have hK2 := hK _ _ ⟨hRw, Below.refl _ _, rfl⟩
                    exact hK2
                  case t16 =>
                    intro x' w' hRw hd K' hK
                    simp only [All, G24] at hd
                    obtain ⟨e15, _⟩ := hd
                    simp (config := {decide := true}) only [upd, G24, fillL, if_true, if_false] at hK ⊢
                    simp only [e15] at hK ⊢
                    obtain ⟨q0, q1⟩ := ke.out w' hRw
                    go_simp
                    have hK2 := hK _ _ ⟨hRw, Below.refl _ _, rfl⟩
                    exact hK2
                  case t17 =>
                    intro x' w' hRw hd K' hK
                    simp only [All, G24] at hd
                    obtain ⟨e16, _⟩ := hd
                    simp (config := {decide := true}) only [upd, G24, fillL, if_true, if_false] at hK ⊢
                    simp only [e16] at hK ⊢
                    go_simp
                    refine (c31'.out w' hRw).mono ?_
                    rintro e' w2 ⟨rfl, hB9⟩
                    have hK2 := hK _ _ ⟨bthen hRw hB9, hB9, rfl⟩
                    exact hK2
                  case t18 =>
                    intro x' w' hRw hd K' hK
                    simp only [All, G24] at hd
                    obtain ⟨e10, e17, _⟩ := hd
                    simp (config := {decide := true}) only [upd, G24, fillL, if_true, if_false] at hK ⊢
                    simp only [e10, e17] at hK ⊢
                    go_simp
                    rw [if_neg (by
                      have h1 := zo.out
                      have h2 := zl.out
                      have h3 := ze.out
                      have h4 : (ByteArray.mk #[62]).size = 1 := rfl
                      have h5 : (ByteArray.mk #[60, 114, 100, 102, 58, 108, 105]).size = 7 := rfl
                      have h6 : (ByteArray.mk #[60, 47, 114, 100, 102, 58, 108, 105, 62]).size = 9 := rfl
                      first | omega | (simp only [ByteArray.size_append]; omega))]
                    have hK2 := hK _ _ ⟨hRw, Below.refl _ _, rfl⟩
                    exact hK2
                  case t19 =>
                    intro x' w' hRw hd K' hK
                    simp only [All, G24] at hd
                    obtain ⟨e18, _⟩ := hd
                    simp (config := {decide := true}) only [upd, G24, fillL, if_true, if_false] at hK ⊢
                    simp only [e18] at hK ⊢
                    go_simp
                    rw [if_neg (by
                      have h1 := zo.out
                      have h2 := zl.out
                      have h3 := ze.out
                      have h4 : (ByteArray.mk #[62]).size = 1 := rfl
                      have h5 : (ByteArray.mk #[60, 114, 100, 102, 58, 108, 105]).size = 7 := rfl
                      have h6 : (ByteArray.mk #[60, 47, 114, 100, 102, 58, 108, 105, 62]).size = 9 := rfl
                      first | omega | (simp only [ByteArray.size_append]; omega))]
                    have hK2 := hK _ _ ⟨hRw, Below.refl _ _, rfl⟩
                    exact hK2
                  case tdone =>
                    intro x' w7 hR7 hG fr hfr
                    have e19 := hG 19 (by omega)
                    simp only [G24] at e19
                    simp only [fillL] at hfr
                    rw [e19] at hfr
                    clear hG e19
                    replace hR7 := Lib.hid hR7
                    subst hfr
                    go_wp2
                    go_roundw
                    case rel =>
                      refine ⟨q + 1, _, by omega, by go_num, rfl, ?_, ?_, bthen hBv.out hR7.out⟩
                      · rw [hTq.out]
                        unfold liR
                        simp only [ba_app, LM_list, hE.out, ho2.out]
                        simp
                      · simp only [ByteArray.size_append]
                        show _ + 7 + _ + 1 + _ + 9 ≤ _
                        omega
                    case measure => simp [RowKit.intOf]; omega
                · obtain rfl : q = m := by omega
                  have hTk : it.take q = it := by rw [hm9.out, List.take_length]
                  rw [hTk] at ho2
                  have zo2 : o2.size ≤ 2200000 := by omega
                  have hos3 : o2.size ≤ o.size + 444 + 10 + 80000 := by have := hP2s.out; have := hPs.out; omega
                  replace hos3 := Lib.hid hos3
                  replace ho2 := Lib.hid ho2
                  replace hBv := Lib.hid hBv
                  clear hTk ho2s
                  go_wp2
                  go_roundw
                  case rel =>
                    refine ⟨j + 1, _, by omega, by go_num, rfl, ?_, ?_, bthen hBY.out (bthen hBB.out hBv.out)⟩
                    · rw [hT.out]
                      simp only [ba_app, ho2.out, hP2l.out, hPl.out]
                      unfold descL bodyL D2
                      simp [kindL, liL]
                    · have h1 := hos.out
                      have h2 := hos3.out
                      simp only [ByteArray.size_append]
                      show _ + 2 + 7 + 1 + 4 + _ + 20 ≤ _
                      omega
                  case measure => simp [RowKit.intOf]; omega
        · obtain rfl : j = k := by omega
          have hTk : l.take j = l := by rw [← hlk.out, List.take_length]
          rw [hTk] at ho
          have hP : packetL (pl l) = o.data.toList ++ TL.data.toList := by
            unfold packetL pl
            rw [ho, List.flatMap_map]
          obtain ⟨c9, W9, hcv, hy9, hb9, _, hz9⟩ := conv_bytes wr (o ++ TL) (by rw [ByteArray.size_append]; show _ + 42 ≤ _; omega)
          have hlen : (packetL (pl l)).length = (o ++ TL).size := by rw [hP, ← ba_app]; exact Array.length_toList
          rw [ba_app, ← hP] at hy9
          have hr9 := hR9.out
          unfold TL at hcv
          replace hP := Lib.hid hP
          replace ho := Lib.hid ho
          replace hB := Lib.hid hB
          replace hr9 := Lib.hid hr9
          replace hb9 := Lib.hid hb9
          replace hy9 := Lib.hid hy9
          clear hTk hR9 hlen hz9
          go_wp2
          go_ret2
          refine ⟨bthen hB0.out (bthen hB.out hb9.out), ?_⟩
          rw [hr9.out]
          have hoz : (o ++ TL).data.size = o.size + 42 := ByteArray.size_append
          exact ⟨_, c9, by rw [hP.out, ← ba_app, Array.length_toList, hoz]; rfl, hy9.out⟩
end Go.Proofs.YtkpikpaepgknnaaGreatDoor

/- Are properties few and small? No condition. -/
namespace Go.Proofs.YtkpikpaepgknnaaGreatDoor
open Go Go.RowKit Go.Wk Go.Xt Go.Xe Go.Xw
/-- a caller's property: its entries stand in memory -/
def Held (w : World) (x : PA) : Prop := EnsAt w x.2.1 x.1.it ∧ x.1.it.length ≤ x.2.2
theorem Held.below {w w' : World} {x : PA} (h : Held w x) (hb : Below w.heap.size w w') : Held w' x := ⟨h.1.below hb, h.2⟩
def FewS (l : List PA) (e : Ending) : Prop := ∃ b : Bool, e = .returned (.bool b) ∧ (b = true → l.length ≤ 20 ∧ ∀ x ∈ l, Xw.Small x.1)
set_option maxHeartbeats 8000000 in
set_option maxRecDepth 100000 in
theorem few_walk {w : World} (A : Option Addr) (g og c : Nat) (l : List PA) (hA : 0 < l.length → A = some ⟨g, og, none⟩) (hcp : l.length ≤ c) (hc : CellsO w g og l) (hh : ∀ x ∈ l, Held w x) (hm : l.length ≤ 9223372036854775807) :
    Calls Tryz.prog 9 #[.slice A l.length c] w fun e w' => FewS l e ∧ w = w' := by
  obtain ⟨n, hnn⟩ : ∃ n, n = l.length := ⟨_, rfl⟩
  rw [← hnn]
  rw [← hnn] at hcp hA hm
  replace hnn := Lib.hid hnn
  replace hA := Lib.hid hA
  replace hc := Lib.hid hc
  replace hh := Lib.hid hh
  by_cases hn : n ≤ 20
  · go_enter Tryz.func9, Tryz.ntmps9
    go_wp2
    go_loopw [3] (fun s3 wr => ∃ i : Nat, i ≤ n ∧ s3 = .int .i64 i ∧ (∀ j (hj : j < l.length), j < i → Xw.Small l[j].1) ∧ w = wr) (fun s3 _ => n - (RowKit.intOf s3).toNat)
    case atStart => exact ⟨0, Nat.zero_le _, rfl, fun j _ h => by omega, rfl⟩
    case round =>
      obtain ⟨i, hi, rfl, hsm, rfl⟩ := hrel
      replace hsm := Lib.hid hsm
      by_cases hin : i < n
      · have hil : i < l.length := by rw [← hnn.out]; exact hin
        have hAe := hA.out (by omega)
        subst hAe
        obtain ⟨x0, x1, x2, x3⟩ := hc.out i hil
        have hx := hh.out _ (List.getElem_mem hil)
        have hnext : Xw.Small l[i].1 → ∀ j (hj : j < l.length), j < i + 1 → Xw.Small l[j].1 := fun hs j hj h => by
          by_cases hji : j = i
          · subst hji; exact hs
          · exact hsm.out j hj (by omega)
        generalize l[i] = x at x0 x1 x2 x3 hx hnext
        obtain ⟨⟨sp, nm, kd, it⟩, B, cB⟩ := x
        obtain ⟨he, hcB⟩ := hx
        simp only at x0 x1 x2 x3 he hcB
        obtain ⟨m, hm9⟩ : ∃ m, m = it.length := ⟨_, rfl⟩
        rw [← hm9] at x3 hcB
        replace hnext := Lib.hid hnext
        replace he := Lib.hid he
        replace hm9 := Lib.hid hm9
        by_cases a1 : sp.size ≤ 200
        case neg =>
          clear hnext he
          go_wp2
          go_ret
          first | exact ⟨⟨false, rfl, fun h => by cases h⟩, rfl⟩ | exact ⟨false, rfl, fun h => by cases h⟩
        by_cases a2 : nm.size ≤ 200
        case neg =>
          clear hnext he
          go_wp2
          go_ret
          first | exact ⟨⟨false, rfl, fun h => by cases h⟩, rfl⟩ | exact ⟨false, rfl, fun h => by cases h⟩
        by_cases a3 : m ≤ 20
        case neg =>
          clear hnext he
          go_wp2
          go_ret
          first | exact ⟨⟨false, rfl, fun h => by cases h⟩, rfl⟩ | exact ⟨false, rfl, fun h => by cases h⟩
        go_wp2
        go_loopw [4] (fun s4 wr => ∃ k : Nat, k ≤ m ∧ s4 = .int .i64 k ∧ (∀ j (hj : j < it.length), j < k → it[j].1.size ≤ 100 ∧ it[j].2.size ≤ 300) ∧ w = wr) (fun s4 _ => m - (RowKit.intOf s4).toNat)
        case atStart => exact ⟨0, Nat.zero_le _, rfl, fun j _ h => by omega, rfl⟩
        case round =>
          obtain ⟨k, hk, rfl, hen, rfl⟩ := hrel
          replace hen := Lib.hid hen
          by_cases hkm : k < m
          · have hkl : k < it.length := by rw [← hm9.out]; exact hkm
            obtain ⟨gg, oo, rfl, hcs⟩ := he.out (by omega)
            obtain ⟨w0, w1⟩ := hcs k hkl
            have hnx : it[k].1.size ≤ 100 ∧ it[k].2.size ≤ 300 → ∀ j (hj : j < it.length), j < k + 1 → it[j].1.size ≤ 100 ∧ it[j].2.size ≤ 300 := fun hs j hj h => by
              by_cases hjk : j = k
              · subst hjk; exact hs
              · exact hen.out j hj (by omega)
            generalize it[k] = en at w0 w1 hnx
            obtain ⟨L, T⟩ := en
            simp only at w0 w1 hnx
            replace hnx := Lib.hid hnx
            clear hcs
            by_cases b1 : T.size ≤ 300
            case neg =>
              clear hnext he
              go_wp2
              go_ret
              first | exact ⟨⟨false, rfl, fun h => by cases h⟩, rfl⟩ | exact ⟨false, rfl, fun h => by cases h⟩
            by_cases b2 : L.size ≤ 100
            case neg =>
              clear hnext he
              go_wp2
              go_ret
              first | exact ⟨⟨false, rfl, fun h => by cases h⟩, rfl⟩ | exact ⟨false, rfl, fun h => by cases h⟩
            go_wp2
            go_roundw
            case rel => exact ⟨k + 1, by omega, by go_num, hnx.out ⟨b2, b1⟩, by first | rfl | trivial⟩
            case measure => simp [RowKit.intOf]; omega
          · obtain rfl : k = m := by omega
            go_wp2
            go_roundw
            case rel => exact ⟨i + 1, by omega, by go_num, hnext.out ⟨a1, a2, by show it.length ≤ 20; rw [← hm9.out]; exact a3, fun e he => by obtain ⟨j, hj, rfl⟩ := List.getElem_of_mem he; exact hen.out j hj (by rw [hm9.out]; exact hj)⟩, by first | rfl | trivial⟩
            case measure => simp [RowKit.intOf]; omega
      · obtain rfl : i = n := by omega
        go_wp2
        go_ret
        refine ⟨⟨true, rfl, fun _ => ⟨by rw [← hnn.out]; exact hn, fun x hx => by obtain ⟨j, hj, rfl⟩ := List.getElem_of_mem hx; exact hsm.out j hj (by rw [hnn.out]; exact hj)⟩⟩, rfl⟩
  · go_enter Tryz.func9, Tryz.ntmps9
    go_wp2
    go_ret
    first | exact ⟨⟨false, rfl, fun h => by cases h⟩, rfl⟩ | exact ⟨false, rfl, fun h => by cases h⟩
end Go.Proofs.YtkpikpaepgknnaaGreatDoor

/- Rows of entries, and what is appended. No condition. -/
namespace Go.Proofs.YtkpikpaepgknnaaGreatDoor
open Go Go.RowKit Go.Wk Go.Xt Go.Xe Go.Xw
def flatE (it : List (ByteArray × ByteArray)) : List Value := it.flatMap fun e => [.string e.1, .string e.2]
theorem flatE_len (it : List (ByteArray × ByteArray)) : (flatE it).length = it.length * 2 := by
  induction it with
  | nil => rfl
  | cons x l ih => unfold flatE at *; rw [List.flatMap_cons, List.length_append, ih]; simp; omega
theorem flatE_at : ∀ (it : List (ByteArray × ByteArray)) (i : Nat) (hi : i < it.length), (flatE it)[i * 2]? = some (.string it[i].1) ∧ (flatE it)[i * 2 + 1]? = some (.string it[i].2)
  | [], i, h => by simp at h
  | x :: l, 0, _ => ⟨rfl, rfl⟩
  | x :: l, i + 1, h => by
    have ih := flatE_at l i (by simpa using h)
    unfold flatE at *
    rw [List.flatMap_cons]
    have e : ([Value.string x.1, .string x.2] : List Value).length = 2 := rfl
    rw [List.getElem?_append_right (by rw [e]; omega), List.getElem?_append_right (by rw [e]; omega), e, show (i + 1) * 2 - 2 = i * 2 by omega, show (i + 1) * 2 + 1 - 2 = i * 2 + 1 by omega]
    exact ih
/-- a property's entries, in a row of its own -/
def ItemRow (W : World) (B : Nat) (x : PA) : Prop := W.ownsRow B 55 2 (.slice x.2.1 x.1.it.length x.2.2) x.1.it.length (flatE x.1.it)
theorem item_out {W : World} {B : Nat} {x : PA} (h : ItemRow W B x) : EnsAt W x.2.1 x.1.it ∧ x.1.it.length ≤ x.2.2 := by
  rcases h.2 with ⟨e, h0⟩ | ⟨g, cap, cur, e, _, hh, hnc, _, _, htk⟩
  · injection e with e1 e2 e3
    exact ⟨fun h => by omega, by omega⟩
  · injection e with e1 e2 e3
    subst e3
    refine ⟨fun h0 => ⟨g, 0, e1, fun i hi => ?_⟩, hnc⟩
    have hc : ∀ j u, (flatE x.1.it)[j]? = some u → W.cell? ⟨g, 0 + j, none⟩ = some u := fun j u hu => by
      have hj : j < x.1.it.length * 2 := by rw [← flatE_len]; exact (List.getElem?_eq_some_iff.1 hu).1
      rw [Nat.zero_add, cell_of_row W g _ cur 55 (0, 0) hh, ← Array.getElem?_toList]
      rw [← htk, List.getElem?_take, if_pos (by omega)] at hu
      exact hu
    have h1 := flatE_at x.1.it i hi
    exact ⟨hc _ _ h1.1, by have := hc _ _ h1.2; rw [← Nat.add_assoc] at this; exact this⟩
/-- rows of different things are different rows -/
theorem rows_apart {w : World} {B1 B2 e1 e2 s1 s2 n1 n2 : Nat} {v1 v2 : Value} {x1 x2 : List Value} (h1 : w.ownsRow B1 e1 s1 v1 n1 x1) (h2 : w.ownsRow B2 e2 s2 v2 n2 x2) (hne : e1 ≠ e2) : v1.ownBlock = none ∨ v1.ownBlock ≠ v2.ownBlock := by
  rcases h1.2 with ⟨rfl, _⟩ | ⟨g, cap, cur, rfl, _, hh, _⟩
  · exact .inl rfl
  · right
    rcases h2.2 with ⟨rfl, _⟩ | ⟨g', cap', cur', rfl, _, hh', _⟩
    · simp [Value.ownBlock]
    · intro e
      have e : some g = some g' := e
      injection e with e
      subst e
      rw [hh] at hh'
      injection hh' with hh'
      injection hh' with _ h3
      exact hne h3
/-- one thing behind a row of one's own, and what is as it was -/
theorem wp_app_one {w : World} {o : Oper} {a : Act} {K : Act → World → Prop} {Q : Exit → Act → World → Prop} (t e size bytes : Nat) (i : TypeInfo) (z : Value) (ht : Tryz.prog.underlying t = some (.slice e)) (hi : Tryz.prog.info? e = some i) (hz : i.zero = some z) (hsize : i.size = size) (hby : i.bytes = bytes) (hzs : z.cells.size = size) (hsz : 0 < size) (hb100 : bytes ≤ 100) (hs100 : size ≤ 100)
    (s x : Operand) (ho : o.op = .call { callee := .builtin .append, args := #[s, x], argTypes := #[t, t] }) (B : Nat) (v : Value) (n : Nat) (xs : List Value) (hs : a.eval s = v) (hown : w.ownsRow B e size v n xs)
    (q : Nat) (cs : Array Value) (hx : a.eval x = .slice (some ⟨q, 0, none⟩) 1 1) (hq : Blk w q e cs) (hcs : cs.size = size) (hone : ∀ u ∈ cs.toList, u.oneCell' = true) (hn : n ≤ 1000000) (hB : B ≤ w.heap.size)
    (h : ∀ v' w', w'.ownsRow B e size v' (n + 1) (xs ++ cs.toList) → w.grownBy w' v.ownBlock → K (a.put o.dst v') w') : Oper.wp Tryz.prog o a w K Q := by
  have hnews : ∀ j u, cs.toList[j]? = some u → w.cell? ((⟨q, 0, none⟩ : Addr).add j) = some u := fun j u hj => by
    rw [add_none, Nat.zero_add, hq.cell j, ← Array.getElem?_toList]; exact hj
  have hbyt : (n + 1) * bytes ≤ 140737488355328 := by
    calc (n + 1) * bytes ≤ 1000001 * 100 := Nat.mul_le_mul (by omega) hb100
      _ ≤ _ := by decide
  obtain ⟨v', w', hr, h2, h3, _, _⟩ := run_append_own_at (P := Tryz.prog) w B t o.type e i z size bytes ht hi hz hsize hby hzs hsz v n xs hown ⟨q, 0, none⟩ 1 1 cs.toList (by rw [Array.length_toList, hcs, Nat.one_mul]) hnews hone (by unfold maxLen; omega) hbyt hB
  unfold Oper.wp execOp
  simp only [ho, resolve, invoke, builtin, Sem.run_bind, Sem.run_pure, Result.andThen_ok, List.map_toArray, List.map_cons, List.map_nil, hs, hx, hr]
  exact h v' w' h2 h3
theorem flatE_snoc (l : List (ByteArray × ByteArray)) (e : ByteArray × ByteArray) : flatE (l ++ [e]) = flatE l ++ [.string e.1, .string e.2] := by unfold flatE; simp
/-- an entry behind entries -/
theorem wp_app_ent {w : World} {o : Oper} {a : Act} {K : Act → World → Prop} {Q : Exit → Act → World → Prop}
    (s x : Operand) (ho : o.op = .call { callee := .builtin .append, args := #[s, x], argTypes := #[36, 36] }) (B : Nat) (A : Option Addr) (k c : Nat) (l : List (ByteArray × ByteArray)) (hk : l.length = k) (hs : a.eval s = .slice A k c) (hown : w.ownsRow B 55 2 (.slice A k c) k (flatE l))
    (q : Nat) (L T : ByteArray) (hx : a.eval x = .slice (some ⟨q, 0, none⟩) 1 1) (hq : Blk w q 55 #[.string L, .string T]) (hn : k ≤ 1000000) (hB : B ≤ w.heap.size)
    (h : ∀ A' c' w', w'.ownsRow B 55 2 (.slice A' (k + 1) c') (k + 1) (flatE (l ++ [(L, T)])) → w.grownBy w' (Value.slice A k c).ownBlock → K (a.put o.dst (.slice A' (k + 1) c')) w') : Oper.wp Tryz.prog o a w K Q := by
  obtain ⟨i0, hi, hz0, hz1, hz2⟩ := info55
  refine wp_app_one 36 55 2 32 i0 _ Tryz.underlying36 hi hz0 hz1 hz2 rfl (by decide) (by decide) (by decide) s x ho B _ k _ hs hown q _ hx hq rfl (fun u hu => by simp at hu; rcases hu with rfl | rfl <;> rfl) hn hB ?_
  intro v' w' h1 h2
  rw [show flatE l ++ (#[Value.string L, .string T] : Array Value).toList = flatE (l ++ [(L, T)]) from (flatE_snoc l (L, T)).symm] at h1
  have hsl : ∃ a c, v' = .slice a (k + 1) c := by rcases h1.2 with ⟨_, h⟩ | ⟨_, _, _, rfl, _⟩ <;> first | omega | exact ⟨_, _, rfl⟩
  obtain ⟨A', c', rfl⟩ := hsl
  exact h A' c' w' h1 h2
/-- a property behind properties -/
theorem wpList_app_prop {w : World} {ops : Array Oper} {rest : List Oper} {o : Oper} {a : Act} {Q : Exit → Act → World → Prop} (hgd : o.guard = none) (s x : Operand) (ho : o.op = .call { callee := .builtin .append, args := #[s, x], argTypes := #[29, 29] }) (B : Nat) (v : Value) (l : List PA) (hs : a.eval s = v) (hown : w.ownsRow B 38 4 v l.length (flatP l))
    (q : Nat) (y : PA) (hx : a.eval x = .slice (some ⟨q, 0, none⟩) 1 1) (hq : Blk w q 38 (prs y).toArray) (hn : l.length ≤ 1000000) (hB : B ≤ w.heap.size)
    (h : ∀ A n c w', w'.ownsRow B 38 4 (.slice A n c) (l ++ [y]).length (flatP (l ++ [y])) → w.grownBy w' v.ownBlock → wpList Tryz.prog ops Q rest (a.put o.dst (.slice A n c)) w') : wpList Tryz.prog ops Q (o :: rest) a w := by
  refine wpList_plain hgd fun K hK => ?_
  obtain ⟨i0, hi, hz0, hz1, hz2⟩ := info38
  refine wp_app_one 29 38 4 64 i0 _ Tryz.underlying29 hi hz0 hz1 hz2 rfl (by decide) (by decide) (by decide) s x ho B v _ _ hs hown q _ hx hq rfl (prs_one y) hn hB ?_
  intro v' w' h1 h2
  rw [show l.length + 1 = (l ++ [y]).length by simp, show flatP l ++ (prs y).toArray.toList = flatP (l ++ [y]) from (flat_snoc l y).symm] at h1
  have hsl : ∃ a m c, v' = .slice a m c := by rcases h1.2 with ⟨rfl, _⟩ | ⟨_, _, _, rfl, _⟩ <;> exact ⟨_, _, _, rfl⟩
  obtain ⟨A, n, c, rfl⟩ := hsl
  exact hK _ _ (h A n c w' h1 h2)
end Go.Proofs.YtkpikpaepgknnaaGreatDoor

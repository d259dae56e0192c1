/- Walks and laws, joined: part K. No condition. -/
import Derived.Test.YtkpikpaepgknnaaGreatDoorXkJJ
import Derived.Test.YtkpikpaepgknnaaGreatDoorXkJI
import Derived.Test.YtkpikpaepgknnaaGreatDoorXkJH
import Derived.Test.YtkpikpaepgknnaaGreatDoorXkJG
import Derived.Lib.LazyBuf
set_option linter.unusedSimpArgs false
set_option linter.unusedVariables false
/- A property out of its element: several items. No condition. -/
namespace Go.Proofs.YtkpikpaepgknnaaGreatDoor
open Go Go.RowKit Go.Wk Go.Xt Go.Xe Go.Xw
theorem flatE_take (it : List (ByteArray × ByteArray)) {i : Nat} (hi : i < it.length) : flatE (it.take (i + 1)) = flatE (it.take i) ++ [.string it[i].1, .string it[i].2] := by
  unfold flatE
  rw [List.take_succ_eq_append_getElem hi, List.flatMap_append]
  simp
theorem ent_info : ∃ i, Tryz.prog.info? 55 = some i ∧ i.zero = some (.agg #[.string ⟨#[]⟩, .string ⟨#[]⟩]) ∧ i.size = 2 ∧ i.bytes = 32 := ⟨Tryz.t55, by kernel_rfl, by kernel_rfl, by kernel_rfl, by kernel_rfl⟩
theorem two_new (w : World) (v0 v1 : Value) (t : TypeId) : ∀ j u, [v0, v1][j]? = some u → (w.alloc (.cells #[v0, v1] t)).cell? ((⟨w.heap.size, 0, none⟩ : Addr).add j) = some u := by
  intro j u hj
  rw [Lib.add_plain, alloc_cell, ← hj]
  match j with
  | 0 => rfl
  | 1 => rfl
  | _ + 2 => rfl
theorem ent_one (a0 a1 : ByteArray) : ∀ u ∈ [Value.string a0, .string a1], u.oneCell' = true := by
  intro u hu
  simp at hu
  rcases hu with rfl | rfl <;> rfl
theorem grow_keep {w5 w8 w9 : World} {b2 n : Nat} {v : Value} {xs : List Value} {o1 o2 : Obj} {cs : Array Value} (hO : w8.ownsRow w5.heap.size 55 2 v n xs) (hY : Blk w8 b2 38 cs) (hb : b2 < w5.heap.size) (hS : Save b2 w5 w8) (hg : ((w8.alloc o1).alloc o2).grownBy w9 v.ownBlock) : Blk w9 b2 38 cs ∧ Save b2 w5 w9 := by
  have k1 : Below w8.heap.size w8 ((w8.alloc o1).alloc o2) := ((Below.refl _ _).alloc (Nat.le_refl _) _).alloc (by rw [World.size_alloc]; omega) _
  have hz := hS.size
  have hz1 := k1.size
  have hlt := hO.lt
  refine ⟨(hg.block b2 (by omega) (fun e => by have := (hlt b2 e.symm).1; omega)).trans ((k1.block b2 (by omega)).trans hY), ⟨hg.os.trans (k1.os.trans hS.os), hg.tape.trans (k1.tape.trans hS.tape), hg.output.trans (k1.output.trans hS.output), by have := hg.size; omega, fun k hk hn => ?_⟩⟩
  exact (hg.block k (by omega) (fun e => by have := (hlt k e.symm).1; omega)).trans ((k1.block k (by omega)).trans (hS.block k hk hn))
theorem two_new1 (w : World) (o : Obj) (v0 v1 : Value) (t : TypeId) : ∀ j u, [v0, v1][j]? = some u → ((w.alloc o).alloc (.cells #[v0, v1] t)).cell? ((⟨w.heap.size + 1, 0, none⟩ : Addr).add j) = some u := by
  have := two_new (w.alloc o) v0 v1 t
  rw [World.size_alloc] at this
  exact this
theorem ents_of {w : World} {B : Nat} {v : Value} {it : List (ByteArray × ByteArray)} (h : w.ownsRow B 55 2 v it.length (flatE it)) : ∃ A c, v = .slice A it.length c ∧ EnsAt w A it ∧ it.length ≤ c ∧ ∀ a, A = some a → B ≤ a.block ∧ a.block < w.heap.size := by
  rcases h.2 with ⟨rfl, h0⟩ | ⟨g, cap, cur, rfl, hB, hh, hnc, _, _, htk⟩
  · have : it = [] := List.eq_nil_of_length_eq_zero h0
    subst this
    exact ⟨none, 0, rfl, fun h => by simp at h, Nat.le_refl _, fun a h => by cases h⟩
  · refine ⟨_, cap, rfl, fun _ => ⟨g, 0, rfl, fun i hi => ?_⟩, hnc, fun a h => by cases h; exact ⟨hB, (Array.getElem?_eq_some_iff.1 hh).1⟩⟩
    have hc : ∀ j u, (flatE it)[i * 2 + j]? = some u → j < 2 → w.cell? ⟨g, i * 2 + j, none⟩ = some u := fun j u hu hj => by
      rw [cell_of_row w g _ cur 55 (0, 0) hh, ← Array.getElem?_toList]
      rw [← htk, List.getElem?_take, if_pos (by omega)] at hu
      exact hu
    obtain ⟨h1, h2⟩ := flatE_at it i hi
    rw [Nat.zero_add]
    exact ⟨hc 0 _ h1 (by omega), hc 1 _ h2 (by omega)⟩
theorem one_row {w : World} {B n c : Nat} {a : Option Addr} {vs : List Value} (h : w.ownsRow B 70 5 (.slice a (n + 1) c) (n + 1) vs) : ∃ g, a = some ⟨g, 0, none⟩ ∧ B ≤ g ∧ g < w.heap.size := by
  rcases h.2 with ⟨_, h0⟩ | ⟨g, cap, cur, e, hB, hh, _⟩
  · omega
  · injection e with e _ _
    exact ⟨g, e, hB, (Array.getElem?_eq_some_iff.1 hh).1⟩
theorem nx_el {w : World} {sp nm : List UInt8} {l : List (List UInt8 × List UInt8 × List UInt8)} {ks : List Nx} {us : List Value} {b : List Nat} (h : NxAt w (.el sp nm l ks) us b) : ∃ a1 c1 a2 c2 ba bk, us = [str sp, str nm, str [], .slice a1 l.length c1, .slice a2 ks.length c2] ∧ b = ba ++ bk ∧ AtX w l (.slice a1 l.length c1) ba ∧ KxAt w ks (.slice a2 ks.length c2) bk := by
  cases h with
  | el _ _ _ _ va vk ba bk h1 h2 =>
    obtain ⟨a1, c1, rfl⟩ := h1.slice
    obtain ⟨a2, c2, rfl⟩ := h2.slice
    exact ⟨a1, c1, a2, c2, ba, bk, rfl, rfl, h1, h2⟩
theorem li_els (it : List (ByteArray × ByteArray)) : elsX (it.map liN) = it.map liN := by
  unfold elsX
  rw [List.filter_eq_self]
  intro k hk
  obtain ⟨e, _, rfl⟩ := List.mem_map.1 hk
  rfl
set_option maxHeartbeats 8000000 in
set_option maxRecDepth 100000 in
theorem prop_row {w : World} (sp nm : ByteArray) (kd : Int) (it : List (ByteArray × ByteArray)) (hkd : kd = 1 ∨ kd = 2 ∨ kd = 3) (hit : it.length ≤ 20) (hTl : ∀ e ∈ it, e.2.data.toList.length ≤ 100000) (Z : ByteArray) (a2 : Option Addr) (n2 c2 : Nat) (bk : List Nat) (hK : KxAt w [.el rdfL (kindL kd) [] (it.map liN)] (.slice a2 n2 c2) bk) :
    Calls Tryz.prog 73 #[.agg #[.string sp, .string nm, .string Z, .slice none 0 0, .slice a2 n2 c2]] w (PropQ w ⟨sp, nm, kd, it⟩) := by
  obtain ⟨Wa, hWa⟩ : ∃ W, W = w.alloc (.cells #[.string sp, .string nm, .string Z, .slice none 0 0, .slice a2 n2 c2] 70) := ⟨_, rfl⟩
  obtain ⟨Wb, hWb⟩ : ∃ W, W = Wa.alloc (.cells #[.string ⟨#[]⟩, .string ⟨#[]⟩, .int .i64 0, .slice none 0 0] 38) := ⟨_, rfl⟩
  obtain ⟨W1, hW1⟩ : ∃ W, W = Wb.alloc (.cells #[.string sp, .string nm, .int .i64 0, .slice none 0 0] 38) := ⟨_, rfl⟩
  have za : Wa.heap.size = w.heap.size + 1 := by rw [hWa]; exact World.size_alloc _ _
  have zb : Wb.heap.size = w.heap.size + 2 := by rw [hWb, World.size_alloc, za]
  have z1 : W1.heap.size = w.heap.size + 3 := by rw [hW1, World.size_alloc, zb]
  have ka : Below w.heap.size w Wa := by rw [hWa]; exact (Below.refl _ _).alloc (Nat.le_refl _) _
  have kb : Below Wa.heap.size Wa Wb := by rw [hWb]; exact (Below.refl _ _).alloc (Nat.le_refl _) _
  have k1 : Below Wb.heap.size Wb W1 := by rw [hW1]; exact (Below.refl _ _).alloc (Nat.le_refl _) _
  have hb1 : Below w.heap.size w W1 := bthen ka (bthen kb k1)
  have hRa : Blk W1 w.heap.size 70 #[.string sp, .string nm, .string Z, .slice none 0 0, .slice a2 n2 c2] := by
    have h : Blk Wa w.heap.size 70 #[.string sp, .string nm, .string Z, .slice none 0 0, .slice a2 n2 c2] := by rw [hWa]; exact Blk.new w 70 _
    exact (h.below kb h.lt).below k1 (by omega)
  have hRb : Blk W1 (w.heap.size + 1) 38 #[.string ⟨#[]⟩, .string ⟨#[]⟩, .int .i64 0, .slice none 0 0] := by
    have h : Blk Wb Wa.heap.size 38 #[.string ⟨#[]⟩, .string ⟨#[]⟩, .int .i64 0, .slice none 0 0] := by rw [hWb]; exact Blk.new Wa 38 _
    rw [za] at h
    exact h.below k1 (by omega)
  have hR1 : Blk W1 (w.heap.size + 1 + 1) 38 #[.string sp, .string nm, .int .i64 0, .slice none 0 0] := by
    have h : Blk W1 Wb.heap.size 38 #[.string sp, .string nm, .int .i64 0, .slice none 0 0] := by rw [hW1]; exact Blk.new Wb 38 _
    rw [zb] at h; exact h
  have hltK := hK.lt
  have hK1 := hK.keep (w' := W1) fun k hk => hb1.block k (hltK k hk)
  have hkn : kindL kd ≠ [] := by rcases hkd with rfl | rfl | rfl <;> decide
  have ci := xmp_item_no (w := W1) sp nm Z 0 a2 n2 c2 _ bk hK1 rdfL (kindL kd) [] (it.map liN) [] rfl hkn
  obtain ⟨b1, e1⟩ : ∃ b, b = w.heap.size + 1 := ⟨_, rfl⟩
  obtain ⟨b2, e2⟩ : ∃ b, b = b1 + 1 := ⟨_, rfl⟩
  rw [← e1] at hRb hR1
  rw [← e2] at hR1
  have g1 : ¬ (b1 = b2) := by omega
  have g2 : ¬ (b2 = b1) := by omega
  have r0 : W1.cell? ⟨w.heap.size, 0, none⟩ = some (.string sp) := hRa.cell 0
  have r1 : W1.cell? ⟨w.heap.size, 1, none⟩ = some (.string nm) := hRa.cell 1
  have r2 : W1.cell? ⟨w.heap.size, 2, none⟩ = some (.string Z) := hRa.cell 2
  have r3 : W1.cell? ⟨w.heap.size, 3, none⟩ = some (.slice none 0 0) := hRa.cell 3
  have r4 : W1.cell? ⟨w.heap.size, 4, none⟩ = some (.slice a2 n2 c2) := hRa.cell 4
  have kr : ∀ w2, Below W1.heap.size W1 w2 → Blk w2 w.heap.size 70 #[.string sp, .string nm, .string Z, .slice none 0 0, .slice a2 n2 c2] ∧ Blk w2 b1 38 #[.string ⟨#[]⟩, .string ⟨#[]⟩, .int .i64 0, .slice none 0 0] ∧ Blk w2 b2 38 #[.string sp, .string nm, .int .i64 0, .slice none 0 0] ∧ Below w.heap.size w w2 := fun w2 h => ⟨hRa.below h hRa.lt, hRb.below h hRb.lt, hR1.below h hR1.lt, bthen hb1 h⟩
  have ce := fun W (hW : Below w.heap.size w W) => xmp_elements (w := W) sp nm Z none 0 0 a2 n2 c2 _ bk (hK.keep fun k hk => hW.block k (hltK k hk)) (fun k hk => by rw [List.mem_singleton.1 hk]; exact hkn) (by simp)
  replace hb1 := Lib.hid hb1
  replace kr := Lib.hid kr
  replace za := Lib.hid za
  replace zb := Lib.hid zb
  replace z1 := Lib.hid z1
  replace hltK := Lib.hid hltK
  replace ce := Lib.hid ce
  clear hRa hRb hR1 ka kb k1 hK1
  go_enter Tryz.func73, Tryz.ntmps73
  go_upto_region 2 with (fail)
  rw [← hWa, ← hWb, ← hW1, ← e1, ← e2]
  replace hWa := Lib.hid hWa
  replace hWb := Lib.hid hWb
  replace hW1 := Lib.hid hW1
  replace e1 := Lib.hid e1
  replace e2 := Lib.hid e2
  go_upto_region 6 with (first
    | (go_at_call 104; (with_reducible refine ci.mono ?_); rintro e w2 ⟨rfl, hb2⟩; obtain ⟨hN, hX, hY, hB2⟩ := kr.out w2 hb2; have n0 := hN.cell 0; have n1 := hN.cell 1; have n2' := hN.cell 2; have n3 := hN.cell 3; have n4 := hN.cell 4; have hNl := hN.lt; replace hb2 := Lib.hid hb2; replace hX := Lib.hid hX; replace hY := Lib.hid hY; replace hB2 := Lib.hid hB2; replace hN := Lib.hid hN))
  obtain ⟨W2, hW2⟩ : ∃ W, W = w2.alloc (.cells #[.string ⟨#[]⟩, .string ⟨#[]⟩] 55) := ⟨_, rfl⟩
  have k2 : Below w2.heap.size w2 W2 := by rw [hW2]; exact (Below.refl _ _).alloc (Nat.le_refl _) _
  have hB2W := bthen hB2.out k2
  have hX2 := hX.out.below k2 hX.out.lt
  have hY2 := hY.out.below k2 hY.out.lt
  have ce2 := ce.out W2 hB2W
  rw [← hW2]
  have n0 := (k2.cell (cell_lt n0)).trans n0
  have n1 := (k2.cell (cell_lt n1)).trans n1
  have n2' := (k2.cell (cell_lt n2')).trans n2'
  have n3 := (k2.cell (cell_lt n3)).trans n3
  have n4 := (k2.cell (cell_lt n4)).trans n4
  replace k2 := Lib.hid k2
  replace hB2W := Lib.hid hB2W
  replace hX2 := Lib.hid hX2
  replace hY2 := Lib.hid hY2
  replace hW2 := Lib.hid hW2
  clear hNl hX hY hN
  go_upto_region 7 with (first
    | (go_at_call 35; (with_reducible refine ce2.mono ?_); rintro e w3 ⟨a3, n3', c3, vs3, bb3, rfl, hn3, hO3, hX3, hb3, hB3⟩; replace hn3 : n3' = 1 := hn3; subst hn3))
  obtain ⟨g3, rfl, hg3, hg3l⟩ := one_row (n := 0) hO3
  obtain ⟨us, bi, hNx, hbi, hus⟩ := hX3.at (i := 0) (Nat.zero_lt_one)
  obtain ⟨a4, c4, a5, c5, ba4, bk5, rfl, rfl, hA4, hK5⟩ := nx_el (show NxAt w3 (.el rdfL (kindL kd) [] (it.map liN)) us bi from hNx)
  obtain ⟨RS, hRS⟩ : ∃ S : ByteArray, str rdfL = .string S := ⟨_, rfl⟩
  obtain ⟨KS, hKS⟩ : ∃ S : ByteArray, str (kindL kd) = .string S := ⟨_, rfl⟩
  obtain ⟨m5, hm5⟩ : ∃ m, m = (it.map liN).length := ⟨_, rfl⟩
  rw [← hm5] at hus hK5
  rw [hRS, hKS] at hus
  obtain ⟨q0, q1, q2, q3, q4⟩ := kids_cells (S := RS) (N := KS) (T := ⟨#[]⟩) hO3 (i := 0) (by simp) hus
  simp only [Nat.zero_mul, Nat.zero_add] at q0 q1 q2 q3 q4
  have t1 : (RS.toList == [104, 116, 116, 112, 58, 47, 47, 119, 119, 119, 46, 119, 51, 46, 111, 114, 103, 47, 49, 57, 57, 57, 47, 48, 50, 47, 50, 50, 45, 114, 100, 102, 45, 115, 121, 110, 116, 97, 120, 45, 110, 115, 35]) = true := by rw [toList_str _ _ hRS]; rfl
  have ck := fun W => xmp_kind (w := W) kd hkd
  rw [hKS] at ck
  have hX3' := hX2.out.below hB3 hX2.out.lt
  have hY3 := hY2.out.below hB3 hY2.out.lt
  obtain ⟨d0, d1, d2, d3⟩ := blk4 hY3
  have u2 := hY3.frozen 2
  have hYl := hY2.out.lt
  have g3b : ¬ (g3 = b2) := by omega
  have g3c : ¬ (b2 = g3) := by omega
  have hbk : ∀ k ∈ bk5, k < w.heap.size := fun k hk => hltK.out k (hb3 k (hbi k (List.mem_append_right _ hk)))
  have hb2w : w.heap.size ≤ b2 := by have := e1.out; have := e2.out; omega
  obtain ⟨W4, hW4⟩ : ∃ W, W = w3.setCell ⟨b2, 2, none⟩ (.int .i64 kd) := ⟨_, rfl⟩
  have ce4 := xmp_elements (w := W4) RS KS ⟨#[]⟩ a4 0 c4 a5 m5 c5 (it.map liN) bk5 (hK5.keep fun k hk => by rw [hW4]; exact Below.heap_setCell _ _ _ _ (by have := hbk k hk; show k ≠ b2; omega)) (fun k hk => by obtain ⟨e, _, rfl⟩ := List.mem_map.1 hk; exact (by decide : ([108, 105] : List UInt8) ≠ [])) (by simp; omega)
  have hX4 : Blk W4 b1 38 #[.string ⟨#[]⟩, .string ⟨#[]⟩, .int .i64 0, .slice none 0 0] := by rw [hW4]; exact (Below.heap_setCell _ _ _ _ g1).trans hX3'
  have hY4 : Blk W4 b2 38 #[.string sp, .string nm, .int .i64 kd, .slice none 0 0] := by rw [hW4]; exact hY3.set_ 2 _
  have hB4 : Below w.heap.size w W4 := by rw [hW4]; exact (bthen hB2W.out hB3).setCell hb2w _
  replace hX3' := Lib.hid hX3'
  replace hY3 := Lib.hid hY3
  replace hbk := Lib.hid hbk
  replace hb2w := Lib.hid hb2w
  replace hX4 := Lib.hid hX4
  replace hY4 := Lib.hid hY4
  replace hB4 := Lib.hid hB4
  replace hB3 := Lib.hid hB3
  replace hO3 := Lib.hid hO3
  replace hm5 := Lib.hid hm5
  replace hRS := Lib.hid hRS
  replace hKS := Lib.hid hKS
  replace hg3 := Lib.hid hg3
  replace hg3l := Lib.hid hg3l
  replace ce4 := Lib.hid ce4
  clear hus hX3 hNx hbi hb3 hA4 hK5 hK
  go_upto_region 12 with (first
    | (go_at_call 105; (with_reducible refine (ck _).mono ?_); rintro e w9 ⟨rfl, rfl⟩))
  rw [← hW4]
  have n4a : W4.cell? ⟨g3, 0, none⟩ = some (.string RS) := by rw [hW4, World.cell?_setCell_other _ _ _ _ (by intro e; exact absurd (congrArg Addr.block e) (by first | exact g3b | exact g3c))]; exact q0
  have n4b : W4.cell? ⟨g3, 1, none⟩ = some (.string KS) := by rw [hW4, World.cell?_setCell_other _ _ _ _ (by intro e; exact absurd (congrArg Addr.block e) (by first | exact g3b | exact g3c))]; exact q1
  have n4c : W4.cell? ⟨g3, 2, none⟩ = some (.string ⟨#[]⟩) := by rw [hW4, World.cell?_setCell_other _ _ _ _ (by intro e; exact absurd (congrArg Addr.block e) (by first | exact g3b | exact g3c))]; exact q2
  have n4d : W4.cell? ⟨g3, 3, none⟩ = some (.slice a4 0 c4) := by rw [hW4, World.cell?_setCell_other _ _ _ _ (by intro e; exact absurd (congrArg Addr.block e) (by first | exact g3b | exact g3c))]; exact q3
  have n4e : W4.cell? ⟨g3, 4, none⟩ = some (.slice a5 m5 c5) := by rw [hW4, World.cell?_setCell_other _ _ _ _ (by intro e; exact absurd (congrArg Addr.block e) (by first | exact g3b | exact g3c))]; exact q4
  have ce4 := ce4.out
  replace hW4 := Lib.hid hW4
  clear q0 q1 q2 q3 q4 d0 d1 d2 d3 u2
  go_upto_region 13 with (first
    | (go_at_call 35; (with_reducible refine ce4.mono ?_); rintro e w5 ⟨a6, n6, c6, vs6, bb6, rfl, hn6, hO6, hX6, hb6, hB5⟩; rw [li_els] at hn6 hX6; rw [List.length_map] at hn6; replace hn6 := Lib.hid hn6; replace hO6 := Lib.hid hO6; replace hX6 := Lib.hid hX6; replace hb6 := Lib.hid hb6; replace hB5 := Lib.hid hB5))
  have hX5 := hX4.out.below hB5.out hX4.out.lt
  have hY5 := hY4.out.below hB5.out hY4.out.lt
  have hBw5 := bthen hB4.out hB5.out
  have hb25 := hY5.lt
  replace hX5 := Lib.hid hX5
  replace hY5 := Lib.hid hY5
  replace hBw5 := Lib.hid hBw5
  replace hb25 := Lib.hid hb25
  obtain ⟨i0, hi0, hz0, hz1, hz2⟩ := ent_info
  go_wp2
  go_loopw [8, 69] (fun s8 s69 wr => ∃ (i : Nat) (v : Value), i ≤ n6 ∧ s69 = .int .i64 i ∧ s8 = .bool true ∧ Blk wr b2 38 #[.string sp, .string nm, .int .i64 kd, v] ∧ wr.ownsRow w5.heap.size 55 2 v i (flatE (it.take i)) ∧ Save b2 w5 wr) (fun _ s69 _ => n6 - (RowKit.intOf s69).toNat)
  case atStart => exact ⟨0, _, Nat.zero_le _, rfl, rfl, hY5.out, World.ownsRow_nil _ _ _ _, Save.refl _ _⟩
  case round =>
    obtain ⟨i, v, hi, rfl, rfl, hY, hO, hS⟩ := hrel
    obtain ⟨av, cv, rfl⟩ := sl_of hO
    by_cases hin : i < n6
    · have hn6' := hn6.out
      have hil : i < it.length := by omega
      have hO6' := hO6.out
      have hgx : ∃ g, a6 = some ⟨g, 0, none⟩ ∧ W4.heap.size ≤ g ∧ g < w5.heap.size := by
        obtain ⟨m, hm⟩ : ∃ m, n6 = m + 1 := ⟨n6 - 1, by omega⟩
        rw [hm] at hO6'
        exact one_row hO6'
      obtain ⟨g6, rfl, hg6, hg6l⟩ := hgx
      have hY4l := hY4.out.lt
      have hOr := own_sameX hO6' (hS.block g6 hg6l (by omega))
      obtain ⟨us, bi, hNx, hbi, hus⟩ := hX6.out.at (i := i) (by rw [List.length_map]; exact hil)
      rw [List.getElem_map] at hNx
      obtain ⟨a7, c7, a8, c8, ba7, bk8, rfl, rfl, hA7, hK8⟩ := nx_el hNx
      obtain ⟨LI, hLI⟩ : ∃ S : ByteArray, str [108, 105] = .string S := ⟨_, rfl⟩
      rw [hRS.out, hLI] at hus
      obtain ⟨m7, hm7⟩ : ∃ m, m = (langN it[i].1.data.toList).length := ⟨_, rfl⟩
      obtain ⟨m8, hm8⟩ : ∃ m, m = (txN it[i].2.data.toList).length := ⟨_, rfl⟩
      rw [← hm7] at hus hA7
      rw [← hm8] at hus hK8
      obtain ⟨p0, p1, p2, p3, p4⟩ := kids_cells (S := RS) (N := LI) (T := ⟨#[]⟩) hOr hin hus
      obtain ⟨W7, hW7⟩ : ∃ W, W = wr.alloc (.cells #[.string RS, .string LI, .string ⟨#[]⟩, .slice a7 m7 c7, .slice a8 m8 c8] 70) := ⟨_, rfl⟩
      have k7 : Below wr.heap.size wr W7 := by rw [hW7]; exact (Below.refl _ _).alloc (Nat.le_refl _) _
      have hR7 : Blk W7 wr.heap.size 70 #[.string RS, .string LI, .string ⟨#[]⟩, .slice a7 m7 c7, .slice a8 m8 c8] := by rw [hW7]; exact Blk.new wr 70 _
      have hkeep : ∀ k ∈ ba7 ++ bk8, W7.heap[k]? = w5.heap[k]? := fun k hk => by
        have h1 := hbk.out k (hb6.out k (hbi k hk))
        have h2 := hBw5.out.size
        have h3 := hS.size
        have h4 := hb2w.out
        exact (k7.block k (by omega)).trans (hS.block k (by omega) (by omega))
      have ci := xmp_item (w := W7) RS LI ⟨#[]⟩ a7 m7 c7 a8 m8 c8 it[i].1.data.toList it[i].2.data.toList ba7 bk8 (hA7.keep fun k hk => hkeep k (List.mem_append_left _ hk)) (hK8.keep fun k hk => hkeep k (List.mem_append_right _ hk)) (hTl _ (List.getElem_mem hil))
      rw [str_data, str_data] at ci
      have hft := flatE_take it hil
      generalize it[i].1 = LS at ci hft hm7
      generalize it[i].2 = TS at ci hft hm8
      have t3 : (LI.toList == [108, 105]) = true := by rw [toList_str _ _ hLI]; rfl
      have hSz := hS.size
      have kx : ∀ w8, Below W7.heap.size W7 w8 → (w8.cell? ⟨wr.heap.size, 0, none⟩ = some (.string RS) ∧ w8.cell? ⟨wr.heap.size, 1, none⟩ = some (.string LI)) ∧ Blk w8 b2 38 #[.string sp, .string nm, .int .i64 kd, .slice av i cv] ∧ w8.ownsRow w5.heap.size 55 2 (.slice av i cv) i (flatE (it.take i)) ∧ Save b2 w5 w8 ∧ wr.heap.size < w8.heap.size := fun w8 h => by
        have hR8 := hR7.below h hR7.lt
        have k8 := bthen k7 h
        exact ⟨⟨hR8.cell 0, hR8.cell 1⟩, hY.below k8 hY.lt, row_kept hO k8, hS.trans (Save.of_below k8), by have := hR8.lt; exact this⟩
      have q0 : W7.cell? ⟨wr.heap.size, 0, none⟩ = some (.string RS) := hR7.cell 0
      have q1 : W7.cell? ⟨wr.heap.size, 1, none⟩ = some (.string LI) := hR7.cell 1
      have q2 : W7.cell? ⟨wr.heap.size, 2, none⟩ = some (.string ⟨#[]⟩) := hR7.cell 2
      have q3 : W7.cell? ⟨wr.heap.size, 3, none⟩ = some (.slice a7 m7 c7) := hR7.cell 3
      have q4 : W7.cell? ⟨wr.heap.size, 4, none⟩ = some (.slice a8 m8 c8) := hR7.cell 4
      replace kx := Lib.hid kx
      replace hft := Lib.hid hft
      replace hm7 := Lib.hid hm7
      replace hm8 := Lib.hid hm8
      replace hLI := Lib.hid hLI
      replace k7 := Lib.hid k7
      replace hkeep := Lib.hid hkeep
      replace hSz := Lib.hid hSz
      replace hg6 := Lib.hid hg6
      replace hg6l := Lib.hid hg6l
      replace hY4l := Lib.hid hY4l
      replace hn6' := Lib.hid hn6'
      replace hil := Lib.hid hil
      clear hOr hNx hus hbi hA7 hK8 hR7 hO6' hY hO hS
      go_upto_region 16 with (fail)
      rw [← hW7]
      replace hW7 := Lib.hid hW7
      go_wp2_with (first
        | (go_at_call 104; (with_reducible refine ci.mono ?_); rintro e w8 ⟨rfl, hb8⟩; obtain ⟨⟨x0, x1⟩, hY8, hO8, hS8, hz8⟩ := kx.out w8 hb8; obtain ⟨d0, d1, d2, d3⟩ := blk4 hY8; have v3 := hY8.frozen 3; have hYl8 := hY8.lt; replace hY8 := Lib.hid hY8; replace hS8 := Lib.hid hS8; replace hb8 := Lib.hid hb8)
        | (at_builtin; refine wpList_append_own_at _ rfl (.tmp 93) (.tmp 95) 36 rfl w5.heap.size 55 i0 _ 2 32 Tryz.underlying36 hi0 hz0 hz1 hz2 rfl (by decide) _ _ _ rfl ((hO8.alloc _).alloc _) ⟨w8.heap.size + 1, 0, none⟩ 1 1 [.string LS, .string TS] rfl rfl (two_new1 _ _ _ _ _) (ent_one _ _) (by have := hn6'.out; unfold maxLen; omega) (by have := hn6'.out; omega) (by have := hS8.out.size; simp; omega) ?_; intro v5 w9 hown5 hg5 _ hat5; obtain ⟨av9, cv9, rfl⟩ := sl_of hown5; obtain ⟨hY9, hS9⟩ := grow_keep hO8 hY8.out hb25.out hS8.out hg5; obtain ⟨l0, l1, l2, l3⟩ := blk4 hY9; have f3 := hY9.frozen 3; replace hY9 := Lib.hid hY9; replace hS9 := Lib.hid hS9; replace hown5 := Lib.hid hown5; clear hg5 hat5 hO8 d0 d1 d2 d3 v3))
      go_roundw
      case rel =>
        refine ⟨i + 1, _, by omega, by go_num, rfl, hY9.out.set_ 3 _, ?_, hS9.out.store 3 _⟩
        have h1 := hown5.out
        rw [hft.out]
        refine h1.kept (set_gr w9 b2 3 _) ?_
        cases e : (Value.slice av9 (i + 1) cv9).ownBlock with
        | none => exact .inl rfl
        | some k => exact .inr fun e2 => by injection e2 with e2; have := (row_lt h1 e).1; have := hb25.out; omega
      case measure => simp [RowKit.intOf]; omega
    · obtain rfl : i = n6 := by omega
      have hl6 := hn6.out
      subst hl6
      rw [List.take_of_length_le (Nat.le_refl _)] at hO
      obtain ⟨d0, d1, d2, d3⟩ := blk4 hY
      have hX := (hS.block b1 hX5.out.lt g1).trans hX5.out
      obtain ⟨x0, x1, x2, x3⟩ := blk4 (show Blk wr b1 38 #[.string ⟨#[]⟩, .string ⟨#[]⟩, .int .i64 0, .slice none 0 0] from hX)
      have hX : Blk wr b1 38 #[.string ⟨#[]⟩, .string ⟨#[]⟩, .int .i64 0, .slice none 0 0] := hX
      have y0 := hX.frozen 0
      have y1 := hX.frozen 1
      have y2 := hX.frozen 2
      have y3 := hX.frozen 3
      replace hX := Lib.hid hX
      replace hY := Lib.hid hY
      replace hO := Lib.hid hO
      replace hS := Lib.hid hS
      go_wp2
      have e1 := e1.out
      have e2 := e2.out
      have hwr : Below w.heap.size w wr := hBw5.out.trans (hS.out.below (by omega) hBw5.out.size)
      obtain ⟨hV, hBV⟩ := four_end (v0 := .string sp) (v1 := .string nm) (v2 := .int .i64 kd) (v3 := .slice av it.length cv) hX.out (lo := w.heap.size) (by omega) hwr
      obtain ⟨V, hVe⟩ : ∃ V, V = ((((wr.setCell ⟨b1, 0, none⟩ (.string sp)).setCell ⟨b1, 1, none⟩ (.string nm)).setCell ⟨b1, 2, none⟩ (.int .i64 kd)).setCell ⟨b1, 3, none⟩ (.slice av it.length cv)) := ⟨_, rfl⟩
      have hk : wr.grownBy V (some b1) := by
        rw [hVe]
        exact ⟨rfl, rfl, rfl, by simp, fun k _ hk => by
          have h : k ≠ b1 := fun e => hk (by rw [e])
          exact (Below.heap_setCell _ _ _ _ h).trans ((Below.heap_setCell _ _ _ _ h).trans ((Below.heap_setCell _ _ _ _ h).trans (Below.heap_setCell _ _ _ _ h)))⟩
      rw [← hVe] at hV hBV ⊢
      have hO9 : V.ownsRow w5.heap.size 55 2 (.slice av it.length cv) it.length (flatE it) := hO.out.kept hk (by
        cases e : (Value.slice av it.length cv).ownBlock with
        | none => exact .inl rfl
        | some k => exact .inr fun e2 => by injection e2 with e2; have := (row_lt hO.out e).1; have := hX5.out.lt; omega)
      obtain ⟨A, c, hAc, hE, hle, hA⟩ := ents_of hO9
      injection hAc with h1 _ h3
      subst h1 h3
      obtain ⟨q0, q1, q2, q3⟩ := blk4 hV
      have h5 := hBw5.out.size
      exact bodyPost_ret (v := .tuple #[.agg #[.string sp, .string nm, .int .i64 kd, .slice av it.length cv], .bool true]) (by simp [results, Tryz.results73, go_sem, q0, q1, q2, q3]) rfl ⟨av, cv, rfl, hE, fun a ha => ⟨by have := (hA a ha).1; omega, (hA a ha).2⟩, hle, hBV⟩
end Go.Proofs.YtkpikpaepgknnaaGreatDoor

/- A property out of its element. No condition. -/
namespace Go.Proofs.YtkpikpaepgknnaaGreatDoor
open Go Go.RowKit Go.Wk Go.Xt Go.Xe Go.Xw
theorem xmp_prop {w : World} (p : Pr) (h : mayB p = true) (hit : p.it.length ≤ 20) (hTl : ∀ e ∈ p.it, e.2.data.toList.length ≤ 100000) (us : List Value) (b : List Nat) (hN : NxAt w (propN p) us b) :
    Calls Tryz.prog 73 #[.agg us.toArray] w (PropQ w p) := by
  obtain ⟨_, hn, hk, he⟩ := may_parts h
  obtain ⟨sp, nm, kd, it⟩ := p
  unfold propN at hN
  unfold kindB at hk
  simp only [Bool.and_eq_true, decide_eq_true_eq] at hk
  by_cases h0 : kd = 0
  · subst h0
    have h1 : it.length = 1 := by simpa using hk.2.2
    obtain ⟨⟨L, T⟩, hi⟩ := List.length_eq_one_iff.1 h1
    subst hi
    simp only [if_true] at hN
    obtain ⟨a1, c1, a2, c2, ba, bk, rfl, rfl, hA, hK⟩ := nx_el hN
    rw [str_data, str_data]
    exact prop_text sp nm L T ⟨#[]⟩ a1 _ c1 a2 _ c2 ba bk hA hK (hTl (L, T) (by simp))
  · rw [if_neg h0] at hN
    obtain ⟨a1, c1, a2, c2, ba, bk, rfl, rfl, hA, hK⟩ := nx_el hN
    rw [str_data, str_data]
    have hA2 : a1 = none ∧ c1 = 0 := by
      rcases hA with ⟨_, h2, _⟩ | ⟨a, g, cap, h1, _⟩
      · injection h2 with e1 e2 e3
        exact ⟨e1, e3⟩
      · cases h1
    obtain ⟨rfl, rfl⟩ := hA2
    have hkd : kd = 1 ∨ kd = 2 ∨ kd = 3 := by omega
    exact prop_row sp nm kd it hkd hit hTl ⟨#[]⟩ a2 _ c2 bk hK
end Go.Proofs.YtkpikpaepgknnaaGreatDoor

/- A description adds its property. No condition. -/
namespace Go.Proofs.YtkpikpaepgknnaaGreatDoor
open Go Go.RowKit Go.Wk Go.Xt Go.Xe Go.Xw
/-- a property's entries in memory, off the list and its row -/
def ItemAt (w : World) (L : Nat) (vv : Value) (x : PA) : Prop := EnsAt w x.2.1 x.1.it ∧ x.1.it.length ≤ x.2.2 ∧ ∀ a, x.2.1 = some a → a.block < w.heap.size ∧ a.block ≠ L ∧ vv.ownBlock ≠ some a.block
structure LMem (w : World) (L B : Nat) (l : List PA) : Prop where
  list : ListAt w L B l
  items : ∀ vv, Blk w L 59 #[vv] → ∀ x ∈ l, ItemAt w L vv x
theorem ens_kept {w w' : World} {A : Option Addr} {it : List (ByteArray × ByteArray)} (h : EnsAt w A it) (hk : ∀ a, A = some a → w'.heap[a.block]? = w.heap[a.block]?) : EnsAt w' A it := fun h0 => by
  obtain ⟨g, o, rfl, hc⟩ := h h0
  have hb := hk _ rfl
  have hb : w'.heap[g]? = w.heap[g]? := hb
  exact ⟨g, o, rfl, fun i hi => ⟨by rw [← (hc i hi).1]; exact World.cell?_of_block hb, by rw [← (hc i hi).2]; exact World.cell?_of_block hb⟩⟩
theorem LMem.below {w w' : World} {L B : Nat} {l : List PA} (h : LMem w L B l) (hb : Below w.heap.size w w') : LMem w' L B l := by
  refine ⟨h.list.below hb, fun vv hv x hx => ?_⟩
  obtain ⟨⟨v, h1, _⟩, _⟩ := h.list
  have hv1 := blk_one hv (h1.below hb h1.lt)
  subst hv1
  obtain ⟨h2, h3, h4⟩ := h.items _ h1 x hx
  exact ⟨h2.below hb, h3, fun a ha => ⟨Nat.lt_of_lt_of_le (h4 a ha).1 hb.size, (h4 a ha).2⟩⟩
/-- behind an addition at the end -/
theorem LMem.add {w w' : World} {L B : Nat} {l : List PA} {y : PA} (h : LMem w L B l) (hl : ListAt w' L B (l ++ [y])) (hk : Kept2 w w' L) (hz : w.heap.size ≤ w'.heap.size) (hy : EnsAt w y.2.1 y.1.it) (hyc : y.1.it.length ≤ y.2.2) (hya : ∀ a, y.2.1 = some a → a.block < w.heap.size ∧ B ≤ a.block ∧ ∀ vv, Blk w L 59 #[vv] → vv.ownBlock ≠ some a.block) : LMem w' L B (l ++ [y]) := by
  obtain ⟨⟨v, h1, _⟩, hlb, _⟩ := h.list
  obtain ⟨k1, k2⟩ := hk v h1
  refine ⟨hl, fun vv hv x hx => ?_⟩
  have ho := k2 vv hv
  have one : ∀ x : PA, ItemAt w L v x → ItemAt w' L vv x := fun x ⟨h2, h3, h4⟩ =>
    ⟨ens_kept h2 fun a ha => k1 _ (h4 a ha).1 (h4 a ha).2.1 (h4 a ha).2.2, h3, fun a ha => ⟨Nat.lt_of_lt_of_le (h4 a ha).1 hz, (h4 a ha).2.1, fun e => by
      rcases ho _ e with e2 | e2
      · exact (h4 a ha).2.2 e2
      · have := (h4 a ha).1; omega⟩⟩
  rcases List.mem_append.1 hx with hx | hx
  · exact one x (h.items v h1 x hx)
  · rw [List.mem_singleton.1 hx]
    exact one y ⟨hy, hyc, fun a ha => ⟨(hya a ha).1, by have := (hya a ha).2.1; omega, (hya a ha).2.2 v h1⟩⟩
theorem pos_end {p : Pr} {l : List Pr} (h : ∀ q ∈ l, ltP q p = true) : posP p l = l.length ∧ hasP p l = false := by
  constructor
  · exact pos_of (Nat.le_refl _) (fun j hj => h _ (List.getElem_mem _)) (fun hi => by omega)
  · unfold hasP
    rw [List.any_eq_false]
    intro q hq
    rw [(ltP_not (h q hq)).2.1]
    simp
theorem add_end {p : Pr} {l : List Pr} (h : ∀ q ∈ l, ltP q p = true) (hr : (p.sp.toList == rdfL) = false) : (addP l p).isSome = true := by
  have : addP l p = if hasP p l || p.sp.toList == rdfL then none else some (insP p l) := rfl
  rw [this, (pos_end h).2, hr]
  rfl
theorem prop_el {p : Pr} (h : mayB p = true) : isElX (propN p) = true ∧ OkX (propN p) := by
  obtain ⟨_, hn, hk, he⟩ := may_parts h
  have hne := name_ne hn
  unfold propN
  by_cases h0 : p.kd = 0
  · rw [if_pos h0]
    unfold kindB at hk
    rw [h0] at hk
    have h1 : p.it.length = 1 := by simpa using hk
    obtain ⟨e, hi⟩ := List.length_eq_one_iff.1 h1
    rw [hi]
    exact ⟨rfl, hne⟩
  · rw [if_neg h0]
    exact ⟨rfl, hne⟩
end Go.Proofs.YtkpikpaepgknnaaGreatDoor

/- A description adds its property: the walk. No condition. -/
namespace Go.Proofs.YtkpikpaepgknnaaGreatDoor
open Go Go.RowKit Go.Wk Go.Xt Go.Xe Go.Xw
def DescQ (w : World) (L B : Nat) (l : List PA) (p : Pr) (e : Ending) (w' : World) : Prop := e = .returned (.bool true) ∧ Below L w w' ∧ ∃ y : PA, y.1 = p ∧ LMem w' L B (l ++ [y])
set_option maxHeartbeats 8000000 in
set_option maxRecDepth 100000 in
theorem xmp_describe {w : World} (L B : Nat) (l : List PA) (hM : LMem w L B l) (hn : l.length < 20) (p : Pr) (h : mayB p = true) (hit : p.it.length ≤ 20) (hTl : ∀ e ∈ p.it, e.2.data.toList.length ≤ 100000) (hlt : ∀ q ∈ pl l, ltP q p = true) (hr : (p.sp.toList == rdfL) = false) (us : List Value) (b : List Nat) (hN : NxAt w (descN p) us b) :
    Calls Tryz.prog 36 #[.pointer (some ⟨L, 0, none⟩), .agg us.toArray] w (DescQ w L B l p) := by
  obtain ⟨a1, c1, a2, c2, ba, bk, rfl, rfl, hA, hK⟩ := nx_el hN
  obtain ⟨RS, hRS⟩ : ∃ S : ByteArray, str rdfL = .string S := ⟨_, rfl⟩
  obtain ⟨DN, hDN⟩ : ∃ S : ByteArray, str descNm = .string S := ⟨_, rfl⟩
  rw [hRS, hDN, show str [] = Value.string ⟨#[]⟩ from rfl]
  have t1 : (RS.toList == [104, 116, 116, 112, 58, 47, 47, 119, 119, 119, 46, 119, 51, 46, 111, 114, 103, 47, 49, 57, 57, 57, 47, 48, 50, 47, 50, 50, 45, 114, 100, 102, 45, 115, 121, 110, 116, 97, 120, 45, 110, 115, 35]) = true := by rw [toList_str _ _ hRS]; rfl
  have t2 : (DN.toList == [68, 101, 115, 99, 114, 105, 112, 116, 105, 111, 110]) = true := by rw [toList_str _ _ hDN]; rfl
  have t3 : (RS.toList == []) = false := by rw [toList_str _ _ hRS]; rfl
  have t4 : RS.toList.isEmpty = false := by rw [toList_str _ _ hRS]; rfl
  obtain ⟨AB, hAB⟩ : ∃ S : ByteArray, str aboutL = .string S := ⟨_, rfl⟩
  have hAx : ∃ ga, a1 = some ⟨ga, 0, none⟩ ∧ w.cell? ⟨ga, 0, none⟩ = some (.string RS) ∧ w.cell? ⟨ga, 1, none⟩ = some (.string AB) ∧ w.cell? ⟨ga, 2, none⟩ = some (.string ⟨#[]⟩) := by
    rcases hA with ⟨h1, _⟩ | ⟨a, g, cap, h1, h2, x0, x1, x2, _⟩
    · cases h1
    · have ha : a = (rdfL, aboutL, []) := by simpa using h1.symm
      subst ha
      injection h2 with e1 _ _
      rw [← hRS, ← hAB]
      exact ⟨g, e1, x0, x1, x2⟩
  obtain ⟨ga, rfl, x0, x1, x2⟩ := hAx
  have hga := cell_lt x0
  obtain ⟨W1, hW1⟩ : ∃ W, W = w.alloc (.cells #[.string RS, .string DN, .string ⟨#[]⟩, .slice (some ⟨ga, 0, none⟩) 1 c1, .slice a2 1 c2] 70) := ⟨_, rfl⟩
  have k1 : Below w.heap.size w W1 := by rw [hW1]; exact (Below.refl _ _).alloc (Nat.le_refl _) _
  have hR1 : Blk W1 w.heap.size 70 #[.string RS, .string DN, .string ⟨#[]⟩, .slice (some ⟨ga, 0, none⟩) 1 c1, .slice a2 1 c2] := by rw [hW1]; exact Blk.new w 70 _
  obtain ⟨W2, hW2⟩ : ∃ W, W = W1.alloc (.cells #[.string RS, .string AB, .string ⟨#[]⟩] 112) := ⟨_, rfl⟩
  have k2 : Below W1.heap.size W1 W2 := by rw [hW2]; exact (Below.refl _ _).alloc (Nat.le_refl _) _
  have kw2 := bthen k1 k2
  have hR2 := hR1.below k2 hR1.lt
  have hltK := hK.lt
  obtain ⟨hpe, hpo⟩ := prop_el h
  have hels : elsX [propN p] = [propN p] := by unfold elsX; rw [List.filter_cons, if_pos hpe]; rfl
  have ce : Calls Tryz.prog 35 #[.agg #[.string RS, .string DN, .string ⟨#[]⟩, .slice (some ⟨ga, 0, none⟩) 1 c1, .slice a2 1 c2]] W2 (ElsQ W2 [propN p] bk) := xmp_elements RS DN ⟨#[]⟩ _ 1 c1 a2 1 c2 [propN p] bk (hK.keep fun k hk => kw2.block k (hltK k hk)) (fun k hk => by rw [List.mem_singleton.1 hk]; exact hpo) (by simp)
  have q0 : W1.cell? ⟨w.heap.size, 0, none⟩ = some (.string RS) := hR1.cell 0
  have q1 : W1.cell? ⟨w.heap.size, 1, none⟩ = some (.string DN) := hR1.cell 1
  have q2 : W1.cell? ⟨w.heap.size, 2, none⟩ = some (.string ⟨#[]⟩) := hR1.cell 2
  have q3 : W1.cell? ⟨w.heap.size, 3, none⟩ = some (.slice (some ⟨ga, 0, none⟩) 1 c1) := hR1.cell 3
  have q4 : W1.cell? ⟨w.heap.size, 4, none⟩ = some (.slice a2 1 c2) := hR1.cell 4
  have p0 := (k1.cell (cell_lt x0)).trans x0
  have p1 := (k1.cell (cell_lt x1)).trans x1
  have p2 := (k1.cell (cell_lt x2)).trans x2
  replace hM := Lib.hid hM
  replace hlt := Lib.hid hlt
  replace hltK := Lib.hid hltK
  replace k1 := Lib.hid k1
  replace k2 := Lib.hid k2
  replace kw2 := Lib.hid kw2
  replace hR1 := Lib.hid hR1
  replace hR2 := Lib.hid hR2
  replace hRS := Lib.hid hRS
  replace hDN := Lib.hid hDN
  replace hAB := Lib.hid hAB
  replace hels := Lib.hid hels
  replace hpe := Lib.hid hpe
  replace hpo := Lib.hid hpo
  replace hr := Lib.hid hr
  replace hTl := Lib.hid hTl
  replace hga := Lib.hid hga
  clear hA hK hN x0 x1 x2
  go_enter Tryz.func36, Tryz.ntmps36
  go_upto_region 1 with (fail)
  rw [← hW1]
  replace hW1 := Lib.hid hW1
  go_wp2
  refine wp_loop_rounds 2 ?_; rw [rounds_succ]
  go_upto_region 5 with (fail)
  rw [← hW2]
  have hRA : Blk W2 W1.heap.size 112 #[.string RS, .string AB, .string ⟨#[]⟩] := by rw [hW2]; exact Blk.new W1 112 _
  have s0 : W2.cell? ⟨W1.heap.size, 0, none⟩ = some (.string RS) := hRA.cell 0
  have s1 : W2.cell? ⟨W1.heap.size, 1, none⟩ = some (.string AB) := hRA.cell 1
  have s2 : W2.cell? ⟨W1.heap.size, 2, none⟩ = some (.string ⟨#[]⟩) := hRA.cell 2
  have m0 : W2.cell? ⟨w.heap.size, 0, none⟩ = some (.string RS) := hR2.out.cell 0
  have m1 : W2.cell? ⟨w.heap.size, 1, none⟩ = some (.string DN) := hR2.out.cell 1
  have m2 : W2.cell? ⟨w.heap.size, 2, none⟩ = some (.string ⟨#[]⟩) := hR2.out.cell 2
  have m3 : W2.cell? ⟨w.heap.size, 3, none⟩ = some (.slice (some ⟨ga, 0, none⟩) 1 c1) := hR2.out.cell 3
  have m4 : W2.cell? ⟨w.heap.size, 4, none⟩ = some (.slice a2 1 c2) := hR2.out.cell 4
  replace hW2 := Lib.hid hW2
  clear hRA q0 q1 q2 q3 q4 p0 p1 p2
  go_wp2
  rw [rounds_succ]
  go_upto_region 10 with (first
    | (go_at_call 35; (with_reducible refine ce.mono ?_); rintro e w3 ⟨a3, n3, c3, vs3, b3, rfl, hn3, hO3, hX3, hb3, hB3⟩; rw [hels.out] at hn3 hX3; replace hn3 : n3 = 1 := hn3; subst hn3))
  obtain ⟨g3, rfl, hg3, hg3l⟩ := one_row (n := 0) hO3
  obtain ⟨us, bi, hNx, hbi, hus⟩ := hX3.at (i := 0) Nat.zero_lt_one
  have hNx : NxAt w3 (propN p) us bi := hNx
  obtain ⟨S4, N4, T4, x4, y4, z4, x5, y5, z5, rfl⟩ := hNx.shape
  obtain ⟨q0, q1, q2, q3, q4⟩ := kids_cells (S := S4) (N := N4) (T := T4) hO3 (i := 0) (by simp) hus
  simp only [Nat.zero_mul, Nat.zero_add] at q0 q1 q2 q3 q4
  obtain ⟨W4, hW4⟩ : ∃ W, W = w3.alloc (.cells #[.string S4, .string N4, .string T4, .slice x4 y4 z4, .slice x5 y5 z5] 70) := ⟨_, rfl⟩
  have k4 : Below w3.heap.size w3 W4 := by rw [hW4]; exact (Below.refl _ _).alloc (Nat.le_refl _) _
  have hR4 : Blk W4 w3.heap.size 70 #[.string S4, .string N4, .string T4, .slice x4 y4 z4, .slice x5 y5 z5] := by rw [hW4]; exact Blk.new w3 70 _
  have hltX := hNx.lt
  have cp : Calls Tryz.prog 73 #[.agg #[.string S4, .string N4, .string T4, .slice x4 y4 z4, .slice x5 y5 z5]] W4 (PropQ W4 p) := xmp_prop p h hit hTl.out _ bi (hNx.keep fun k hk => k4.block k (hltX k hk))
  have kw4 := bthen kw2.out (bthen hB3 k4)
  have hR14 := (hR2.out.below hB3 hR2.out.lt).below k4 (Nat.lt_of_lt_of_le hR2.out.lt hB3.size)
  have u0 : W4.cell? ⟨w3.heap.size, 0, none⟩ = some (.string S4) := hR4.cell 0
  have u1 : W4.cell? ⟨w3.heap.size, 1, none⟩ = some (.string N4) := hR4.cell 1
  have u2 : W4.cell? ⟨w3.heap.size, 2, none⟩ = some (.string T4) := hR4.cell 2
  have u3 : W4.cell? ⟨w3.heap.size, 3, none⟩ = some (.slice x4 y4 z4) := hR4.cell 3
  have u4 : W4.cell? ⟨w3.heap.size, 4, none⟩ = some (.slice x5 y5 z5) := hR4.cell 4
  replace hg3 := Lib.hid hg3
  replace hg3l := Lib.hid hg3l
  replace k4 := Lib.hid k4
  replace kw4 := Lib.hid kw4
  replace hR14 := Lib.hid hR14
  replace hb3 := Lib.hid hb3
  replace hB3 := Lib.hid hB3
  clear hX3 hNx hbi hus hO3 hR4 hltX m0 m1 m2 m3 m4 s0 s1 s2
  go_wp2
  refine wp_loop_rounds 2 ?_; rw [rounds_succ]
  go_upto_region 13 with (fail)
  rw [← hW4]
  replace hW4 := Lib.hid hW4
  go_upto_region 14 with (first
    | (go_at_call 73; (with_reducible refine cp.mono ?_); rintro e w5 ⟨A, cA, rfl, hE, hAb, hAc, hB5⟩; unfold prV))
  obtain ⟨W6, hW6⟩ : ∃ W, W = w5.alloc (.cells #[.string p.sp, .string p.nm, .int .i64 p.kd, .slice A p.it.length cA] 38) := ⟨_, rfl⟩
  have k6 : Below w5.heap.size w5 W6 := by rw [hW6]; exact (Below.refl _ _).alloc (Nat.le_refl _) _
  have hRp : Blk W6 w5.heap.size 38 #[.string p.sp, .string p.nm, .int .i64 p.kd, .slice A p.it.length cA] := by rw [hW6]; exact Blk.new w5 38 _
  obtain ⟨f0, f1, f2, f3⟩ := blk4 hRp
  have kw5 := bthen kw4.out hB5
  have kw6 := bthen kw5 k6
  have hM6 := hM.out.below kw6
  have hadd := add_end hlt.out hr.out
  have hpe2 := (pos_end hlt.out).1
  rw [pl_len] at hpe2
  have c26 : Calls Tryz.prog 26 #[.pointer (some ⟨L, 0, none⟩), .agg #[.string p.sp, .string p.nm, .int .i64 p.kd, .slice A p.it.length cA]] W6 fun e w' => e = .returned (.bool true) ∧ Below L W6 w' ∧ ListAt w' L B (l ++ [(p, A, cA)]) ∧ Kept2 W6 w' L := by
    refine (xmp_add (w := W6) L B l hM6.list hn (p, A, cA)).mono ?_
    rintro e w' ⟨rfl, h1, h2, h3⟩
    have h4 := h2 hadd
    refine ⟨congrArg (fun b => Ending.returned (.bool b)) hadd, h1, ?_, h3⟩
    have e1 : posP (p, (A, cA)).1 (pl l) = l.length := hpe2
    rw [e1, List.take_length, List.drop_length] at h4
    exact h4
  obtain ⟨⟨vv, hL0, hO0⟩, hlb, hBs, hso⟩ := hM.out.list
  have hbox : ∀ w7, Kept2 W6 w7 L → Blk w7 w.heap.size 70 #[.string RS, .string DN, .string ⟨#[]⟩, .slice (some ⟨ga, 0, none⟩) 1 c1, .slice a2 1 c2] := fun w7 hk => by
    have hR6 := (hR14.out.below hB5 hR14.out.lt).below k6 (Nat.lt_of_lt_of_le hR14.out.lt hB5.size)
    exact ((hk vv (hL0.below kw6 hL0.lt)).1 w.heap.size hR6.lt (by omega) (fun e => by have := (row_lt hO0 e).2; omega)).trans hR6
  have hfin : ∀ w7, Below L W6 w7 → ListAt w7 L B (l ++ [(p, A, cA)]) → Kept2 W6 w7 L → DescQ w L B l p (.returned (.bool true)) w7 := fun w7 h1 h2 h3 => by
    refine ⟨rfl, (kw6.mono (by omega)).trans h1, (p, A, cA), rfl, hM6.add h2 h3 (h1.size) (hE.below k6) hAc fun a ha => ?_⟩
    have h4 := hAb a ha
    have h5 := k6.size
    have h6 := kw4.out.size
    refine ⟨by omega, by omega, fun v hv => ?_⟩
    rw [blk_one hv (hL0.below kw6 hL0.lt)]
    exact fun e => by have := (row_lt hO0 e).2; omega
  rw [← hW6]
  replace hW6 := Lib.hid hW6
  replace hbox := Lib.hid hbox
  replace hfin := Lib.hid hfin
  replace k6 := Lib.hid k6
  replace kw5 := Lib.hid kw5
  replace kw6 := Lib.hid kw6
  replace hM6 := Lib.hid hM6
  replace hadd := Lib.hid hadd
  replace hpe2 := Lib.hid hpe2
  replace hlb := Lib.hid hlb
  replace hBs := Lib.hid hBs
  replace hE := Lib.hid hE
  replace hAb := Lib.hid hAb
  replace hAc := Lib.hid hAc
  replace hB5 := Lib.hid hB5
  clear hRp hL0 hO0 hso
  go_wp2_with (go_at_call 26; (with_reducible refine c26.mono ?_); rintro e w7 ⟨rfl, h71, h72, h73⟩; have hbx := hbox.out w7 h73; have z0 := hbx.cell 0; have z1 := hbx.cell 1; have hF := hfin.out w7 h71 h72 h73; replace hbx := Lib.hid hbx; replace hF := Lib.hid hF; clear h71 h72 h73)
  rw [rounds_succ]
  go_wp2
  go_ret
  exact hF.out
end Go.Proofs.YtkpikpaepgknnaaGreatDoor

/- The root of what a packet says. No condition. -/
namespace Go.Proofs.YtkpikpaepgknnaaGreatDoor
open Go Go.RowKit Go.Wk Go.Xt Go.Xe Go.Xw
def RootQ (w : World) (l : List Pr) (b : List Nat) (e : Ending) (w' : World) : Prop := ∃ (S N T : ByteArray) (a1 : Option Addr) (n1 c1 : Nat) (a2 : Option Addr) (n2 c2 : Nat) (b' : List Nat), e = .returned (.tuple #[.agg #[.string S, .string N, .string T, .slice a1 n1 c1, .slice a2 n2 c2], .bool true]) ∧ NxAt w' (rdfN l) [.string S, .string N, .string T, .slice a1 n1 c1, .slice a2 n2 c2] b' ∧ (∀ k ∈ b', k ∈ b) ∧ Below w.heap.size w w'
set_option maxHeartbeats 8000000 in
set_option maxRecDepth 100000 in
theorem xmp_root {w : World} (l : List Pr) (us : List Value) (b : List Nat) (hN : NxAt w (rootN l) us b) :
    Calls Tryz.prog 34 #[.agg us.toArray] w (RootQ w l b) := by
  obtain ⟨a1, c1, a2, c2, ba, bk, rfl, rfl, hA, hK⟩ := nx_el hN
  obtain ⟨MS, hMS⟩ : ∃ S : ByteArray, str metaNs = .string S := ⟨_, rfl⟩
  obtain ⟨MN, hMN⟩ : ∃ S : ByteArray, str metaNm = .string S := ⟨_, rfl⟩
  rw [hMS, hMN, show str [] = Value.string ⟨#[]⟩ from rfl]
  have t1 : (MS.toList == [97, 100, 111, 98, 101, 58, 110, 115, 58, 109, 101, 116, 97, 47]) = true := by rw [toList_str _ _ hMS]; rfl
  have t2 : (MN.toList == [120, 109, 112, 109, 101, 116, 97]) = true := by rw [toList_str _ _ hMN]; rfl
  obtain ⟨V5, hV5⟩ : ∃ V : Array Value, V = #[.string MS, .string MN, .string ⟨#[]⟩, .slice a1 0 c1, .slice a2 1 c2] := ⟨_, rfl⟩
  obtain ⟨W0, hW0⟩ : ∃ W, W = w.alloc (.cells #[.string MS, .string MN, .string ⟨#[]⟩, .slice a1 0 c1, .slice a2 1 c2] 70) := ⟨_, rfl⟩
  obtain ⟨W1, hW1⟩ : ∃ W, W = W0.alloc (.cells #[.string ⟨#[]⟩, .string ⟨#[]⟩, .string ⟨#[]⟩, .slice none 0 0, .slice none 0 0] 70) := ⟨_, rfl⟩
  have z0 : W0.heap.size = w.heap.size + 1 := by rw [hW0]; exact World.size_alloc _ _
  have k0 : Below w.heap.size w W0 := by rw [hW0]; exact (Below.refl _ _).alloc (Nat.le_refl _) _
  have k1 : Below W0.heap.size W0 W1 := by rw [hW1]; exact (Below.refl _ _).alloc (Nat.le_refl _) _
  have hR0 : Blk W1 w.heap.size 70 #[.string MS, .string MN, .string ⟨#[]⟩, .slice a1 0 c1, .slice a2 1 c2] := by
    have h : Blk W0 w.heap.size 70 #[.string MS, .string MN, .string ⟨#[]⟩, .slice a1 0 c1, .slice a2 1 c2] := by rw [hW0]; exact Blk.new w 70 _
    exact h.below k1 h.lt
  have hR1 : Blk W1 (w.heap.size + 1) 70 #[.string ⟨#[]⟩, .string ⟨#[]⟩, .string ⟨#[]⟩, .slice none 0 0, .slice none 0 0] := by
    have h : Blk W1 W0.heap.size 70 #[.string ⟨#[]⟩, .string ⟨#[]⟩, .string ⟨#[]⟩, .slice none 0 0, .slice none 0 0] := by rw [hW1]; exact Blk.new W0 70 _
    rw [z0] at h; exact h
  have kw1 := bthen k0 k1
  have hltK := hK.lt
  have ce : Calls Tryz.prog 35 #[.agg #[.string MS, .string MN, .string ⟨#[]⟩, .slice a1 0 c1, .slice a2 1 c2]] W1 (ElsQ W1 [rdfN l] bk) := xmp_elements MS MN ⟨#[]⟩ a1 0 c1 a2 1 c2 [rdfN l] bk (hK.keep fun k hk => kw1.block k (hltK k hk)) (fun k hk => by rw [List.mem_singleton.1 hk]; exact (by decide : ([82, 68, 70] : List UInt8) ≠ [])) (by simp)
  obtain ⟨b0, e0⟩ : ∃ b, b = w.heap.size := ⟨_, rfl⟩
  obtain ⟨b1, e1⟩ : ∃ b, b = b0 + 1 := ⟨_, rfl⟩
  rw [← e0] at hR0 hR1
  rw [← e1] at hR1
  have q0 : W1.cell? ⟨b0, 0, none⟩ = some (.string MS) := hR0.cell 0
  have q1 : W1.cell? ⟨b0, 1, none⟩ = some (.string MN) := hR0.cell 1
  have q2 : W1.cell? ⟨b0, 2, none⟩ = some (.string ⟨#[]⟩) := hR0.cell 2
  have q3 : W1.cell? ⟨b0, 3, none⟩ = some (.slice a1 0 c1) := hR0.cell 3
  have q4 : W1.cell? ⟨b0, 4, none⟩ = some (.slice a2 1 c2) := hR0.cell 4
  replace hMS := Lib.hid hMS
  replace hMN := Lib.hid hMN
  replace k0 := Lib.hid k0
  replace k1 := Lib.hid k1
  replace kw1 := Lib.hid kw1
  replace hR0 := Lib.hid hR0
  replace hR1 := Lib.hid hR1
  replace z0 := Lib.hid z0
  replace hltK := Lib.hid hltK
  have g1 : ¬ (b0 = b1) := by omega
  have g2 : ¬ (b1 = b0) := by omega
  clear hA hK hN
  go_enter Tryz.func34, Tryz.ntmps34
  go_upto_region 1 with (fail)
  rw [← hW0, ← hW1, ← e0, ← e1]
  replace hW0 := Lib.hid hW0
  replace hW1 := Lib.hid hW1
  replace e0 := Lib.hid e0
  replace e1 := Lib.hid e1
  replace hV5 := Lib.hid hV5
  go_upto_region 3 with (first
    | (go_at_call 35; (with_reducible refine ce.mono ?_); rintro e w3 ⟨a3, n3, c3, vs3, b3, rfl, hn3, hO3, hX3, hb3, hB3⟩; replace hn3 : n3 = 1 := hn3; subst hn3))
  obtain ⟨g3, rfl, hg3, hg3l⟩ := one_row (n := 0) hO3
  obtain ⟨us, bi, hNx, hbi, hus⟩ := hX3.at (i := 0) Nat.zero_lt_one
  have hNx : NxAt w3 (rdfN l) us bi := hNx
  obtain ⟨x1, y1, x2, y2, ba4, bk4, rfl, rfl, hA4, hK4⟩ := nx_el hNx
  obtain ⟨RS, hRS⟩ : ∃ S : ByteArray, str rdfL = .string S := ⟨_, rfl⟩
  obtain ⟨RN, hRN⟩ : ∃ S : ByteArray, str [82, 68, 70] = .string S := ⟨_, rfl⟩
  obtain ⟨m2, hm2⟩ : ∃ m, m = (kidsN l).length := ⟨_, rfl⟩
  rw [← hm2, hRS, hRN, show str [] = Value.string ⟨#[]⟩ from rfl] at hus hNx
  have t3 : (RS.toList == [104, 116, 116, 112, 58, 47, 47, 119, 119, 119, 46, 119, 51, 46, 111, 114, 103, 47, 49, 57, 57, 57, 47, 48, 50, 47, 50, 50, 45, 114, 100, 102, 45, 115, 121, 110, 116, 97, 120, 45, 110, 115, 35]) = true := by rw [toList_str _ _ hRS]; rfl
  have t4 : (RN.toList == [82, 68, 70]) = true := by rw [toList_str _ _ hRN]; rfl
  obtain ⟨p0, p1, p2, p3, p4⟩ := kids_cells (S := RS) (N := RN) (T := ⟨#[]⟩) hO3 (i := 0) (by simp) hus
  simp only [Nat.zero_mul, Nat.zero_add] at p0 p1 p2 p3 p4
  have hR03 := hR0.out.below hB3 hR0.out.lt
  have hR13 := hR1.out.below hB3 hR1.out.lt
  have hl0 := hR0.out.lt
  have hl1 := hR1.out.lt
  have g3a : ¬ (g3 = b0) := by omega
  have g3b : ¬ (b0 = g3) := by omega
  have g3c : ¬ (g3 = b1) := by omega
  have g3d : ¬ (b1 = g3) := by omega
  have d0 := hR03.cell 0
  have d1 := hR03.cell 1
  have d2 := hR03.cell 2
  have d3 := hR03.cell 3
  have d4 := hR03.cell 4
  have y0 := hR03.frozen 0
  have y1' := hR03.frozen 1
  have y2' := hR03.frozen 2
  have y3 := hR03.frozen 3
  have y4 := hR03.frozen 4
  have f0 := hR13.cell 0
  have f1 := hR13.cell 1
  have f2 := hR13.cell 2
  have f3 := hR13.cell 3
  have f4 := hR13.cell 4
  have v0 := hR13.frozen 0
  have v1 := hR13.frozen 1
  have v2 := hR13.frozen 2
  have v3 := hR13.frozen 3
  have v4 := hR13.frozen 4
  replace hR03 := Lib.hid hR03
  replace hR13 := Lib.hid hR13
  replace hB3 := Lib.hid hB3
  replace hb3 := Lib.hid hb3
  replace hbi := Lib.hid hbi
  replace hNx := Lib.hid hNx
  replace hRS := Lib.hid hRS
  replace hRN := Lib.hid hRN
  replace hm2 := Lib.hid hm2
  replace hl0 := Lib.hid hl0
  replace hl1 := Lib.hid hl1
  replace hg3 := Lib.hid hg3
  replace hg3l := Lib.hid hg3l
  clear hus hO3 hX3 hA4 hK4
  go_upto_region 6 with (fail)
  obtain ⟨W4, hW4⟩ : ∃ W, W = (((((w3.setCell ⟨b0, 0, none⟩ (.string RS)).setCell ⟨b0, 1, none⟩ (.string RN)).setCell ⟨b0, 2, none⟩ (.string ⟨#[]⟩)).setCell ⟨b0, 3, none⟩ (.slice x1 0 y1)).setCell ⟨b0, 4, none⟩ (.slice x2 m2 y2)) := ⟨_, rfl⟩
  have hA4 : Blk W4 b0 70 #[.string RS, .string RN, .string ⟨#[]⟩, .slice x1 0 y1, .slice x2 m2 y2] := by
    rw [hW4]; exact ((((hR03.out.set_ 0 _).set_ 1 _).set_ 2 _).set_ 3 _).set_ 4 _
  have hS4 : Save b0 w3 W4 := by
    rw [hW4]; exact (((((Save.refl _ _).store 0 _).store 1 _).store 2 _).store 3 _).store 4 _
  have hB4 : Blk W4 b1 70 #[.string ⟨#[]⟩, .string ⟨#[]⟩, .string ⟨#[]⟩, .slice none 0 0, .slice none 0 0] := (hS4.block b1 hR13.out.lt g2).trans hR13.out
  rw [← hW4]
  replace hW4 := Lib.hid hW4
  replace hS4 := Lib.hid hS4
  clear d0 d1 d2 d3 d4 y0 y1' y2' y3 y4 f0 f1 f2 f3 f4 v0 v1 v2 v3 v4
  have d0 := hA4.cell 0
  have d1 := hA4.cell 1
  have d2 := hA4.cell 2
  have d3 := hA4.cell 3
  have d4 := hA4.cell 4
  have f0 := hB4.cell 0
  have f1 := hB4.cell 1
  have f2 := hB4.cell 2
  have f3 := hB4.cell 3
  have f4 := hB4.cell 4
  have v0 := hB4.frozen 0
  have v1 := hB4.frozen 1
  have v2 := hB4.frozen 2
  have v3 := hB4.frozen 3
  have v4 := hB4.frozen 4
  replace hA4 := Lib.hid hA4
  replace hB4 := Lib.hid hB4
  go_region_with (fail)
  all_goals
    go_wp2
    have hV : Blk (((((W4.setCell ⟨b1, 0, none⟩ (.string RS)).setCell ⟨b1, 1, none⟩ (.string RN)).setCell ⟨b1, 2, none⟩ (.string ⟨#[]⟩)).setCell ⟨b1, 3, none⟩ (.slice x1 0 y1)).setCell ⟨b1, 4, none⟩ (.slice x2 m2 y2)).drew b1 70 #[.string RS, .string RN, .string ⟨#[]⟩, .slice x1 0 y1, .slice x2 m2 y2] := (((((hB4.out.set_ 0 _).set_ 1 _).set_ 2 _).set_ 3 _).set_ 4 _).drew
    have hS : Save b1 W4 (((((W4.setCell ⟨b1, 0, none⟩ (.string RS)).setCell ⟨b1, 1, none⟩ (.string RN)).setCell ⟨b1, 2, none⟩ (.string ⟨#[]⟩)).setCell ⟨b1, 3, none⟩ (.slice x1 0 y1)).setCell ⟨b1, 4, none⟩ (.slice x2 m2 y2)).drew := (((((Save.refl _ _).store 0 _).store 1 _).store 2 _).store 3 _).store 4 _ |>.drawn 1
    obtain ⟨V, hVe⟩ : ∃ V, V = (((((W4.setCell ⟨b1, 0, none⟩ (.string RS)).setCell ⟨b1, 1, none⟩ (.string RN)).setCell ⟨b1, 2, none⟩ (.string ⟨#[]⟩)).setCell ⟨b1, 3, none⟩ (.slice x1 0 y1)).setCell ⟨b1, 4, none⟩ (.slice x2 m2 y2)).drew := ⟨_, rfl⟩
    rw [← hVe] at hV hS ⊢
    have q0 := hV.cell 0
    have q1 := hV.cell 1
    have q2 := hV.cell 2
    have q3 := hV.cell 3
    have q4 := hV.cell 4
    have e0' := e0.out
    have e1' := e1.out
    have h3 := hB3.out.size
    have h4 := hS4.out.size
    have h1 := kw1.out.size
    refine bodyPost_ret (v := .tuple #[.agg #[.string RS, .string RN, .string ⟨#[]⟩, .slice x1 0 y1, .slice x2 m2 y2], .bool true]) (by simp [results, Tryz.results34, go_sem, Act.put, q0, q1, q2, q3, q4]) rfl ⟨RS, RN, ⟨#[]⟩, x1, 0, y1, x2, m2, y2, ba4 ++ bk4, rfl, hNx.out.keep fun k hk => ?_, fun k hk => List.mem_append_right _ (hb3.out k (hbi.out k hk)), ?_⟩
    · have hk2 := hltK.out k (hb3.out k (hbi.out k hk))
      exact (hS.block k (by omega) (by omega)).trans (hS4.out.block k (by omega) (by omega))
    · exact kw1.out.trans ((hB3.out.mono (by omega)).trans ((hS4.out.below (by omega) (by omega)).trans (hS.below (by omega) (by omega))))
end Go.Proofs.YtkpikpaepgknnaaGreatDoor

/- What stands in a packet. No condition. -/
namespace Go.Proofs.YtkpikpaepgknnaaGreatDoor
open Go Go.RowKit Go.Wk Go.Xt Go.Xe Go.Xw
theorem trim_head {w : World} (b o c : Nat) (bs R : List UInt8) (hcs : ∀ i (h : i < bs.length), w.cell? ⟨b, o + i, none⟩ = some (.int .u8 (bs[i].toNat : Int))) (hbs : bs = 60 :: R) (hc : bs.length ≤ c) (hbig : c ≤ 9223372036854775807) :
    Calls Tryz.prog 68 #[.slice (some ⟨b, o, none⟩) bs.length c, .string ⟨#[9, 10, 13, 32]⟩] w fun e w' => e = .returned (.slice (some ⟨b, o, none⟩) bs.length c) ∧ Below w.heap.size w w' := by
  have h := Any.bytes_TrimLeft_laid Tryz.laysV8 (by kernel_rfl) (some ⟨b, o, none⟩) bs.length c (nums bs) ⟨#[9, 10, 13, 32]⟩ w (by simp [nums]) hc hbig (fun _ => ⟨b, o, rfl, fun i hi => by have := nums_cell hcs i hi; rw [Wk.add_none] at this; exact this⟩) (nums_range _) (by decide) (ascii_of_all (by decide))
  rw [nums_bytes] at h
  have ht : Lib.trimLeftS bs [9, 10, 13, 32] = bs := by
    rw [hbs]; unfold Lib.trimLeftS; rfl
  have hc0 : ¬ c = 0 := by rw [hbs] at hc; simp at hc; omega
  have hn0 : ¬ 0 = bs.length := by rw [hbs]; simp
  have e : Lib.leftV (some ⟨b, o, none⟩) bs.length c (bs.length - (Lib.trimLeftS bs [9, 10, 13, 32]).length) = .slice (some ⟨b, o, none⟩) bs.length c := by
    rw [ht, Nat.sub_self]
    unfold Lib.leftV Lib.fromV
    rw [if_neg hn0, if_neg hc0]
    rfl
  have h2 : Calls Tryz.prog 68 #[.slice (some ⟨b, o, none⟩) bs.length c, .string ⟨#[9, 10, 13, 32]⟩] w fun e w' => e = .returned (Lib.leftV (some ⟨b, o, none⟩) bs.length c (bs.length - (Lib.trimLeftS bs [9, 10, 13, 32]).length)) ∧ Below w.heap.size w w' := h
  rw [e] at h2
  exact h2
set_option maxHeartbeats 4000000 in
set_option maxRecDepth 100000 in
theorem xmp_inner {w : World} (A : Option Addr) (c : Nat) (bs : List UInt8) (l : List Pr) (hb : Byt w A bs) (hbs : bs = packetL l) (hc : bs.length ≤ c) (hcb : c ≤ 9223372036854775807) (hbig : bs.length ≤ 10000000) (mx : Int) (hmx : w.cell? ⟨2, 0, none⟩ = some (.int .i64 mx)) :
    Calls Tryz.prog 33 #[.slice A bs.length c] w fun e w' => ∃ A' c', e = .returned (.slice A' (innerL l).length c') ∧ Byt w' A' (innerL l) ∧ (innerL l).length ≤ c' ∧ Below w.heap.size w w' := by
  rw [packet_parts] at hbs
  have hhl : headPI.length = 50 := rfl
  have htl : tailPI.length = 19 := rfl
  obtain ⟨q, hq⟩ : ∃ q, q = (innerL l).length := ⟨_, rfl⟩
  have hl : bs.length = q + 69 := by rw [hbs, List.length_append, List.length_append, hhl, htl, ← hq]; omega
  have hb0 := hb
  obtain ⟨b, o, rfl, hcs⟩ := hb.2 (by omega)
  have ct := trim_head b o c bs _ hcs (by rw [hbs]; rfl) hc hcb
  have cf := fun W (hW : Below w.heap.size w W) => cur_find (w := W) (some ⟨b, o, none⟩) c bs (innerL l ++ tailPI) (hb0.below hW) (by rw [hbs, List.append_assoc]) hc hbig mx ((hW.cell (cell_lt hmx)).trans hmx)
  have cl := fun W (hW : Below w.heap.size w W) => cur_last (w := W) (some ⟨b, o, none⟩) c bs (headPI ++ innerL l) (hb0.below hW) hbs hc hbig
  have hpl : (headPI ++ innerL l).length = q + 50 := by rw [List.length_append, hhl, ← hq]; omega
  rw [hpl] at cl
  unfold endB at cf
  unfold markB at cl
  have hlq := Lib.hid hl
  have hbq := Lib.hid hbs
  rw [hl] at ct cf cl hc hbig ⊢
  replace cf := Lib.hid cf
  replace cl := Lib.hid cl
  replace hcs := Lib.hid hcs
  replace hb0 := Lib.hid hb0
  clear hbs hl hb hpl
  rw [← hq]
  replace hq := Lib.hid hq
  go_enter Tryz.func33, Tryz.ntmps33
  go_upto_region 2 with (go_at_call 68; (with_reducible refine ct.mono ?_); rintro e w1 ⟨rfl, hb1⟩; replace hb1 := Lib.hid hb1)
  obtain ⟨CM, hCM⟩ : ∃ C : Array Value, C = #[.int .u8 60, .int .u8 63, .int .u8 120, .int .u8 112, .int .u8 97, .int .u8 99, .int .u8 107, .int .u8 101, .int .u8 116] := ⟨_, rfl⟩
  obtain ⟨W2, hW2⟩ : ∃ W, W = w1.alloc (.cells CM 5 (CM.size, CM.size + 1)) := ⟨_, rfl⟩
  have hcv : (convert 25 25 (.slice (some ⟨w1.heap.size, 0, none⟩) 9 9)).run Tryz.prog (w1.alloc (.cells CM 5)) = .ok (.slice (some ⟨w1.heap.size, 0, none⟩) 9 9) W2 := by rw [hW2]; exact conv_const w1 CM 9 9
  have hbm : Byt W2 (some ⟨w1.heap.size, 0, none⟩) markB.data.toList := by rw [hW2]; exact byt_mark w1 markB.data.toList CM _ (by rw [hCM]; rfl) (by decide)
  have hB2 : Below w1.heap.size w1 W2 := by rw [hW2]; exact below_mark w1 CM _
  have hw2 := bthen hb1.out hB2
  have cp : Calls Tryz.prog 45 #[.slice (some ⟨b, o, none⟩) (q + 69) c, .slice (some ⟨w1.heap.size, 0, none⟩) 9 9] W2 fun e w' => e = .returned (.bool true) ∧ w' = W2 := by
    obtain ⟨b', o', e', hm9⟩ := hbm.2 (by decide)
    cases e'
    have h := Tryz.bytes_HasPrefix_all (some ⟨b, o, none⟩) (some ⟨w1.heap.size, 0, none⟩) (q + 69) c 9 9 (nums bs) (nums markB.data.toList) W2 (by have := hlq.out; simp [nums]; exact this) rfl hc (fun _ => ⟨b, o, rfl, fun i hi => by
      have h1 := nums_cell hcs.out i (by have := hlq.out; omega)
      rw [Wk.add_none] at h1
      exact (hw2.cell (cell_lt h1)).trans h1⟩) (fun _ => ⟨_, _, rfl, fun i hi => by
      have h1 := nums_cell hm9 i hi
      rw [Wk.add_none] at h1
      exact h1⟩)
    rw [nums_bytes, nums_bytes] at h
    have e : Lib.hasPrefix bs markB.data.toList = true := by rw [hbq.out]; rfl
    rw [e] at h
    exact h
  have cf2 := cf.out W2 hw2
  rw [hCM] at hcv
  replace hW2 := Lib.hid hW2
  replace hCM := Lib.hid hCM
  replace hbm := Lib.hid hbm
  replace hB2 := Lib.hid hB2
  replace hw2 := Lib.hid hw2
  go_upto_region 8 with (first
    | (go_at_call 45; (with_reducible refine cp.mono ?_); rintro e w3 ⟨rfl, rfl⟩)
    | (go_at_call 70; (with_reducible refine cf2.mono ?_); rintro e w4 ⟨rfl, hb4⟩))
  have hw4 := bthen hw2.out hb4
  have cl4 := cl.out w4 hw4
  replace hw4 := Lib.hid hw4
  replace hb4 := Lib.hid hb4
  go_upto_region 11 with (go_at_call 71; (with_reducible refine cl4.mono ?_); rintro e w5 ⟨rfl, hb5⟩; replace hb5 := Lib.hid hb5)
  have hw5 := bthen hw4.out hb5.out
  have hlm : (innerL l).length ≤ maxLen := by have := hq.out; unfold maxLen; omega
  have cc := Tryz.bytes_Clone_at ⟨b, o + 50, none⟩ q (c - 50) (nums (innerL l)) w5 (by have := hq.out; simp [nums]; omega) (by omega) (fun i hi => by
    have hq' := hq.out
    have h1 := hcs.out (50 + i) (by have := hlq.out; omega)
    have h2 : bs[50 + i]'(by have := hlq.out; omega) = (innerL l)[i]'(by omega) := by
      have : ∀ (X : List UInt8) (hX : X = headPI ++ innerL l ++ tailPI) (hh : 50 + i < X.length), X[50 + i] = (innerL l)[i]'(by omega) := by
        intro X hX hh
        subst hX
        rw [List.getElem_append_left (by rw [List.length_append, hhl]; omega), List.getElem_append_right (by rw [hhl]; omega)]
        congr 1
        rw [hhl]; omega
      exact this bs hbq.out _
    rw [h2] at h1
    rw [Wk.add_none, Nat.add_assoc]
    refine ((hw5.cell (cell_lt h1)).trans h1).trans ?_
    simp [nums, List.getD, show i < (innerL l).length by omega])
  have hc50 : ¬ c = 50 := by omega
  replace hw5 := Lib.hid hw5
  replace hlm := Lib.hid hlm
  clear hhl htl
  go_wp2_with (go_at_call 69; (with_reducible refine cc.mono ?_); rintro e w6 ⟨v, rfl, hown, hne, hb6⟩; replace hown := Lib.hid hown; replace hne := Lib.hid hne; replace hb6 := Lib.hid hb6)
  go_ret
  have ho := hown.out
  unfold nums at ho
  rw [valsB_map, hq.out] at ho
  obtain ⟨g, c', hg, rfl, hby⟩ := own_byt2 ho hne.out hlm.out
  have hle : (innerL l).length ≤ c' := by
    rcases ho.2 with ⟨e, _⟩ | ⟨g', cap, cur, e, _, _, hnc, _⟩
    · cases e
    · cases e; exact hnc
  exact ⟨some ⟨g, 0, none⟩, c', by rw [hq.out]; rfl, hby, by rw [hq.out]; exact hle, bthen hw5.out hb6.out⟩
end Go.Proofs.YtkpikpaepgknnaaGreatDoor

/- What a packet says, plain words. No condition. -/
namespace Go.Proofs.YtkpikpaepgknnaaGreatDoor
open Go Go.RowKit Go.Wk Go.Xt Go.Xe Go.Xw
theorem kids_ok (l : List Pr) : ∀ k ∈ kidsN l, OkX k := by
  intro k hk
  unfold kidsN at hk
  rcases List.mem_append.1 hk with h | h
  · obtain ⟨p, _, h2⟩ := List.mem_flatMap.1 h
    simp at h2
    rcases h2 with rfl | rfl
    · rfl
    · exact (by decide : descNm ≠ [])
  · rw [List.mem_singleton.1 h]; rfl
theorem kids_els : ∀ l : List Pr, elsX (kidsN l) = l.map descN
  | [] => rfl
  | p :: l => by
    have h := kids_els l
    unfold elsX kidsN at h ⊢
    rw [List.flatMap_cons, List.append_assoc, List.filter_append, h]
    rfl
theorem kids_length : ∀ l : List Pr, (kidsN l).length = 2 * l.length + 1
  | [] => rfl
  | p :: l => by
    have h := kids_length l
    unfold kidsN at h ⊢
    rw [List.flatMap_cons, List.append_assoc, List.length_append, h]
    simp; omega
theorem kids_small : ∀ l : List Pr, (∀ p ∈ l, p.it.length ≤ 20) → kidsM l ≤ 23 * l.length
  | [], _ => by simp [kidsM]
  | p :: l, h => by
    have h1 := kids_small l (fun q hq => h q (List.mem_cons_of_mem _ hq))
    have h2 := h p (List.mem_cons_self ..)
    have e : kidsM (p :: l) = 1 + propM p + kidsM l := by unfold kidsM; simp
    have e2 : propM p ≤ 22 := by unfold propM; split <;> omega
    rw [e, List.length_cons]; omega
/-- what Read answers -/
def ReadQ (w : World) (l : List Pr) (e : Ending) (w' : World) : Prop := ∃ (ll : List PA) (L : Nat) (vv : Value), e = .returned (.tuple #[vv, .int .i64 0]) ∧ pl ll = l ∧ w.heap.size ≤ L ∧ LMem w' L (L + 1) ll ∧ Blk w' L 59 #[vv] ∧ Below w.heap.size w w'
end Go.Proofs.YtkpikpaepgknnaaGreatDoor

/- xmp.Read over a packet that was written. No condition. -/
namespace Go.Proofs.YtkpikpaepgknnaaGreatDoor
open Go Go.RowKit Go.Wk Go.Xt Go.Xe Go.Xw
set_option maxHeartbeats 8000000 in
set_option maxRecDepth 100000 in
theorem xmp_Read {w : World} (A : Option Addr) (c : Nat) (bs : List UInt8) (l : List Pr) (hb : Byt w A bs) (hbs : bs = packetL l) (hc : bs.length ≤ c) (hcb : c ≤ 9223372036854775807) (hbig : bs.length ≤ 10000000) (mx : Int) (hmx : w.cell? ⟨2, 0, none⟩ = some (.int .i64 mx)) (hT : Lib.Utf8Tabs 0 1 w) (h2 : 2 ≤ w.heap.size)
    (hmay : ∀ p ∈ l, mayB p = true) (hso : Sorted l) (hn : l.length ≤ 20) (hit : ∀ p ∈ l, p.it.length ≤ 20) (htx : ∀ p ∈ l, ∀ e ∈ p.it, e.2.data.toList.length ≤ 100000) (hr : ∀ p ∈ l, (p.sp.toList == rdfL) = false) :
    Calls Tryz.prog 14 #[.slice A bs.length c] w (ReadQ w l) := by
  have ci := xmp_inner A c bs l hb hbs hc hcb hbig mx hmx
  have hil : (innerL l).length ≤ 10000000 := by
    rw [packet_parts] at hbs
    have := congrArg List.length hbs
    rw [List.length_append, List.length_append] at this
    omega
  have hkm : 2 + kidsM l ≤ 4000 := by have := kids_small l hit; omega
  have cp := fun W A' c' (hW : Below w.heap.size w W) (hb' : Byt W A' (innerL l)) (hc' : (innerL l).length ≤ c') => parse_packet (w := W) hb' hc' hil hmay hkm (tabs_below hT h2 hW) (by have := hW.size; omega)
  obtain ⟨n, hnn⟩ : ∃ n, n = bs.length := ⟨_, rfl⟩
  rw [← hnn] at ci ⊢
  replace cp := Lib.hid cp
  replace hmay := Lib.hid hmay
  replace hso := Lib.hid hso
  replace hn := Lib.hid hn
  replace hit := Lib.hid hit
  replace htx := Lib.hid htx
  replace hr := Lib.hid hr
  replace h2 := Lib.hid h2
  obtain ⟨q, hq⟩ : ∃ q, q = (innerL l).length := ⟨_, rfl⟩
  rw [← hq] at ci
  replace hq := Lib.hid hq
  clear hb hbs hc hcb hbig hmx hT hil hkm hnn
  go_enter Tryz.func14, Tryz.ntmps14
  go_upto_region 2 with (first
    | (go_at_call 33; (with_reducible refine ci.mono ?_); rintro e w1 ⟨A', c', rfl, hby, hc', hb1⟩; have cp1 := cp.out w1 A' c' hb1 hby (by rw [← hq.out]; exact hc'); rw [← hq.out] at cp1; replace hby := Lib.hid hby; replace hb1 := Lib.hid hb1)
    | (go_at_call 32; (with_reducible refine cp1.mono ?_); rintro e w2 ⟨N0, N1, N2, a1, n1, c1, a2, n2, c2, bl, rfl, hN, hbl, hb2⟩))
  obtain ⟨b4, e4⟩ : ∃ b, b = w2.heap.size := ⟨_, rfl⟩
  obtain ⟨W2, hW2⟩ : ∃ W, W = w2.alloc (.cells #[.string N0, .string N1, .string N2, .slice a1 n1 c1, .slice a2 n2 c2] 70) := ⟨_, rfl⟩
  have k2 : Below w2.heap.size w2 W2 := by rw [hW2]; exact (Below.refl _ _).alloc (Nat.le_refl _) _
  have hR2 : Blk W2 b4 70 #[.string N0, .string N1, .string N2, .slice a1 n1 c1, .slice a2 n2 c2] := by rw [hW2, e4]; exact Blk.new w2 70 _
  have hNl := hN.lt
  have cr : Calls Tryz.prog 34 #[.agg #[.string N0, .string N1, .string N2, .slice a1 n1 c1, .slice a2 n2 c2]] W2 (RootQ W2 l bl) := xmp_root l _ bl (hN.keep fun k hk => k2.block k (hNl k hk))
  have kw2 := bthen hb1.out (bthen hb2 k2)
  have q0 := hR2.cell 0
  have q1 := hR2.cell 1
  have q2 := hR2.cell 2
  have q3 := hR2.cell 3
  have q4 := hR2.cell 4
  rw [← hW2, ← e4]
  replace hW2 := Lib.hid hW2
  replace k2 := Lib.hid k2
  replace kw2 := Lib.hid kw2
  replace hR2 := Lib.hid hR2
  replace hNl := Lib.hid hNl
  replace hb2 := Lib.hid hb2
  replace hbl := Lib.hid hbl
  replace e4 := Lib.hid e4
  clear hN
  go_upto_region 4 with (fail)
  go_upto_region 5 with (go_at_call 34; (with_reducible refine cr.mono ?_); rintro e w3 ⟨S, N, T, x1, y1, z1, x2, y2, z2, b3, rfl, hN3, hb3, hB3⟩; have hR3 := hR2.out.below hB3 hR2.out.lt; have d0 := hR3.cell 0; have d1 := hR3.cell 1; have d2 := hR3.cell 2; have d3 := hR3.cell 3; have d4 := hR3.cell 4; have f0 := hR3.frozen 0; have f1 := hR3.frozen 1; have f2 := hR3.frozen 2; have f3 := hR3.frozen 3; have f4 := hR3.frozen 4)
  obtain ⟨W4, hW4⟩ : ∃ W, W = (((((w3.setCell ⟨b4, 0, none⟩ (.string S)).setCell ⟨b4, 1, none⟩ (.string N)).setCell ⟨b4, 2, none⟩ (.string T)).setCell ⟨b4, 3, none⟩ (.slice x1 y1 z1)).setCell ⟨b4, 4, none⟩ (.slice x2 y2 z2)) := ⟨_, rfl⟩
  have hA4 : Blk W4 b4 70 #[.string S, .string N, .string T, .slice x1 y1 z1, .slice x2 y2 z2] := by
    rw [hW4]; exact ((((hR3.set_ 0 _).set_ 1 _).set_ 2 _).set_ 3 _).set_ 4 _
  have hS4 : Save b4 w3 W4 := by
    rw [hW4]; exact (((((Save.refl _ _).store 0 _).store 1 _).store 2 _).store 3 _).store 4 _
  have hlt3 := hN3.lt
  have hN4 : NxAt W4 (rdfN l) [.string S, .string N, .string T, .slice x1 y1 z1, .slice x2 y2 z2] b3 := hN3.keep fun k hk => hS4.block k (hlt3 k hk) (by have h1 := (hbl.out k (hb3 k hk)).2; have h2 := e4.out; omega)
  obtain ⟨p1, r1, p2, r2, ba5, bk5, hu, hb5, _, hK5⟩ := nx_el hN4
  have hu2 : Value.slice x2 y2 z2 = .slice p2 (kidsN l).length r2 := by
    injection hu with _ hu; injection hu with _ hu; injection hu with _ hu; injection hu with _ hu; injection hu
  rw [← hu2] at hK5
  have ce := xmp_elements (w := W4) S N T x1 y1 z1 x2 y2 z2 (kidsN l) bk5 hK5 (kids_ok l) (by rw [kids_length]; have := hn.out; omega)
  have hw4 : Below w.heap.size w W4 := by
    have h1 := kw2.out.size
    have h3 := hB3.size
    have h4 := hb1.out.size
    have h5 := hb2.out.size
    exact (kw2.out.trans (hB3.mono (by omega))).trans (hS4.below (by have := e4.out; omega) (by omega))
  have d0 := hA4.cell 0
  have d1 := hA4.cell 1
  have d2 := hA4.cell 2
  have d3 := hA4.cell 3
  have d4 := hA4.cell 4
  rw [← hW4]
  replace hW4 := Lib.hid hW4
  replace hA4 := Lib.hid hA4
  replace hS4 := Lib.hid hS4
  replace hw4 := Lib.hid hw4
  replace hB3 := Lib.hid hB3
  replace hR3 := Lib.hid hR3
  replace hb3 := Lib.hid hb3
  replace hlt3 := Lib.hid hlt3
  clear hN3 hN4 hK5 hu hb5 hu2 f0 f1 f2 f3 f4 q0 q1 q2 q3 q4
  go_upto_region 9 with (go_at_call 35; (with_reducible refine ce.mono ?_); rintro e w5 ⟨a7, n7, c7, vs7, b7, rfl, hn7, hO7, hX7, hb7, hB5⟩; rw [kids_els] at hn7 hX7; rw [List.length_map] at hn7; replace hn7 := Lib.hid hn7; replace hO7 := Lib.hid hO7; replace hX7 := Lib.hid hX7; replace hb7 := Lib.hid hb7; replace hB5 := Lib.hid hB5)
  obtain ⟨L, hL⟩ : ∃ L, L = w5.heap.size := ⟨_, rfl⟩
  obtain ⟨W6, hW6⟩ : ∃ W, W = w5.alloc (.cells #[.slice none 0 0] 59) := ⟨_, rfl⟩
  have k6 : Below w5.heap.size w5 W6 := by rw [hW6]; exact (Below.refl _ _).alloc (Nat.le_refl _) _
  have hL6 : Blk W6 L 59 #[.slice none 0 0] := by rw [hW6, hL]; exact Blk.new w5 59 _
  have hz6 : W6.heap.size = L + 1 := by rw [hW6, World.size_alloc, hL]
  have hM6 : LMem W6 L (L + 1) [] := ⟨⟨⟨_, hL6, World.ownsRow_nil _ _ _ _⟩, by omega, by omega, List.Pairwise.nil⟩, fun vv _ x hx => by simp at hx⟩
  rw [← hW6, ← hL]
  replace hW6 := Lib.hid hW6
  replace hL := Lib.hid hL
  replace k6 := Lib.hid k6
  replace hL6 := Lib.hid hL6
  replace hz6 := Lib.hid hz6
  replace hM6 := Lib.hid hM6
  have hn7b : n7 ≤ 20 := by rw [hn7.out]; exact hn.out
  go_wp2
  go_loopw [39] (fun s39 wr => ∃ (i : Nat) (ll : List PA), i ≤ n7 ∧ s39 = .int .i64 i ∧ pl ll = l.take i ∧ LMem wr L (L + 1) ll ∧ Below L W6 wr) (fun s39 _ => n7 - (RowKit.intOf s39).toNat)
  case atStart => exact ⟨0, [], Nat.zero_le _, rfl, rfl, hM6.out, Below.refl _ _⟩
  case round =>
    obtain ⟨i, ll, hi, rfl, hpl, hM, hB⟩ := hrel
    by_cases hin : i < n7
    · have hn7' := hn7.out
      have hil : i < l.length := by omega
      have hO7' := hO7.out
      have hgx : ∃ g, a7 = some ⟨g, 0, none⟩ ∧ W4.heap.size ≤ g ∧ g < w5.heap.size := by
        obtain ⟨m, hm⟩ : ∃ m, n7 = m + 1 := ⟨n7 - 1, by omega⟩
        rw [hm] at hO7'
        exact one_row hO7'
      obtain ⟨g7, rfl, hg7, hg7l⟩ := hgx
      have kp : ∀ k, k < w5.heap.size → wr.heap[k]? = w5.heap[k]? := fun k hk => (hB.block k (by rw [hL.out]; exact hk)).trans (k6.out.block k hk)
      have hOr := own_sameX hO7' (kp g7 hg7l)
      obtain ⟨us, bi, hNx, hbi, hus⟩ := hX7.out.at (i := i) (by rw [List.length_map]; exact hil)
      rw [List.getElem_map] at hNx
      obtain ⟨S7, N7, T7, x7, y7, z7, x8, y8, z8, rfl⟩ := hNx.shape
      obtain ⟨p0, p1', p2', p3, p4⟩ := kids_cells hOr hin hus
      obtain ⟨W7, hW7⟩ : ∃ W, W = wr.alloc (.cells #[.string S7, .string N7, .string T7, .slice x7 y7 z7, .slice x8 y8 z8] 70) := ⟨_, rfl⟩
      have k7 : Below wr.heap.size wr W7 := by rw [hW7]; exact (Below.refl _ _).alloc (Nat.le_refl _) _
      have hR7 : Blk W7 wr.heap.size 70 #[.string S7, .string N7, .string T7, .slice x7 y7 z7, .slice x8 y8 z8] := by rw [hW7]; exact Blk.new wr 70 _
      have hNxl := hNx.lt
      have hwz := hB.size
      have hN7 : NxAt W7 (descN l[i]) [.string S7, .string N7, .string T7, .slice x7 y7 z7, .slice x8 y8 z8] bi := hNx.keep fun k hk => (k7.block k (by have := hNxl k hk; have := hL.out; have := hz6.out; omega)).trans (kp k (hNxl k hk))
      have hlt : ∀ q ∈ pl ll, ltP q l[i] = true := fun q hq => by
        rw [hpl] at hq
        obtain ⟨j, hj, rfl⟩ := List.getElem_of_mem hq
        rw [List.length_take] at hj
        rw [List.getElem_take]
        exact sorted_at hso.out (by omega) hil
      have hmem := List.getElem_mem hil
      have hll : ll.length = i := by
        have h1 := congrArg List.length hpl
        rw [pl_len, List.length_take] at h1
        omega
      have cd := xmp_describe (w := W7) L (L + 1) ll (hM.below k7) (by have := hn.out; omega) l[i] (hmay.out _ hmem) (hit.out _ hmem) (htx.out _ hmem) hlt (hr.out _ hmem) _ bi hN7
      have hfin : ∀ w8, Below L W7 w8 → (∃ y : PA, y.1 = l[i] ∧ LMem w8 L (L + 1) (ll ++ [y])) → ∃ ll', pl ll' = l.take (i + 1) ∧ LMem w8 L (L + 1) ll' ∧ Below L W6 w8 := fun w8 h1 ⟨y, hy, h3⟩ => by
        refine ⟨ll ++ [y], ?_, h3, (hB.trans (k7.mono (by have := hz6.out; omega))).trans h1⟩
        unfold pl at hpl ⊢
        rw [List.map_append, hpl, List.take_succ_eq_append_getElem hil]
        simp [hy]
      have d0 := hR7.cell 0
      have d1 := hR7.cell 1
      have d2 := hR7.cell 2
      have d3 := hR7.cell 3
      have d4 := hR7.cell 4
      replace hfin := Lib.hid hfin
      replace hlt := Lib.hid hlt
      replace hmem := Lib.hid hmem
      replace hll := Lib.hid hll
      replace hpl := Lib.hid hpl
      replace kp := Lib.hid kp
      replace k7 := Lib.hid k7
      replace hNxl := Lib.hid hNxl
      replace hwz := Lib.hid hwz
      replace hB := Lib.hid hB
      replace hM := Lib.hid hM
      replace hn7' := Lib.hid hn7'
      replace hil := Lib.hid hil
      replace hg7 := Lib.hid hg7
      replace hg7l := Lib.hid hg7l
      clear hOr hNx hbi hus hO7' hR7 hN7
      go_upto_region 12 with (fail)
      rw [← hW7]
      replace hW7 := Lib.hid hW7
      go_wp2_with (go_at_call 36; (with_reducible refine cd.mono ?_); rintro e w8 ⟨rfl, h81, h82⟩; replace h81 := Lib.hid h81; replace h82 := Lib.hid h82)
      go_roundw
      case rel =>
        obtain ⟨ll', h1, h2, h3⟩ := hfin.out w8 h81.out h82.out
        exact ⟨i + 1, ll', by omega, by go_num, h1, h2, h3⟩
      case measure => simp [RowKit.intOf]; omega
    · obtain rfl : i = n7 := by omega
      obtain ⟨⟨vv, hLv, hOv⟩, _⟩ := hM.list
      have hM2 := hM
      have hpl2 : pl ll = l := by rw [hpl, List.take_of_length_le (by rw [hn7.out]; exact Nat.le_refl _)]
      have l0 := hLv.cell 0
      obtain ⟨av, cv, rfl⟩ := sl_of hOv
      replace hpl := Lib.hid hpl
      replace hpl2 := Lib.hid hpl2
      replace hM := Lib.hid hM
      replace hM2 := Lib.hid hM2
      replace hB := Lib.hid hB
      replace hLv := Lib.hid hLv
      clear hOv
      go_wp2
      go_ret2
      have h1 := hL.out
      have h2 := hw4.out.size
      have h3 := hB5.out.size
      exact ⟨ll, L, _, rfl, hpl2.out, by omega, hM2.out, hLv.out, (bthen hw4.out (bthen hB5.out k6.out)).trans (hB.out.mono (by omega))⟩
end Go.Proofs.YtkpikpaepgknnaaGreatDoor

/- Entries, copied. No condition. -/
namespace Go.Proofs.YtkpikpaepgknnaaGreatDoor
open Go Go.RowKit Go.Wk Go.Xt Go.Xe Go.Xw
theorem flatE_one (it : List (ByteArray × ByteArray)) : ∀ u ∈ flatE it, u.oneCell' = true := by
  intro u hu
  obtain ⟨e, _, h⟩ := List.mem_flatMap.1 hu
  simp at h
  rcases h with rfl | rfl <;> rfl
theorem flatE_get {w : World} {g o : Nat} {it : List (ByteArray × ByteArray)} (hc : ∀ i (h : i < it.length), w.cell? ⟨g, o + i * 2, none⟩ = some (.string it[i].1) ∧ w.cell? ⟨g, o + i * 2 + 1, none⟩ = some (.string it[i].2)) : ∀ j u, (flatE it)[j]? = some u → w.cell? ((⟨g, o, none⟩ : Addr).add j) = some u := by
  intro j u hj
  have hl := (List.getElem?_eq_some_iff.1 hj).1
  rw [flatE_len] at hl
  have hi : j / 2 < it.length := by omega
  obtain ⟨h1, h2⟩ := flatE_at it (j / 2) hi
  obtain ⟨c1, c2⟩ := hc (j / 2) hi
  rw [Wk.add_none]
  by_cases h0 : j % 2 = 0
  · have e : j = j / 2 * 2 := by omega
    rw [← e] at h1 c1
    rw [hj] at h1
    rw [c1, ← h1]
  · have e : j = j / 2 * 2 + 1 := by omega
    rw [← e] at h2
    rw [show o + j / 2 * 2 + 1 = o + j by omega] at c2
    rw [hj] at h2
    rw [c2, ← h2]
theorem ents_blk {w : World} {B n c m : Nat} {A : Option Addr} {xs : List Value} (h : w.ownsRow B 55 2 (.slice A n c) m xs) : ∀ a, A = some a → ∃ cs, Blk w a.block 55 cs := by
  intro a ha
  rcases h.2 with ⟨e, _⟩ | ⟨g, cap, cur, e, _, hh, _⟩
  · injection e with e _ _; rw [ha] at e; cases e
  · injection e with e _ _; rw [ha] at e; cases e; exact ⟨cur, hh⟩
theorem own_zero (w : World) : (w.alloc (.cells #[] 55)).ownsRow w.heap.size 55 2 (.slice (some ⟨w.heap.size, 0, none⟩) 0 0) 0 [] :=
  ⟨rfl, .inr ⟨w.heap.size, 0, #[], rfl, Nat.le_refl _, Blk.new w 55 _, Nat.le_refl _, by decide, rfl, rfl⟩⟩
set_option maxHeartbeats 4000000 in
set_option maxRecDepth 100000 in
theorem ents_clone {w : World} (A : Option Addr) (c : Nat) (it : List (ByteArray × ByteArray)) (hE : EnsAt w A it) (hn : it.length ≤ 20) (hc : it.length ≤ c) :
    Calls Tryz.prog 39 #[.slice A it.length c] w fun e w' => ∃ A' c', e = .returned (.slice A' it.length c') ∧ EnsAt w' A' it ∧ it.length ≤ c' ∧ (∀ a, A' = some a → w.heap.size ≤ a.block ∧ ∃ cs, Blk w' a.block 55 cs) ∧ Below w.heap.size w w' := by
  obtain ⟨n, hnn⟩ : ∃ n, n = it.length := ⟨_, rfl⟩
  rw [← hnn] at hn hc ⊢
  obtain ⟨i0, hi0, hz0, hz1, hz2⟩ := ent_info
  have qe : ∀ (w : World) (a : Option Addr) (n c : Nat), (binOp .eql 36 (.slice a n c) (.slice none 0 0)).run Tryz.prog w = .ok (.bool a.isNone) w := fun w a n c => Lib.run_eql_slice_nil w _ _ a n c 0 0 Tryz.underlying36
  cases A with
  | none =>
    have h0 : it = [] := by
      cases it with
      | nil => rfl
      | cons e it =>
        obtain ⟨g, o, h, _⟩ := hE (by simp)
        cases h
    subst h0
    have hn0 : n = 0 := hnn
    subst hn0
    clear hE hnn
    go_enter Tryz.func39, Tryz.ntmps39
    go_wp2
    go_ret
    exact ⟨none, 0, rfl, fun h => by simp at h, Nat.le_refl _, fun a h => (by cases h), Below.refl _ _⟩
  | some a =>
    obtain ⟨W1, hW1⟩ : ∃ W, W = w.alloc (.cells #[] 55) := ⟨_, rfl⟩
    have k1 : Below w.heap.size w W1 := by rw [hW1]; exact (Below.refl _ _).alloc (Nat.le_refl _) _
    have hO1 : W1.ownsRow w.heap.size 55 2 (.slice (some ⟨w.heap.size, 0, none⟩) 0 0) 0 [] := by rw [hW1]; exact own_zero w
    have hcells : ∀ j u, (flatE it)[j]? = some u → W1.cell? (a.add j) = some u := fun j u hj => by
      have hl := (List.getElem?_eq_some_iff.1 hj).1
      rw [flatE_len] at hl
      obtain ⟨g, o, h, hcs⟩ := hE (by omega)
      cases h
      have h1 := flatE_get hcs j u hj
      exact (k1.cell (cell_lt h1)).trans h1
    have hfl : (flatE it).length = n * 2 := by rw [flatE_len, hnn]
    replace hcells := Lib.hid hcells
    replace hfl := Lib.hid hfl
    replace k1 := Lib.hid k1
    replace hnn := Lib.hid hnn
    clear hE
    go_enter Tryz.func39, Tryz.ntmps39
    go_upto_region 3 with (fail)
    go_wp2_with (at_builtin; refine wpList_append_own_at _ rfl (.tmp 5) (.tmp 6) 36 rfl w.heap.size 55 i0 _ 2 32 Tryz.underlying36 hi0 hz0 hz1 hz2 rfl (by decide) _ _ _ rfl (by rw [← hW1]; exact hO1) a n c (flatE it) rfl (by rw [hfl.out]) (by rw [← hW1]; exact hcells.out) (flatE_one it) (by unfold maxLen; omega) (by omega) (by simp) ?_; intro v5 w9 hown5 hg5 _ hat5; obtain ⟨av9, cv9, rfl⟩ := sl_of hown5; replace hown5 := Lib.hid hown5; replace hg5 := Lib.hid hg5)
    go_ret
    have ho : w9.ownsRow w.heap.size 55 2 (.slice av9 it.length cv9) it.length (flatE it) := by
      have h := hown5.out
      rw [List.nil_append, Nat.zero_add, hnn.out] at h
      exact h
    obtain ⟨A', c', hv, hE', hle, hAb⟩ := ents_of ho
    injection hv with h1 _ h3
    subst h1 h3
    refine ⟨av9, cv9, rfl, hE', by rw [hnn.out]; exact hle, fun a ha => ⟨(hAb a ha).1, ents_blk ho a ha⟩, ?_⟩
    exact k1.out.grown (hW1 ▸ hg5.out) k1.out.size (fun k hk => Nat.le_of_eq (Option.some.inj hk))
end Go.Proofs.YtkpikpaepgknnaaGreatDoor

/- A property found by its name. No condition. -/
namespace Go.Proofs.YtkpikpaepgknnaaGreatDoor
open Go Go.RowKit Go.Wk Go.Xt Go.Xe Go.Xw
/-- what Find answers -/
def FindQ (w : World) (x : Pr) (e : Ending) (w' : World) : Prop := ∃ A c, e = .returned (.tuple #[prV x (.slice A x.it.length c), .bool true]) ∧ EnsAt w' A x.it ∧ x.it.length ≤ c ∧ (∀ a, A = some a → ∃ cs, Blk w' a.block 55 cs) ∧ Below w.heap.size w w'
set_option maxHeartbeats 8000000 in
set_option maxRecDepth 100000 in
theorem xmp_Find {w : World} (A : Option Addr) (g cap : Nat) (l : List PA) (hA : 0 < l.length → A = some ⟨g, 0, none⟩) (hn : l.length ≤ 20) (hcp : l.length ≤ cap) (hc : CellsP w g l) (hE : ∀ x ∈ l, EnsAt w x.2.1 x.1.it ∧ x.1.it.length ≤ x.2.2 ∧ x.1.it.length ≤ 20) (S N : ByteArray) (y : Pr) (hy : ∃ x ∈ l, isF S N x.1 = true) (hu : ∀ x ∈ l, isF S N x.1 = true → x.1 = y) :
    Calls Tryz.prog 15 #[.slice A l.length cap, .string S, .string N] w (FindQ w y) := by
  obtain ⟨Wa, hWa⟩ : ∃ W, W = w.alloc (.cells #[.string S] 9) := ⟨_, rfl⟩
  obtain ⟨Wb, hWb⟩ : ∃ W, W = Wa.alloc (.cells #[.string N] 9) := ⟨_, rfl⟩
  obtain ⟨W1, hW1⟩ : ∃ W, W = Wb.alloc (.cells #[.string ⟨#[]⟩, .string ⟨#[]⟩, .int .i64 0, .slice none 0 0] 38) := ⟨_, rfl⟩
  have za : Wa.heap.size = w.heap.size + 1 := by rw [hWa]; exact World.size_alloc _ _
  have zb : Wb.heap.size = w.heap.size + 2 := by rw [hWb, World.size_alloc, za]
  have ka : Below w.heap.size w Wa := by rw [hWa]; exact (Below.refl _ _).alloc (Nat.le_refl _) _
  have kb : Below Wa.heap.size Wa Wb := by rw [hWb]; exact (Below.refl _ _).alloc (Nat.le_refl _) _
  have k1 : Below Wb.heap.size Wb W1 := by rw [hW1]; exact (Below.refl _ _).alloc (Nat.le_refl _) _
  have kw1 := bthen ka (bthen kb k1)
  obtain ⟨b0, e0⟩ : ∃ b, b = w.heap.size := ⟨_, rfl⟩
  obtain ⟨b1, e1⟩ : ∃ b, b = b0 + 1 := ⟨_, rfl⟩
  obtain ⟨b2, e2⟩ : ∃ b, b = b1 + 1 := ⟨_, rfl⟩
  have hR0 : Blk W1 b0 9 #[.string S] := by
    have h : Blk Wa b0 9 #[.string S] := by rw [hWa, e0]; exact Blk.new w 9 _
    exact (h.below kb h.lt).below k1 (by omega)
  have hR1 : Blk W1 b1 9 #[.string N] := by
    have h : Blk Wb Wa.heap.size 9 #[.string N] := by rw [hWb]; exact Blk.new Wa 9 _
    rw [za, ← e0, ← e1] at h
    exact h.below k1 h.lt
  have hR2 : Blk W1 b2 38 #[.string ⟨#[]⟩, .string ⟨#[]⟩, .int .i64 0, .slice none 0 0] := by
    have h : Blk W1 Wb.heap.size 38 #[.string ⟨#[]⟩, .string ⟨#[]⟩, .int .i64 0, .slice none 0 0] := by rw [hW1]; exact Blk.new Wb 38 _
    rw [zb, show w.heap.size + 2 = b2 by omega] at h; exact h
  have cf := find_index (w := W1) A g cap b0 b1 l hA hn hcp (hc.below kw1) S N (hR0.cell 0) (hR1.cell 0)
  have hE1 : ∀ x ∈ l, EnsAt W1 x.2.1 x.1.it ∧ x.1.it.length ≤ x.2.2 ∧ x.1.it.length ≤ 20 := fun x hx => ⟨(hE x hx).1.below kw1, (hE x hx).2⟩
  have hc1 := hc.below kw1
  obtain ⟨n, hnn⟩ : ∃ n, n = l.length := ⟨_, rfl⟩
  rw [← hnn] at cf hcp ⊢
  replace hA := Lib.hid hA
  replace hn := Lib.hid hn
  replace hc1 := Lib.hid hc1
  replace hE1 := Lib.hid hE1
  replace hy := Lib.hid hy
  replace hu := Lib.hid hu
  replace kw1 := Lib.hid kw1
  replace hR2 := Lib.hid hR2
  replace za := Lib.hid za
  replace zb := Lib.hid zb
  replace hnn := Lib.hid hnn
  clear ka kb k1 hE hc hR0 hR1
  go_enter Tryz.func15, Tryz.ntmps15
  go_upto_region 1 with (fail)
  rw [← hWa, ← hWb, ← hW1, ← e0, ← e1, ← e2]
  replace hWa := Lib.hid hWa
  replace hWb := Lib.hid hWb
  replace hW1 := Lib.hid hW1
  replace e0 := Lib.hid e0
  replace e1 := Lib.hid e1
  replace e2 := Lib.hid e2
  go_wp2_with (fail)
  go_at_call 37
  refine cf.mono ?_
  rintro e w2 ⟨hf, hb2⟩
  obtain ⟨i, hi, rfl, hif⟩ : ∃ i, ∃ hi : i < l.length, e = .returned (.int .i64 (i : Nat)) ∧ isF S N l[i].1 = true := by
    rcases hf with ⟨_, h⟩ | h
    · obtain ⟨x, hx, h2⟩ := hy.out
      rw [h x hx] at h2; cases h2
    · exact h
  have hmem := List.getElem_mem hi
  have hyx := hu.out _ hmem hif
  have hAe := hA.out (by omega)
  subst hAe
  obtain ⟨x0, x1, x2, x3⟩ := hc1.out.below hb2 i hi
  obtain ⟨hEx, hExc, hEx20⟩ := hE1.out _ hmem
  have hi2 : i < n := by rw [hnn.out]; exact hi
  generalize l[i] = x at x0 x1 x2 x3 hEx hExc hEx20 hyx
  obtain ⟨p, A3, c3⟩ := x
  have hyx : p = y := hyx
  subst hyx
  obtain ⟨sp, nm, kd, it⟩ := p
  replace x3 : w2.cell? ⟨g, i * 4 + 3, none⟩ = some (.slice A3 it.length c3) := x3
  replace x0 : w2.cell? ⟨g, i * 4, none⟩ = some (.string sp) := x0
  replace x1 : w2.cell? ⟨g, i * 4 + 1, none⟩ = some (.string nm) := x1
  replace x2 : w2.cell? ⟨g, i * 4 + 2, none⟩ = some (.int .i64 kd) := x2
  have cc := fun W (hW : Below w2.heap.size w2 W) => ents_clone (w := W) A3 c3 it ((EnsAt.below hEx hb2).below hW) hEx20 hExc
  obtain ⟨W4, hW4⟩ : ∃ W, W = w2.alloc (.cells #[.string sp, .string nm, .int .i64 kd, .slice A3 it.length c3] 38) := ⟨_, rfl⟩
  have k4 : Below w2.heap.size w2 W4 := by rw [hW4]; exact (Below.refl _ _).alloc (Nat.le_refl _) _
  obtain ⟨b4, e4⟩ : ∃ b, b = w2.heap.size := ⟨_, rfl⟩
  have hR4 : Blk W4 b4 38 #[.string sp, .string nm, .int .i64 kd, .slice A3 it.length c3] := by rw [hW4, e4]; exact Blk.new w2 38 _
  have hX4 := (hR2.out.below hb2 hR2.out.lt).below k4 (Nat.lt_of_lt_of_le hR2.out.lt hb2.size)
  have cc4 := cc W4 k4
  obtain ⟨q0, q1, q2, q3⟩ := blk4 hR4
  have g1 : ¬ (b4 = b2) := by have := hR2.out.lt; have := hb2.size; omega
  have g2 : ¬ (b2 = b4) := fun e => g1 e.symm
  obtain ⟨m, hm⟩ : ∃ m, m = it.length := ⟨_, rfl⟩
  rw [← hm] at cc4 hR4 x3 q3 hW4
  replace hm := Lib.hid hm
  replace k4 := Lib.hid k4
  replace hX4 := Lib.hid hX4
  replace hR4 := Lib.hid hR4
  replace hb2 := Lib.hid hb2
  replace hif := Lib.hid hif
  replace hi := Lib.hid hi
  clear cc hEx hExc hEx20 hmem hf cf
  go_upto_region 5 with (fail)
  rw [← hW4, ← e4]
  replace hW4 := Lib.hid hW4
  replace e4 := Lib.hid e4
  go_upto_region 6 with (go_at_call 39; (with_reducible refine cc4.mono ?_); rintro e w5 ⟨A5, c5, rfl, hE5, hc5, hA5, hb5⟩; have hR5 := hR4.out.below hb5 hR4.out.lt; have hX5 := hX4.out.below hb5 hX4.out.lt; obtain ⟨d0, d1, d2, d3⟩ := blk4 hR5; have f3 := hR5.frozen 3)
  obtain ⟨W6, hW6⟩ : ∃ W, W = w5.setCell ⟨b4, 3, none⟩ (.slice A5 m c5) := ⟨_, rfl⟩
  have hR6 : Blk W6 b4 38 #[.string sp, .string nm, .int .i64 kd, .slice A5 m c5] := by rw [hW6]; exact hR5.set_ 3 _
  have hS6 : Save b4 w5 W6 := by rw [hW6]; exact (Save.refl _ _).store 3 _
  have hX6 := (hS6.block b2 hX5.lt g2).trans hX5
  replace hX6 : Blk W6 b2 38 #[.string ⟨#[]⟩, .string ⟨#[]⟩, .int .i64 0, .slice none 0 0] := hX6
  obtain ⟨l0, l1, l2, l3⟩ := blk4 hR6
  obtain ⟨r0, r1, r2, r3⟩ := blk4 hX6
  have y0 := hX6.frozen 0
  have y1 := hX6.frozen 1
  have y2 := hX6.frozen 2
  have y3 := hX6.frozen 3
  rw [← hW6]
  replace hW6 := Lib.hid hW6
  replace hR6 := Lib.hid hR6
  replace hS6 := Lib.hid hS6
  replace hX6 := Lib.hid hX6
  replace hR5 := Lib.hid hR5
  replace hX5 := Lib.hid hX5
  replace hE5 := Lib.hid hE5
  replace hc5 := Lib.hid hc5
  replace hA5 := Lib.hid hA5
  replace hb5 := Lib.hid hb5
  clear d0 d1 d2 d3 f3 x0 x1 x2 x3 q0 q1 q2 q3
  go_wp2
  have z0 := e0.out
  have z1 := e1.out
  have z2 := e2.out
  have z4 := e4.out
  have s1 := kw1.out.size
  have s2 := hb2.out.size
  have s4 := k4.out.size
  have s5 := hb5.out.size
  have s6 := hS6.out.size
  have hw2 := bthen kw1.out (bthen hb2.out k4.out)
  have hw6 : Below w.heap.size w W6 := hw2.trans ((hb5.out.mono (by omega)).trans (hS6.out.below (by omega) (by omega)))
  obtain ⟨hV, hBV⟩ := four_end (v0 := .string sp) (v1 := .string nm) (v2 := .int .i64 kd) (v3 := .slice A5 m c5) hX6.out (lo := w.heap.size) (by omega) hw6
  have hSV : Save b2 W6 ((((W6.setCell ⟨b2, 0, none⟩ (.string sp)).setCell ⟨b2, 1, none⟩ (.string nm)).setCell ⟨b2, 2, none⟩ (.int .i64 kd)).setCell ⟨b2, 3, none⟩ (.slice A5 m c5)) := ((((Save.refl _ _).store 0 _).store 1 _).store 2 _).store 3 _
  obtain ⟨V, hVe⟩ : ∃ V, V = ((((W6.setCell ⟨b2, 0, none⟩ (.string sp)).setCell ⟨b2, 1, none⟩ (.string nm)).setCell ⟨b2, 2, none⟩ (.int .i64 kd)).setCell ⟨b2, 3, none⟩ (.slice A5 m c5)) := ⟨_, rfl⟩
  rw [← hVe] at hV hBV hSV ⊢
  obtain ⟨q0, q1, q2, q3⟩ := blk4 hV
  refine bodyPost_ret (v := .tuple #[.agg #[.string sp, .string nm, .int .i64 kd, .slice A5 m c5], .bool true]) (by simp [results, Tryz.results15, go_sem, q0, q1, q2, q3]) rfl ⟨A5, c5, by rw [hm.out]; rfl, ?_, by show it.length ≤ c5; rw [← hm.out]; exact hc5.out, fun a ha => (by
    obtain ⟨h1, cs, h2⟩ := hA5.out a ha
    have h3 := h2.lt
    exact ⟨cs, ((hSV.block a.block (by omega) (by have := hX4.out.lt; omega)).trans (hS6.out.block a.block h3 (by have := hR4.out.lt; omega))).trans h2⟩), hBV⟩
  intro h0
  have h0 : 0 < it.length := h0
  refine ens_kept hE5.out (fun a ha => ?_) h0
  obtain ⟨g', o', hga, hcs⟩ := hE5.out h0
  rw [ha] at hga
  cases hga
  obtain ⟨h1, cs5, h2⟩ := hA5.out _ ha
  have h2 := h2.lt
  have h1 : W4.heap.size ≤ g' := h1
  have h2 : g' < w5.heap.size := h2
  exact (hSV.block g' (by omega) (by have := hX4.out.lt; omega)).trans (hS6.out.block g' (by omega) (by have := hR4.out.lt; omega))
end Go.Proofs.YtkpikpaepgknnaaGreatDoor

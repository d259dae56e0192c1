/- Walks and laws, joined: part C. No condition. -/
import Derived.Test.YthffpbkndnhlfaaGreatDoorPrJB
import Derived.Test.YthffpbkndnhlfaaGreatDoorPrJA
import Derived.Lib.SlBytesConst
set_option linter.unusedSimpArgs false
set_option linter.unusedVariables false
/- Bytes of an object, by the program: one step of the induction. No condition. -/
namespace Go.Proofs.YthffpbkndnhlfaaGreatDoor
open Go Go.RowKit Go.Wk
def DictC (N : Nat) : Prop := ∀ (w : World) (AD : Option Addr) (gD oD cD : Nat) (d : List (List UInt8 × Ob)) (vd : Nat → List Value), Tab w → (0 < d.length → AD = some ⟨gD, oD, none⟩) → (∀ i, (hi : i < d.length) → ObAt w d[i].2 (vd i)) → (∀ i, (hi : i < d.length) → d[i].1.length ≤ maxLen ∧ w.cell? ⟨gD, oD + 6 * i, none⟩ = some (strV d[i].1)) → (∀ i, i < d.length → ∀ j, j < 5 → w.cell? ⟨gD, oD + (6 * i + 1 + j), none⟩ = (vd i)[j]?) → bulkD d ≤ N →
 Calls Tryz.prog 107 #[.slice AD d.length cD] w (RB w (60 :: 60 :: (showD d ++ [62, 62])))
theorem RB.up {w w1 w' : World} {bs : List UInt8} {e : Ending} (h : RB w1 bs e w') (hb : Below w.heap.size w w1) : RB w bs e w' := by
 obtain ⟨A, c, rfl, h1, h2, h3⟩ := h
 exact ⟨A, c, rfl, h1, h2, bthen hb h3⟩
theorem row1b (W : World) (l : List UInt8) (hl : l.length ≤ 1000000000) : Calls Tryz.prog 102 #[.slice (some ⟨W.heap.size, 0, none⟩) 1 1] (W.alloc (.cells #[str l] 9)) (RB W l) := by
 have h := row1 W ⟨l.toArray⟩ (by simpa [ByteArray.size] using hl)
 refine h.mono fun e w' hr => ?_
 have h2 := hr.rb (by simp; unfold maxLen; omega)
 exact RB.up (by simpa using h2) ((Below.refl _ _).alloc (Nat.le_refl _) _)
theorem row2b (W : World) (l r : List UInt8) (hl : l.length + r.length ≤ 1000000000) : Calls Tryz.prog 102 #[.slice (some ⟨W.heap.size, 0, none⟩) 2 2] (W.alloc (.cells #[str l, str r] 9)) (RB W (l ++ r)) := by
 have h := row2 W ⟨l.toArray⟩ ⟨r.toArray⟩ (by simpa [ByteArray.size] using hl)
 refine h.mono fun e w' hr => ?_
 have h2 := hr.rb (by simp; unfold maxLen; omega)
 exact RB.up (by simpa using h2) ((Below.refl _ _).alloc (Nat.le_refl _) _)
set_option maxHeartbeats 8000000 in
set_option maxRecDepth 100000 in
theorem prt_show (N : Nat) (hN : N + 1 ≤ 1048576) (hs : ShowC N) (hd : DictC N) : ShowC (N + 1) := by
 intro o vs w hob hbk htab
 have hsh := show_len o hob.fits
 cases hob with
 | mk k n b l d A AL AD c cL cD gL oL gD oD vl vd h1 h2 h3 h4 h5 h6 h7 h8 h9 h10 h11 h12 h13 h14 h15 h16 h17 h18 =>
 obtain ⟨W1, hW1⟩ : ∃ W, W = w.alloc (.cells #[.int .i64 k, .int .i64 n, .slice A b.length c, .slice AL l.length cL, .slice AD d.length cD] 32) := ⟨_, rfl⟩
 have hb1 : Below w.heap.size w W1 := by rw [hW1]; exact (Below.refl _ _).alloc (Nat.le_refl _) _
 have hup : ∀ bs e w', RB W1 bs e w' → RB w bs e w' := fun bs e w' h => h.up hb1
 have htab1 := htab.below hb1
 have hlen : ∀ S : List UInt8, S = (Ob.mk k n b l d).show → S.length ≤ 41943040 := fun S hS => by subst hS; omega
 have hlen2 : b.length + bulkL l + bulkD d ≤ N := by simp only [Ob.bulk] at hbk; omega
 clear hsh
 have ecell : ∀ i v, #[Value.int .i64 k, .int .i64 n, .slice A b.length c, .slice AL l.length cL, .slice AD d.length cD][i]? = some v → W1.cell? ⟨w.heap.size, i, none⟩ = some v := by
  intro i v hv
  have h0 := alloc_cell (w := w) (vs := #[Value.int .i64 k, .int .i64 n, .slice A b.length c, .slice AL l.length cL, .slice AD d.length cD]) (e := 32) (i := i)
  rw [Nat.zero_add, hv] at h0
  rw [hW1]; exact h0
 have x0 : W1.cell? ⟨w.heap.size, 0, none⟩ = some (.int .i64 k) := ecell 0 _ rfl
 have x1 : W1.cell? ⟨w.heap.size, 1, none⟩ = some (.int .i64 n) := ecell 1 _ rfl
 have x2 : W1.cell? ⟨w.heap.size, 2, none⟩ = some (.slice A b.length c) := ecell 2 _ rfl
 have x3 : W1.cell? ⟨w.heap.size, 3, none⟩ = some (.slice AL l.length cL) := ecell 3 _ rfl
 have x4 : W1.cell? ⟨w.heap.size, 4, none⟩ = some (.slice AD d.length cD) := ecell 4 _ rfl
 have cA := (prt_array N (by omega) hs W1 htab1 AL gL oL cL l vl h12 (fun i hi => (h13 i hi).kept hb1) (fun i hi j hj => by
  have h0 := h14 i hi j hj
  obtain ⟨u, hu⟩ : ∃ u, (vl i)[j]? = some u := ⟨_, List.getElem?_eq_getElem (by rw [(h13 i hi).five]; exact hj)⟩
  rw [hu] at h0 ⊢
  exact (hb1.cell (cell_lt h0)).trans h0) (by omega))
 have cD := (hd W1 AD gD oD cD d vd htab1 h15 (fun i hi => (h16 i hi).kept hb1) (fun i hi => ⟨(h17 i hi).1, (hb1.cell (cell_lt (h17 i hi).2)).trans (h17 i hi).2⟩) (fun i hi j hj => by
  have h0 := h18 i hi j hj
  obtain ⟨u, hu⟩ : ∃ u, (vd i)[j]? = some u := ⟨_, List.getElem?_eq_getElem (by rw [(h16 i hi).five]; exact hj)⟩
  rw [hu] at h0 ⊢
  exact (hb1.cell (cell_lt h0)).trans h0) (by omega))
 have hb5 := h5.below hb1
 have cT := prt_Text A c b W1 hb5 (by omega)
 have cN := prt_Name (bytes b) W1 (by rw [bytes_size]; omega)
 rw [bytes_list] at cN
 have cv := conv_any W1 A c b hb5
 have cI := fixed_Text_whole n ⟨h3, h4⟩ W1 htab1
 have cF := fixed_Text n ⟨h3, h4⟩ W1 htab1
 have e41 : 41943040 ≤ maxLen := by unfold maxLen; omega
 replace hs := hi_ hs
 replace hd := hi_ hd
 replace hup := hi_ hup
 replace hlen := hi_ hlen
 replace htab := hi_ htab
 replace htab1 := hi_ htab1
 replace hb1 := hi_ hb1
 clear h1 h2 h3 h4 h5 h6 h7 h8 h9 h10 h11 h12 h13 h14 h15 h16 h17 h18 hb5 ecell hbk hlen2
 go_enter Tryz.func76, Tryz.ntmps76
 go_upto_region 1 with (fail)
 rw [← hW1]
 replace hW1 := hi_ hW1
 by_cases k1 : k = 1
 ·subst k1
  by_cases n1 : n = 1
  ·subst n1
   have hS : (Ob.mk 1 1 b l d).show = [116, 114, 117, 101] := by simp [Ob.show]
   replace hS := hi_ hS
   clear cA cD cT cN cv cI cF
   have cr : Calls Tryz.prog 102 #[.slice (some ⟨W1.heap.size, 0, none⟩) 1 1] (W1.alloc (.cells #[.string ⟨#[116, 114, 117, 101]⟩] 9)) (RB W1 [116, 114, 117, 101]) := row1b W1 _ (by decide)
   go_wp2_with (go_at_call 102; (with_reducible refine cr.mono ?_); rintro e w2 ⟨A2, c2, rfl, hb2, hA2, hB2⟩; replace hb2 := hi_ hb2; replace hB2 := hi_ hB2; replace hA2 := hi_ hA2)
   go_ret
   exact hup.out _ _ _ (by rw [hS.out]; exact ⟨A2, c2, rfl, hb2.out, hA2.out, hB2.out⟩)
  ·have hS : (Ob.mk 1 n b l d).show = [102, 97, 108, 115, 101] := by simp [Ob.show, n1]
   replace hS := hi_ hS
   have en : (n == 1) = false := by simpa using n1
   clear n1
   clear cA cD cT cN cv cI cF
   have cr : Calls Tryz.prog 102 #[.slice (some ⟨W1.heap.size, 0, none⟩) 1 1] (W1.alloc (.cells #[.string ⟨#[102, 97, 108, 115, 101]⟩] 9)) (RB W1 [102, 97, 108, 115, 101]) := row1b W1 _ (by decide)
   go_wp2_with (go_at_call 102; (with_reducible refine cr.mono ?_); rintro e w2 ⟨A2, c2, rfl, hb2, hA2, hB2⟩; replace hb2 := hi_ hb2; replace hB2 := hi_ hB2; replace hA2 := hi_ hA2)
   go_ret
   exact hup.out _ _ _ (by rw [hS.out]; exact ⟨A2, c2, rfl, hb2.out, hA2.out, hB2.out⟩)
 by_cases k2 : k = 2
 ·subst k2
  have hS : (Ob.mk 2 n b l d).show = textL n true := (by simp [Ob.show] : _ = numT n true).trans rfl
  obtain ⟨S, hSe⟩ : ∃ S, S = textL n true := ⟨_, rfl⟩
  rw [← hSe] at hS
  have hz := hlen.out _ hS.symm
  replace hS := hi_ hS
  obtain ⟨T, hT⟩ : ∃ T : ByteArray, T = ⟨(textL n true).toArray⟩ := ⟨_, rfl⟩
  have c4 : Calls Tryz.prog 103 #[.int .i64 n, .bool true] W1 fun e w' => e = .returned (.string T) ∧ Below W1.heap.size W1 w' := by rw [hT]; exact cI
  have r3 : ∀ W : World, Calls Tryz.prog 102 #[.slice (some ⟨W.heap.size, 0, none⟩) 1 1] (W.alloc (.cells #[.string T] 9)) (RB W S) := fun W => by rw [hT, hSe]; exact row1b W (textL n true) (by rw [← hSe]; omega)
  replace hT := hi_ hT
  replace hSe := hi_ hSe
  clear cA cD cT cN cv cF cI
  go_wp2_with (first
   | (go_at_call 103; (with_reducible refine c4.mono ?_); rintro e w1 ⟨rfl, hB1⟩; replace hB1 := hi_ hB1)
   | (go_at_call 102; (with_reducible refine (r3 w1).mono ?_); rintro e w2 ⟨A2, c2, rfl, hb2, hA2, hB2⟩; replace hb2 := hi_ hb2; replace hB2 := hi_ hB2; replace hA2 := hi_ hA2)
   | fail)
  go_ret
  exact hup.out _ _ _ (by rw [hS.out]; exact RB.up ⟨A2, c2, rfl, hb2.out, hA2.out, hB2.out⟩ hB1.out)
 by_cases k3 : k = 3
 ·subst k3
  have hS : (Ob.mk 3 n b l d).show = textL n false := (by simp [Ob.show] : _ = numT n false).trans rfl
  obtain ⟨S, hSe⟩ : ∃ S, S = textL n false := ⟨_, rfl⟩
  rw [← hSe] at hS
  have hz := hlen.out _ hS.symm
  replace hS := hi_ hS
  obtain ⟨T, hT⟩ : ∃ T : ByteArray, T = ⟨(textL n false).toArray⟩ := ⟨_, rfl⟩
  have c4 : Calls Tryz.prog 103 #[.int .i64 n, .bool false] W1 fun e w' => e = .returned (.string T) ∧ Below W1.heap.size W1 w' := by rw [hT]; exact cF
  have r3 : ∀ W : World, Calls Tryz.prog 102 #[.slice (some ⟨W.heap.size, 0, none⟩) 1 1] (W.alloc (.cells #[.string T] 9)) (RB W S) := fun W => by rw [hT, hSe]; exact row1b W (textL n false) (by rw [← hSe]; omega)
  replace hT := hi_ hT
  replace hSe := hi_ hSe
  clear cA cD cT cN cv cI cF
  go_wp2_with (first
   | (go_at_call 103; (with_reducible refine c4.mono ?_); rintro e w1 ⟨rfl, hB1⟩; replace hB1 := hi_ hB1)
   | (go_at_call 102; (with_reducible refine (r3 w1).mono ?_); rintro e w2 ⟨A2, c2, rfl, hb2, hA2, hB2⟩; replace hb2 := hi_ hb2; replace hB2 := hi_ hB2; replace hA2 := hi_ hA2)
   | fail)
  go_ret
  exact hup.out _ _ _ (by rw [hS.out]; exact RB.up ⟨A2, c2, rfl, hb2.out, hA2.out, hB2.out⟩ hB1.out)
 by_cases k4 : k = 4
 ·subst k4
  have hS : (Ob.mk 4 n b l d).show = textT b := by simp [Ob.show]
  obtain ⟨S, hSe⟩ : ∃ S, S = textT b := ⟨_, rfl⟩
  rw [← hSe] at hS cT
  have hz := hlen.out _ hS.symm
  replace hSe := hi_ hSe
  replace hS := hi_ hS
  clear cA cD cN cv cI cF
  go_wp2_with (first
   | (go_at_call 104; (with_reducible refine cT.mono ?_); intro e w1 hr; replace hr := hr.rb (by omega); obtain ⟨A2, c2, rfl, hb2, hA2, hB2⟩ := hr; replace hb2 := hi_ hb2; replace hB2 := hi_ hB2; replace hA2 := hi_ hA2)
   | fail)
  go_ret
  exact hup.out _ _ _ (by rw [hS.out]; exact ⟨A2, c2, rfl, hb2.out, hA2.out, hB2.out⟩)
 by_cases k5 : k = 5
 ·subst k5
  have hS : (Ob.mk 5 n b l d).show = nameT b := by simp [Ob.show]
  obtain ⟨S, hSe⟩ : ∃ S, S = nameT b := ⟨_, rfl⟩
  rw [← hSe] at hS cN
  have hz := hlen.out _ hS.symm
  replace hSe := hi_ hSe
  replace hS := hi_ hS
  clear cA cD cT cI cF
  go_wp2_with (first
   | (go_at_call 105; (with_reducible refine cN.mono ?_); intro e w1 hr; replace hr := hr.rb (by omega); obtain ⟨A2, c2, rfl, hb2, hA2, hB2⟩ := hr; replace hb2 := hi_ hb2; replace hB2 := hi_ hB2; replace hA2 := hi_ hA2)
   | fail)
  go_ret
  exact hup.out _ _ _ (by rw [hS.out]; exact ⟨A2, c2, rfl, hb2.out, hA2.out, hB2.out⟩)
 by_cases k9 : k = 9
 ·subst k9
  have hS : (Ob.mk 9 n b l d).show = textL n true ++ [32, 48, 32, 82] := (by simp [Ob.show] : _ = numT n true ++ [32, 48, 32, 82]).trans rfl
  obtain ⟨S, hSe⟩ : ∃ S, S = textL n true ++ [32, 48, 32, 82] := ⟨_, rfl⟩
  rw [← hSe] at hS
  have hz := hlen.out _ hS.symm
  replace hS := hi_ hS
  obtain ⟨T, hT⟩ : ∃ T : ByteArray, T = ⟨(textL n true).toArray⟩ := ⟨_, rfl⟩
  have c4 : Calls Tryz.prog 103 #[.int .i64 n, .bool true] W1 fun e w' => e = .returned (.string T) ∧ Below W1.heap.size W1 w' := by rw [hT]; exact cI
  have r3 : ∀ W : World, Calls Tryz.prog 102 #[.slice (some ⟨W.heap.size, 0, none⟩) 2 2] (W.alloc (.cells #[.string T, .string ⟨#[32, 48, 32, 82]⟩] 9)) (RB W S) := fun W => by rw [hT, hSe]; exact row2b W (textL n true) [32, 48, 32, 82] (by rw [hSe, List.length_append] at hz; simp only [List.length_cons, List.length_nil] at hz ⊢; omega)
  replace hT := hi_ hT
  replace hSe := hi_ hSe
  clear cA cD cT cN cv cF cI
  go_wp2_with (first
   | (go_at_call 103; (with_reducible refine c4.mono ?_); rintro e w1 ⟨rfl, hB1⟩; replace hB1 := hi_ hB1)
   | (go_at_call 102; (with_reducible refine (r3 w1).mono ?_); rintro e w2 ⟨A2, c2, rfl, hb2, hA2, hB2⟩; replace hb2 := hi_ hb2; replace hB2 := hi_ hB2; replace hA2 := hi_ hA2)
   | fail)
  go_ret
  exact hup.out _ _ _ (by rw [hS.out]; exact RB.up ⟨A2, c2, rfl, hb2.out, hA2.out, hB2.out⟩ hB1.out)
 by_cases k6 : k = 6
 ·subst k6
  have hS : (Ob.mk 6 n b l d).show = 91 :: (showL true l ++ [93]) := by simp [Ob.show]
  obtain ⟨S, hSe⟩ : ∃ S, S = 91 :: (showL true l ++ [93]) := ⟨_, rfl⟩
  rw [← hSe] at hS cA
  have hz := hlen.out _ hS.symm
  replace hSe := hi_ hSe
  replace hS := hi_ hS
  clear cD cT cN cv cI cF
  go_wp2_with (first
   | (go_at_call 106; (with_reducible refine cA.mono ?_); intro e w1 hr; replace hr := hr.rb (by omega); obtain ⟨A2, c2, rfl, hb2, hA2, hB2⟩ := hr; replace hb2 := hi_ hb2; replace hB2 := hi_ hB2; replace hA2 := hi_ hA2)
   | fail)
  go_ret
  exact hup.out _ _ _ (by rw [hS.out]; exact ⟨A2, c2, rfl, hb2.out, hA2.out, hB2.out⟩)
 by_cases k7 : k = 7
 ·subst k7
  have hS : (Ob.mk 7 n b l d).show = 60 :: 60 :: (showD d ++ [62, 62]) := by simp [Ob.show]
  obtain ⟨S, hSe⟩ : ∃ S, S = 60 :: 60 :: (showD d ++ [62, 62]) := ⟨_, rfl⟩
  rw [← hSe] at hS cD
  have hz := hlen.out _ hS.symm
  replace hSe := hi_ hSe
  replace hS := hi_ hS
  clear cA cT cN cv cI cF
  go_wp2_with (first
   | (go_at_call 107; (with_reducible refine cD.mono ?_); rintro e w1 ⟨A2, c2, rfl, hb2, hA2, hB2⟩; replace hb2 := hi_ hb2; replace hB2 := hi_ hB2; replace hA2 := hi_ hA2)
   | fail)
  go_ret
  exact hup.out _ _ _ (by rw [hS.out]; exact ⟨A2, c2, rfl, hb2.out, hA2.out, hB2.out⟩)
 by_cases k8 : k = 8
 ·subst k8
  have hS : (Ob.mk 8 n b l d).show = 60 :: 60 :: (showD d ++ [62, 62]) := by simp [Ob.show]
  obtain ⟨S, hSe⟩ : ∃ S, S = 60 :: 60 :: (showD d ++ [62, 62]) := ⟨_, rfl⟩
  rw [← hSe] at hS cD
  have hz := hlen.out _ hS.symm
  replace hSe := hi_ hSe
  replace hS := hi_ hS
  clear cA cT cN cv cI cF
  go_wp2_with (first
   | (go_at_call 107; (with_reducible refine cD.mono ?_); rintro e w1 ⟨A2, c2, rfl, hb2, hA2, hB2⟩; replace hb2 := hi_ hb2; replace hB2 := hi_ hB2; replace hA2 := hi_ hA2)
   | fail)
  go_ret
  exact hup.out _ _ _ (by rw [hS.out]; exact ⟨A2, c2, rfl, hb2.out, hA2.out, hB2.out⟩)
 have hS : (Ob.mk k n b l d).show = [110, 117, 108, 108] := by simp [Ob.show, k1, k2, k3, k4, k5, k6, k7, k8, k9]
 replace hS := hi_ hS
 have f1 : (k == 1) = false := by simpa using k1
 have f2 : (k == 2) = false := by simpa using k2
 have f3 : (k == 3) = false := by simpa using k3
 have f4 : (k == 4) = false := by simpa using k4
 have f5 : (k == 5) = false := by simpa using k5
 have f6 : (k == 6) = false := by simpa using k6
 have f7 : (k == 7) = false := by simpa using k7
 have f8 : (k == 8) = false := by simpa using k8
 have f9 : (k == 9) = false := by simpa using k9
 clear k1 k2 k3 k4 k5 k6 k7 k8 k9 cA cD cT cN cv cI cF
 have cr : Calls Tryz.prog 102 #[.slice (some ⟨W1.heap.size, 0, none⟩) 1 1] (W1.alloc (.cells #[.string ⟨#[110, 117, 108, 108]⟩] 9)) (RB W1 [110, 117, 108, 108]) := row1b W1 _ (by decide)
 go_wp2_with (go_at_call 102; (with_reducible refine cr.mono ?_); rintro e w2 ⟨A2, c2, rfl, hb2, hA2, hB2⟩; replace hb2 := hi_ hb2; replace hB2 := hi_ hB2; replace hA2 := hi_ hA2)
 go_ret
 exact hup.out _ _ _ (by rw [hS.out]; exact ⟨A2, c2, rfl, hb2.out, hA2.out, hB2.out⟩)

/- Parts as one: cursor.Of. No condition. -/
theorem addr_add (b o i : Nat) : (⟨b, o, none⟩ : Addr).add i = ⟨b, o + i, none⟩ := by simp [Addr.add]
theorem byt_holds {w : World} {A : Option Addr} {l : List UInt8} (h : Byt w A l) (c : Nat) : Lib.HoldsBytes w (.slice A l.length c) l := by
 refine ⟨A, c, rfl, ?_, ?_⟩
 ·rintro rfl
  cases l with
  | nil => rfl
  | cons x r => obtain ⟨b, o, e, _⟩ := h.2 (by simp); cases e
 ·rintro a rfl i x hx
  obtain ⟨hi, rfl⟩ := List.getElem?_eq_some_iff.1 hx
  obtain ⟨b, o, e, hc⟩ := h.2 (by omega)
  cases e
  rw [addr_add]
  exact hc i hi
theorem fresh_byt {B : Nat} {w : World} {v : Value} {l : List UInt8} (h : Lib.FreshBytes B w v l) : ∃ A c, v = .slice A l.length c ∧ Byt w A l ∧ (A = none → c = 0) := by
 obtain ⟨g, cap, zs, rfl, hB, hl, hm, hz, hr, hb, hc, _⟩ := h
 refine ⟨_, _, rfl, ⟨by omega, fun _ => ⟨g, 0, rfl, fun i hi => ?_⟩⟩, fun e => (by cases e)⟩
 have h0 := hc i (by omega)
 rw [Nat.zero_add, h0]
 have hzi : i < zs.length := by omega
 have he : l[i]? = some (zs[i].toNat.toUInt8) := by
  have h1 := congrArg (fun L => L[i]?) hb
  simp only [Lib.bytesOf, List.getElem?_map, List.getElem?_take] at h1
  rw [if_pos hi, List.getElem?_eq_getElem hzi] at h1
  exact h1.symm
 rw [List.getElem?_eq_getElem hi] at he
 injection he with he
 obtain ⟨q1, q2⟩ := hr zs[i] (List.getElem_mem hzi)
 rw [he, List.getD_eq_getElem?_getD, List.getElem?_eq_getElem hzi]
 have : (zs[i].toNat.toUInt8).toNat = zs[i].toNat := by
  show zs[i].toNat % 256 = _
  omega
 rw [this]
 simp only [Option.getD_some]
 congr 2
 omega
theorem join_flat (ls : List (List UInt8)) : Lib.join ls [] = ls.flatten := by
 cases ls with
 | nil => rfl
 | cons x r => rw [Lib.join_cons]; simp [Lib.joinTail]
theorem cur_Of (w : World) (g c n : Nat) (ls : List (List UInt8)) (vs : List Value) (hP : Lib.PartsAt w ⟨g, 0, none⟩ vs ls) (hn : ls.length = n) (h2 : 2 ≤ n) (hc : n ≤ c) (hn2 : n ≤ 100) (hl : Lib.lens ls ≤ 70368744177664) :
 Calls Tryz.prog 142 #[.slice (some ⟨g, 0, none⟩) n c] w (RB w ls.flatten) := by
 have cj := Tryz.bytes_Join_many g 0 n c vs ls (.slice none 0 0) [] w hn h2 hP hc ⟨none, 0, rfl, fun _ => rfl, fun a e => (by cases e)⟩ (by omega) (by simp; omega)
 rw [join_flat] at cj
 clear hP
 go_enter Tryz.func142, Tryz.ntmps142
 go_wp2_with (go_at_call 175; (with_reducible refine cj.mono ?_); rintro e w1 ⟨v, rfl, hF, hB⟩; replace hF := hi_ hF; replace hB := hi_ hB)
 go_ret
 obtain ⟨A, c', rfl, h3, h4⟩ := fresh_byt hF.out
 exact ⟨A, c', rfl, h3, h4, hB.out⟩
theorem cur_Of2 (W : World) (A1 A2 : Option Addr) (c1 c2 : Nat) (l1 l2 : List UInt8) (h1 : Byt W A1 l1) (h2 : Byt W A2 l2) (hl : l1.length + l2.length ≤ 1000000000) :
 Calls Tryz.prog 142 #[.slice (some ⟨W.heap.size, 0, none⟩) 2 2] (W.alloc (.cells #[.slice A1 l1.length c1, .slice A2 l2.length c2] 22)) (RB (W.alloc (.cells #[.slice A1 l1.length c1, .slice A2 l2.length c2] 22)) (l1 ++ l2)) := by
 have hb : Below W.heap.size W (W.alloc (.cells #[.slice A1 l1.length c1, .slice A2 l2.length c2] 22)) := (Below.refl _ _).alloc (Nat.le_refl _) _
 have h := cur_Of (W.alloc (.cells #[.slice A1 l1.length c1, .slice A2 l2.length c2] 22)) W.heap.size 2 2 [l1, l2] [.slice A1 l1.length c1, .slice A2 l2.length c2] ⟨rfl, fun i v hv => by
  have h0 := alloc_cell (w := W) (vs := #[.slice A1 l1.length c1, .slice A2 l2.length c2]) (e := 22) (i := i)
  rw [addr_add]
  refine h0.trans ?_
  rw [← hv]
  match i with
  | 0 => rfl
  | 1 => rfl
  | k + 2 => rfl, fun i v l hv hl => by
  match i with
  | 0 => cases hv; cases hl; exact byt_holds (h1.below hb) c1
  | 1 => cases hv; cases hl; exact byt_holds (h2.below hb) c2
  | k + 2 => cases hv⟩ rfl (by omega) (by omega) (by omega) (by simp [Lib.lens]; omega)
 simpa using h
theorem cur_Of4 (W : World) (A1 A2 A3 A4 : Option Addr) (c1 c2 c3 c4 : Nat) (l1 l2 l3 l4 : List UInt8) (h1 : Byt W A1 l1) (h2 : Byt W A2 l2) (h3 : Byt W A3 l3) (h4 : Byt W A4 l4) (hl : l1.length + l2.length + l3.length + l4.length ≤ 1000000000) :
 Calls Tryz.prog 142 #[.slice (some ⟨W.heap.size, 0, none⟩) 4 4] (W.alloc (.cells #[.slice A1 l1.length c1, .slice A2 l2.length c2, .slice A3 l3.length c3, .slice A4 l4.length c4] 22)) (RB (W.alloc (.cells #[.slice A1 l1.length c1, .slice A2 l2.length c2, .slice A3 l3.length c3, .slice A4 l4.length c4] 22)) (l1 ++ (l2 ++ (l3 ++ l4)))) := by
 have hb : Below W.heap.size W (W.alloc (.cells #[.slice A1 l1.length c1, .slice A2 l2.length c2, .slice A3 l3.length c3, .slice A4 l4.length c4] 22)) := (Below.refl _ _).alloc (Nat.le_refl _) _
 have h := cur_Of (W.alloc (.cells #[.slice A1 l1.length c1, .slice A2 l2.length c2, .slice A3 l3.length c3, .slice A4 l4.length c4] 22)) W.heap.size 4 4 [l1, l2, l3, l4] [.slice A1 l1.length c1, .slice A2 l2.length c2, .slice A3 l3.length c3, .slice A4 l4.length c4] ⟨rfl, fun i v hv => by
  have h0 := alloc_cell (w := W) (vs := #[.slice A1 l1.length c1, .slice A2 l2.length c2, .slice A3 l3.length c3, .slice A4 l4.length c4]) (e := 22) (i := i)
  rw [addr_add]
  refine h0.trans ?_
  rw [← hv]
  match i with
  | 0 => rfl
  | 1 => rfl
  | 2 => rfl
  | 3 => rfl
  | k + 4 => rfl, fun i v l hv hl => by
  match i with
  | 0 => cases hv; cases hl; exact byt_holds (h1.below hb) c1
  | 1 => cases hv; cases hl; exact byt_holds (h2.below hb) c2
  | 2 => cases hv; cases hl; exact byt_holds (h3.below hb) c3
  | 3 => cases hv; cases hl; exact byt_holds (h4.below hb) c4
  | k + 4 => cases hv⟩ rfl (by omega) (by omega) (by omega) (by simp [Lib.lens]; omega)
 simpa using h

/- Bytes of entries, by the program. No condition. -/
theorem rowAny (g : Nat) (W : World) (h : W.cell? ⟨g, 0, none⟩ = some (.string ⟨#[32]⟩)) : Calls Tryz.prog 102 #[.slice (some ⟨g, 0, none⟩) 1 1] W (RB W [32]) := by
 have h := prt_row g 0 1 [⟨#[32]⟩] W (fun i hi => by
  match i, hi with
  | 0, _ => exact h) (by decide) (by decide)
 exact h.mono fun e w' hr => hr.rb (by decide)
theorem bulkD_take : ∀ (l : List (List UInt8 × Ob)) (k : Nat), bulkD (l.take k) ≤ bulkD l
 | [], k => by simp [bulkD]
 | o :: r, 0 => by simp [bulkD]
 | o :: r, k + 1 => by have := bulkD_take r k; simp only [List.take_succ_cons, bulkD]; omega
theorem one_cell (w : World) (v : Value) (t : TypeId) : (w.alloc (.cells #[v] t)).cell? ⟨w.heap.size, 0, none⟩ = some v := by
 simp
def GD (p : Nat) (A : Option Addr) (n c : Nat) (K : ByteArray) (ag : Array Value) (nt sh : List UInt8) : Nat → Value → World → Prop := fun j v w => match j with
 | 0 => v = .slice A n c
 | 1 => v = .pointer (some ⟨p, 0, none⟩)
 | 2 => v = .string K
 | 3 => ∃ A c, v = .slice A nt.length c ∧ Byt w A nt
 | 4 => ∃ g, v = .slice (some ⟨g, 0, none⟩) 1 1 ∧ w.cell? ⟨g, 0, none⟩ = some (.string ⟨#[32]⟩)
 | 5 => ∃ A c, v = .slice A 1 c ∧ Byt w A [32]
 | 6 => v = .pointer (some ⟨p, 1, none⟩)
 | 7 => v = .agg ag
 | _ => ∃ A c, v = .slice A sh.length c ∧ Byt w A sh
theorem GD_mono {p : Nat} {A : Option Addr} {n c : Nat} {K : ByteArray} {ag : Array Value} {nt sh : List UInt8} (j : Nat) (v : Value) (w w' : World) (hG : GD p A n c K ag nt sh j v w) (hk : Below w.heap.size w w') : GD p A n c K ag nt sh j v w' := by
 unfold GD at hG ⊢
 split at hG <;> first
  | exact hG
  | (obtain ⟨A, c, e, hb⟩ := hG; exact ⟨A, c, e, hb.below hk⟩)
  | (obtain ⟨g, e, hb⟩ := hG; exact ⟨g, e, (hk.cell (cell_lt hb)).trans hb⟩)
set_option maxHeartbeats 8000000 in
set_option maxRecDepth 100000 in
theorem prt_dict (N : Nat) (hN : N ≤ 1048576) (hs : ShowC N) : DictC N := by
 intro w AD gD oD cD d vd htab hA hl hk hlv hbk
 have zl := bulkD_len d
 have hfit : ∀ e ∈ d, Fits e.2 := fun e he => by obtain ⟨i, hi, rfl⟩ := List.getElem_of_mem he; exact (hl i hi).fits
 have hsl := showD_len d hfit
 obtain ⟨m, hm⟩ : ∃ m, m = d.length := ⟨_, rfl⟩
 rw [← hm] at zl ⊢
 have zm : m ≤ 1048576 := by omega
 have hsl2 : (showD d).length ≤ 41943040 := by omega
 have e41 : 41943050 ≤ maxLen := by unfold maxLen; omega
 have cr : Calls Tryz.prog 102 #[.slice (some ⟨w.heap.size, 0, none⟩) 1 1] (w.alloc (.cells #[.string ⟨#[60, 60]⟩] 9)) (RB w [60, 60]) := row1b w _ (by decide)
 replace hm := hi_ hm
 replace hA := hi_ hA
 replace hl := hi_ hl
 replace hk := hi_ hk
 replace hlv := hi_ hlv
 replace hs := hi_ hs
 replace hfit := hi_ hfit
 replace hsl2 := hi_ hsl2
 replace htab := hi_ htab
 clear hsl
 go_enter Tryz.func107, Tryz.ntmps107
 go_wp2_with (go_at_call 102; (with_reducible refine cr.mono ?_); rintro e w1 ⟨A1, c1, rfl, hb1, hA1, hB1⟩; replace hb1 := hi_ hb1; replace hB1 := hi_ hB1; replace hA1 := hi_ hA1)
 go_loopw [3, 5, 10] (fun s3 _ s10 wr => ∃ (k : Nat) (A : Option Addr) (c : Nat), k ≤ m ∧ s10 = .int .i64 k ∧ s3 = .slice A (60 :: 60 :: showD (d.take k)).length c ∧ Byt wr A (60 :: 60 :: showD (d.take k)) ∧ (A = none → c = 0) ∧ Below w.heap.size w wr) (fun _ _ s10 _ => m - (RowKit.intOf s10).toNat)
 case atStart => exact ⟨0, A1, c1, by omega, rfl, rfl, hb1.out, hA1.out, hB1.out⟩
 case round =>
  obtain ⟨k, A, c, hk0, rfl, rfl, hb, hAc, hB⟩ := hrel
  have lB := hB.size
  by_cases hkm : k < m
  ·have hkl : k < d.length := by rw [← hm.out]; exact hkm
   have hAe := hA.out (by omega)
   subst hAe
   obtain ⟨e, he⟩ : ∃ e, e = d[k] := ⟨_, rfl⟩
   have hob0 := hl.out k hkl
   have hkk0 := (hk.out k hkl).2
   have hcv := hlv.out k hkl
   rw [← he] at hob0 hkk0
   have hz0 := bulkD_at d k hkl
   rw [← he] at hz0
   have hob := hob0.kept hB
   have hsh := show_len e.2 hob.fits
   obtain ⟨us, hus⟩ : ∃ us, us = vd k := ⟨_, rfl⟩
   rw [← hus] at hob hob0 hcv
   obtain ⟨en, E1, E2, E3, en1, ec1, en2, ec2, en3, ec3, hys⟩ := ob_five2 hob
   subst hys
   obtain ⟨kk, hkk⟩ : ∃ k, k = e.2.kind := ⟨_, rfl⟩
   rw [← hkk] at hob hob0 hcv
   obtain ⟨K, hK⟩ : ∃ K, K = bytes e.1 := ⟨_, rfl⟩
   have zK : K.size ≤ 1048576 := by rw [hK, bytes_size]; omega
   have x0 : wr.cell? ⟨gD, oD + k * 6, none⟩ = some (.string K) := by
    have h1 := (hB.cell (cell_lt hkk0)).trans hkk0
    rw [Nat.mul_comm] at h1
    rw [h1, hK]; rfl
   have five : ∀ j u, [Value.int .i64 kk, .int .i64 en, .slice E1 en1 ec1, .slice E2 en2 ec2, .slice E3 en3 ec3][j]? = some u → wr.cell? ⟨gD, oD + k * 6 + 1 + j, none⟩ = some u := fun j u hj => by
    have h0 := hcv j (by have := (List.getElem?_eq_some_iff.1 hj).1; simpa using this)
    rw [hj] at h0
    have h1 := (hB.cell (cell_lt h0)).trans h0
    rw [show oD + (6 * k + 1 + j) = oD + k * 6 + 1 + j by omega] at h1
    exact h1
   have x1 : wr.cell? ⟨gD, oD + k * 6 + 1, none⟩ = some (.int .i64 kk) := five 0 _ rfl
   have x2 : wr.cell? ⟨gD, oD + k * 6 + 2, none⟩ = some (.int .i64 en) := five 1 _ rfl
   have x3 : wr.cell? ⟨gD, oD + k * 6 + 3, none⟩ = some (.slice E1 en1 ec1) := five 2 _ rfl
   have x4 : wr.cell? ⟨gD, oD + k * 6 + 4, none⟩ = some (.slice E2 en2 ec2) := five 3 _ rfl
   have x5 : wr.cell? ⟨gD, oD + k * 6 + 5, none⟩ = some (.slice E3 en3 ec3) := five 4 _ rfl
   clear five hcv hob hus
   replace he := hi_ he
   replace hkk := hi_ hkk
   replace hK := hi_ hK
   replace hob0 := hi_ hob0
   replace hb := hi_ hb
   replace hB := hi_ hB
   replace hAc := hi_ hAc
   replace hsh := hi_ hsh
   clear hkk0
   obtain ⟨S, hS⟩ : ∃ S, S = 60 :: 60 :: showD (d.take k) := ⟨_, rfl⟩
   obtain ⟨R, hR⟩ : ∃ R, R = S ++ (nameT e.1 ++ ([32] ++ e.2.show)) := ⟨_, rfl⟩
   have hR2' : 60 :: 60 :: showD (d.take (k + 1)) = R := by
    rw [hR, hS, List.take_succ_eq_append_getElem hkl, showD_snoc, ← he.out]; rfl
   have hzS : S.length + (nameT e.1).length + 1 + e.2.show.length ≤ 1000000000 := by
    have q1 := showD_len (d.take k) (fun x hx => hfit.out x (List.mem_of_mem_take hx))
    have q2 := bulkD_take d k
    have q3 := nameT_len e.1
    have q4 := hsh.out
    rw [hS]; simp only [List.length_cons]; omega
   replace hR := hi_ hR
   replace hR2' := hi_ hR2'
   replace hzS := hi_ hzS
   rw [← hS] at hb ⊢
   replace hS := hi_ hS
   go_upto_region 5 with (fail)
   obtain ⟨W3, hW3⟩ : ∃ W, W = wr.alloc (.cells #[.string K, .int .i64 kk, .int .i64 en, .slice E1 en1 ec1, .slice E2 en2 ec2, .slice E3 en3 ec3] 91) := ⟨_, rfl⟩
   have hb3 : Below wr.heap.size wr W3 := by rw [hW3]; exact (Below.refl _ _).alloc (Nat.le_refl _) _
   have z3 : W3.heap.size = wr.heap.size + 1 := by rw [hW3, World.size_alloc]
   have ecell : ∀ i v, #[Value.string K, .int .i64 kk, .int .i64 en, .slice E1 en1 ec1, .slice E2 en2 ec2, .slice E3 en3 ec3][i]? = some v → W3.cell? ⟨wr.heap.size, i, none⟩ = some v := by
    intro i v hv
    have h0 := alloc_cell (w := wr) (vs := #[Value.string K, .int .i64 kk, .int .i64 en, .slice E1 en1 ec1, .slice E2 en2 ec2, .slice E3 en3 ec3]) (e := 91) (i := i)
    rw [Nat.zero_add, hv] at h0
    rw [hW3]; exact h0
   rw [← hW3]
   clear x0 x1 x2 x3 x4 x5
   have f0 : W3.cell? ⟨wr.heap.size, 0, none⟩ = some (.string K) := ecell 0 _ rfl
   have f1 : W3.cell? ⟨wr.heap.size, 1, none⟩ = some (.int .i64 kk) := ecell 1 _ rfl
   have f2 : W3.cell? ⟨wr.heap.size, 2, none⟩ = some (.int .i64 en) := ecell 2 _ rfl
   have f3 : W3.cell? ⟨wr.heap.size, 3, none⟩ = some (.slice E1 en1 ec1) := ecell 3 _ rfl
   have f4 : W3.cell? ⟨wr.heap.size, 4, none⟩ = some (.slice E2 en2 ec2) := ecell 4 _ rfl
   have f5 : W3.cell? ⟨wr.heap.size, 5, none⟩ = some (.slice E3 en3 ec3) := ecell 5 _ rfl
   have c12 : ∀ W, Calls Tryz.prog 105 #[.string K] W (RB W (nameT e.1)) := fun W => by
    have h0 := prt_Name K W (by omega)
    rw [hK.out, bytes_list] at h0
    rw [hK.out]
    exact h0.mono fun e' w' hr => hr.rb (by have := nameT_len e.1; unfold maxLen; omega)
   have c31 : ∀ W, Below wr.heap.size wr W → Calls Tryz.prog 76 #[.agg #[.int .i64 kk, .int .i64 en, .slice E1 en1 ec1, .slice E2 en2 ec2, .slice E3 en3 ec3]] W (RB W e.2.show) := fun W hW => hs.out e.2 _ W ((hob0.out.kept hB.out).kept hW) (by omega) (htab.out.below (hB.out.trans (hW.mono lB)))
   clear ecell
   replace c31 := hi_ c31
   have hb3' := hi_ hb3
   clear hb3
   replace hW3 := hi_ hW3
   have c34 : ∀ W : World, Calls Tryz.prog 102 #[.slice (some ⟨W.heap.size, 0, none⟩) 1 1] (W.alloc (.cells #[.string ⟨#[32]⟩] 9)) (RB W [32]) := fun W => row1b W _ (by decide)
   refine wp_lin_tail (by kernel_rfl) [none, none, none, none, none, none, none, none, none, none, none, none, none, none, some 0, some 1, some 2, some 3, some 4, some 5, some 6, some 7, some 8, none, none, none, none, none, none, none, none] (fun w' => Below W3.heap.size W3 w') (fun w' w'' => Below w'.heap.size w' w'') (GD wr.heap.size A S.length c K #[.int .i64 kk, .int .i64 en, .slice E1 en1 ec1, .slice E2 en2 ec2, .slice E3 en3 ec3] (nameT e.1) e.2.show) (by rfl) (by kernel_rfl) 9 _ rfl (by decide) (by kernel_rfl) [9, 2, 3, 9, 5, 9, 7, 8, 9, 0] (by kernel_rfl) ?hR ?mono (.cons 8 (step_of [7, 5] rfl (by kernel_rfl) ?s8) (.cons 7 (step_of [6] rfl (by kernel_rfl) ?s7) (.cons 6 (step_of [] rfl (by kernel_rfl) ?s6) (.cons 5 (step_of [4, 3] rfl (by kernel_rfl) ?s5) (.cons 4 (step_of [] rfl (by kernel_rfl) ?s4) (.cons 3 (step_of [2] rfl (by kernel_rfl) ?s3) (.cons 2 (step_of [1] rfl (by kernel_rfl) ?s2) (.cons 1 (step_of [] rfl (by kernel_rfl) ?s1) (.cons 0 (step_of [] rfl (by kernel_rfl) ?s0) (.nil)))))))))) ?done
   case hR => exact (Below.refl _ _).drew
   case mono => exact GD_mono
   case s0 =>
    intro x w' hRw hd K' hK
    simp only [All, GD] at hd
    simp +decide only [upd, GD, fillL, if_true, if_false] at hK ⊢
    try simp only [hd.1] at hK ⊢
    go_simp
    have hK2 := hK _ _ ⟨hRw, Below.refl _ _, rfl⟩
    exact hK2
   case s1 =>
    intro x w' hRw hd K' hK
    simp only [All, GD] at hd
    simp +decide only [upd, GD, fillL, if_true, if_false] at hK ⊢
    try simp only [hd.1] at hK ⊢
    go_simp
    have hK2 := hK _ _ ⟨hRw, Below.refl _ _, rfl⟩
    exact hK2
   case s2 =>
    intro x w' hRw hd K' hK
    simp only [All, GD] at hd
    have z0 := (hRw.cell (cell_lt f0)).trans f0
    simp +decide only [upd, GD, fillL, if_true, if_false] at hK ⊢
    try simp only [hd.1] at hK ⊢
    go_simp
    have hK2 := hK _ _ ⟨hRw, Below.refl _ _, rfl⟩
    exact hK2
   case s3 =>
    intro x w' hRw hd K' hK
    simp only [All, GD] at hd
    simp +decide only [upd, GD, fillL, if_true, if_false] at hK ⊢
    try simp only [hd.1] at hK ⊢
    go_simp
    refine (c12 w').mono ?_
    rintro e' w2 ⟨A2, c2, rfl, hb2, hA2, hB2⟩
    have hK2 := hK _ _ ⟨bthen hRw hB2, hB2, A2, c2, rfl, hb2⟩
    exact hK2
   case s4 =>
    intro x w' hRw hd K' hK
    simp only [All, GD] at hd
    simp +decide only [upd, GD, fillL, if_true, if_false] at hK ⊢
    try simp only [hd.1] at hK ⊢
    go_simp
    have hK2 := hK _ _ ⟨hRw.alloc hRw.size (.cells #[.string ⟨#[32]⟩] 9), (Below.refl _ _).alloc (Nat.le_refl _) _, _, rfl, one_cell w' _ 9⟩
    exact hK2
   case s5 =>
    intro x w' hRw hd K' hK
    simp only [All, GD] at hd
    obtain ⟨⟨g, e4, hg⟩, _⟩ := hd
    simp +decide only [upd, GD, fillL, if_true, if_false] at hK ⊢
    try simp only [e4] at hK ⊢
    go_simp
    refine (rowAny g w' hg).mono ?_
    rintro e' w2 ⟨A2, c2, rfl, hb2, hA2, hB2⟩
    have hK2 := hK _ _ ⟨bthen hRw hB2, hB2, A2, c2, rfl, hb2⟩
    exact hK2
   case s6 =>
    intro x w' hRw hd K' hK
    simp only [All, GD] at hd
    simp +decide only [upd, GD, fillL, if_true, if_false] at hK ⊢
    try simp only [hd.1] at hK ⊢
    go_simp
    have hK2 := hK _ _ ⟨hRw, Below.refl _ _, rfl⟩
    exact hK2
   case s7 =>
    intro x w' hRw hd K' hK
    simp only [All, GD] at hd
    have z1 := (hRw.cell (cell_lt f1)).trans f1
    have z2 := (hRw.cell (cell_lt f2)).trans f2
    have z3 := (hRw.cell (cell_lt f3)).trans f3
    have z4 := (hRw.cell (cell_lt f4)).trans f4
    have z5 := (hRw.cell (cell_lt f5)).trans f5
    simp +decide only [upd, GD, fillL, if_true, if_false] at hK ⊢
    try simp only [hd.1] at hK ⊢
    go_simp
    have hK2 := hK _ _ ⟨hRw, Below.refl _ _, rfl⟩
    exact hK2
   case s8 =>
    intro x w' hRw hd K' hK
    simp only [All, GD] at hd
    simp +decide only [upd, GD, fillL, if_true, if_false] at hK ⊢
    try simp only [hd.1] at hK ⊢
    go_simp
    refine (c31.out w' (bthen hb3'.out hRw)).mono ?_
    rintro e' w2 ⟨A2, c2, rfl, hb2, hA2, hB2⟩
    have hK2 := hK _ _ ⟨bthen hRw hB2, hB2, A2, c2, rfl, hb2⟩
    exact hK2
   case done =>
    intro x w4 hR2 hG fr hfr
    have g0 := hG 0 (by omega)
    have g3 := hG 3 (by omega)
    have g5 := hG 5 (by omega)
    have g8 := hG 8 (by omega)
    simp only [GD] at g0 g3 g5 g8
    clear hG
    obtain ⟨A2, c2, e3, hb2⟩ := g3
    obtain ⟨A3, c3, e5, hb3⟩ := g5
    obtain ⟨A4, c4, e8, hb4⟩ := g8
    simp only [fillL] at hfr
    rw [g0, e3, e5, e8] at hfr
    subst hfr
    have hD4 : Below wr.heap.size wr w4 := bthen hb3'.out hR2
    have c42 : Calls Tryz.prog 142 #[.slice (some ⟨w4.heap.size, 0, none⟩) 4 4] (w4.alloc (.cells #[.slice A S.length c, .slice A2 (nameT e.1).length c2, .slice A3 1 c3, .slice A4 e.2.show.length c4] 22)) (RB (w4.alloc (.cells #[.slice A S.length c, .slice A2 (nameT e.1).length c2, .slice A3 1 c3, .slice A4 e.2.show.length c4] 22)) R) := (by rw [hR.out]; exact cur_Of4 w4 A A2 A3 A4 c c2 c3 c4 S (nameT e.1) [32] e.2.show (hb.out.below hD4) hb2 hb3 hb4 (by have := hzS.out; simp only [List.length_cons, List.length_nil]; omega))
    replace hD4 := hi_ hD4
    replace hR2 := hi_ hR2
    clear hb2 hb3 hb4
    go_wp2_with (go_at_call 142; (with_reducible refine c42.mono ?_); rintro e' w5 ⟨A5, c5, rfl, hb5, hA5, hB5⟩; have hD5 : Below wr.heap.size wr w5 := bthen hD4.out (bthen ((Below.refl _ _).alloc (Nat.le_refl _) _) hB5); replace hb5 := hi_ hb5; replace hB5 := hi_ hB5; replace hA5 := hi_ hA5; replace hD5 := hi_ hD5)
    go_roundw
    case rel => exact ⟨k + 1, A5, c5, by omega, by go_num, by rw [hR2'.out], by rw [hR2'.out]; exact hb5.out, hA5.out, hB.out.trans (hD5.out.mono lB)⟩
    case measure => simp [RowKit.intOf]; omega
  ·obtain rfl : k = m := by omega
   have hT : d.take k = d := by rw [hm.out, List.take_length]
   rw [hT] at hb ⊢
   obtain ⟨S, hS⟩ : ∃ S, S = 60 :: 60 :: showD d := ⟨_, rfl⟩
   obtain ⟨R, hR⟩ : ∃ R, R = S ++ [62, 62] := ⟨_, rfl⟩
   have hR2 : 60 :: 60 :: (showD d ++ [62, 62]) = R := by rw [hR, hS]; rfl
   have hzS : S.length ≤ 41943042 := by rw [hS]; have := hsl2.out; simp only [List.length_cons]; omega
   rw [← hS] at hb ⊢
   rw [hR2]
   have c34 : Calls Tryz.prog 102 #[.slice (some ⟨wr.heap.size, 0, none⟩) 1 1] (wr.alloc (.cells #[.string ⟨#[62, 62]⟩] 9)) (RB wr [62, 62]) := row1b wr _ (by decide)
   replace hS := hi_ hS
   replace hR := hi_ hR
   replace hR2 := hi_ hR2
   replace hT := hi_ hT
   replace hb := hi_ hb
   replace hB := hi_ hB
   replace hAc := hi_ hAc
   go_wp2_with (first
    | (go_at_call 102; (with_reducible refine c34.mono ?_); rintro e w2 ⟨A2, c2, rfl, hb2, hA2, hB2⟩; have c42 : Calls Tryz.prog 142 #[.slice (some ⟨w2.heap.size, 0, none⟩) 2 2] (w2.alloc (.cells #[.slice A S.length c, .slice A2 2 c2] 22)) (RB (w2.alloc (.cells #[.slice A S.length c, .slice A2 2 c2] 22)) R) := (by rw [hR.out]; exact cur_Of2 w2 A A2 c c2 S [62, 62] (hb.out.below hB2) hb2 (by simp only [List.length_cons, List.length_nil]; omega)); replace hb2 := hi_ hb2; replace hB2 := hi_ hB2; replace hA2 := hi_ hA2)
    | (go_at_call 142; (with_reducible refine c42.mono ?_); rintro e w3 ⟨A3, c3, rfl, hb3, hA3, hB3⟩; replace hb3 := hi_ hb3; replace hB3 := hi_ hB3; replace hA3 := hi_ hA3))
   go_ret
   rw [hR2.out]
   exact ⟨A3, c3, rfl, hb3.out, hA3.out, bthen hB.out (bthen hB2.out (bthen ((Below.refl _ _).alloc (Nat.le_refl _) _) hB3.out))⟩

/- Bytes of an object, by the program; whether it may be. No condition. -/
theorem show_zero : ShowC 0 := fun o vs w _ h _ => by have := bulk_pos o; omega
theorem showC_up : ∀ N, N ≤ 1048576 → ShowC N
 | 0, _ => show_zero
 | N + 1, h => prt_show N h (showC_up N (by omega)) (prt_dict N (by omega) (showC_up N (by omega)))
theorem prt_show_all (o : Ob) (vs : List Value) (w : World) (h : ObAt w o vs) (hb : o.bulk ≤ 1048576) (ht : Tab w) : Calls Tryz.prog 76 #[.agg vs.toArray] w (RB w o.show) :=
 showC_up 1048576 (Nat.le_refl _) o vs w h hb ht
theorem five_cells {w : World} {v0 v1 v2 v3 v4 : Value} {W : World} (hW : W = w.alloc (.cells #[v0, v1, v2, v3, v4] 32)) :
 W.cell? ⟨w.heap.size, 0, none⟩ = some v0 ∧ W.cell? ⟨w.heap.size, 1, none⟩ = some v1 ∧ W.cell? ⟨w.heap.size, 2, none⟩ = some v2 ∧ W.cell? ⟨w.heap.size, 3, none⟩ = some v3 ∧ W.cell? ⟨w.heap.size, 4, none⟩ = some v4 := by
 subst hW
 refine ⟨?_, ?_, ?_, ?_, ?_⟩ <;> simp
theorem five_kept {p : Nat} {v0 v1 v2 v3 v4 : Value} {W W' : World} (h : W.cell? ⟨p, 0, none⟩ = some v0 ∧ W.cell? ⟨p, 1, none⟩ = some v1 ∧ W.cell? ⟨p, 2, none⟩ = some v2 ∧ W.cell? ⟨p, 3, none⟩ = some v3 ∧ W.cell? ⟨p, 4, none⟩ = some v4) (hb : Below W.heap.size W W') :
 W'.cell? ⟨p, 0, none⟩ = some v0 ∧ W'.cell? ⟨p, 1, none⟩ = some v1 ∧ W'.cell? ⟨p, 2, none⟩ = some v2 ∧ W'.cell? ⟨p, 3, none⟩ = some v3 ∧ W'.cell? ⟨p, 4, none⟩ = some v4 :=
 ⟨(hb.cell (cell_lt h.1)).trans h.1, (hb.cell (cell_lt h.2.1)).trans h.2.1, (hb.cell (cell_lt h.2.2.1)).trans h.2.2.1, (hb.cell (cell_lt h.2.2.2.1)).trans h.2.2.2.1, (hb.cell (cell_lt h.2.2.2.2)).trans h.2.2.2.2⟩
set_option maxHeartbeats 4000000 in
set_option maxRecDepth 100000 in
theorem cos_May (o : Ob) (vs : List Value) (w : World) (h : ObAt w o vs) (hbk : o.bulk ≤ 1048576) : Calls Tryz.prog 75 #[.agg vs.toArray] w fun e w' => e = .returned (.bool (o.may 28)) ∧ Below w.heap.size w w' := by
 obtain ⟨en, E1, E2, E3, en1, ec1, en2, ec2, en3, ec3, hys⟩ := ob_five2 h
 subst hys
 obtain ⟨k, hk⟩ : ∃ k, k = o.kind := ⟨_, rfl⟩
 rw [← hk] at h ⊢
 obtain ⟨W1, hW1⟩ : ∃ W, W = w.alloc (.cells #[.int .i64 k, .int .i64 en, .slice E1 en1 ec1, .slice E2 en2 ec2, .slice E3 en3 ec3] 32) := ⟨_, rfl⟩
 have hb1 : Below w.heap.size w W1 := by rw [hW1]; exact (Below.refl _ _).alloc (Nat.le_refl _) _
 have c : Calls Tryz.prog 101 #[.agg #[.int .i64 k, .int .i64 en, .slice E1 en1 ec1, .slice E2 en2 ec2, .slice E3 en3 ec3], .int .i64 28] W1 fun e w' => e = .returned (.bool (o.may 28)) ∧ Below W1.heap.size W1 w' := cos_mayC 28 (by omega) o _ W1 (h.kept hb1) hbk
 obtain ⟨f0, f1, f2, f3, f4⟩ := five_cells hW1
 replace hb1 := hi_ hb1
 clear h hk
 go_enter Tryz.func75, Tryz.ntmps75
 go_upto_region 1 with (fail)
 rw [← hW1]
 replace hW1 := hi_ hW1
 go_wp2_with (go_at_call 101; (with_reducible refine c.mono ?_); rintro e w2 ⟨rfl, hB⟩; replace hB := hi_ hB)
 go_ret
 exact ⟨rfl, bthen hb1.out hB.out⟩
def VR (w : World) (o : Ob) (e : Ending) (w' : World) : Prop := Below w.heap.size w w' ∧ ∃ A c n z, e = .returned (.tuple #[.slice A n c, .int .i64 z]) ∧ (A = none → c = 0) ∧
 ((o.kind ≠ 8 ∧ o.may 28 = true ∧ n = o.show.length ∧ Byt w' A o.show ∧ z = 0) ∨ (¬ (o.kind ≠ 8 ∧ o.may 28 = true) ∧ A = none ∧ n = 0 ∧ z = 1))
set_option maxHeartbeats 4000000 in
set_option maxRecDepth 100000 in
theorem prt_Value (o : Ob) (vs : List Value) (w : World) (h : ObAt w o vs) (hbk : o.bulk ≤ 1048576) (ht : Tab w) : Calls Tryz.prog 42 #[.agg vs.toArray] w (VR w o) := by
 obtain ⟨en, E1, E2, E3, en1, ec1, en2, ec2, en3, ec3, hys⟩ := ob_five2 h
 obtain ⟨k, hk⟩ : ∃ k, k = o.kind := ⟨_, rfl⟩
 rw [← hk] at hys
 subst hys
 obtain ⟨W1, hW1⟩ : ∃ W, W = w.alloc (.cells #[.int .i64 k, .int .i64 en, .slice E1 en1 ec1, .slice E2 en2 ec2, .slice E3 en3 ec3] 32) := ⟨_, rfl⟩
 have hb1 : Below w.heap.size w W1 := by rw [hW1]; exact (Below.refl _ _).alloc (Nat.le_refl _) _
 have c := cos_May o _ W1 (h.kept hb1) hbk
 have c31 := fun W (hW : Below W1.heap.size W1 W) => prt_show_all o _ W (h.kept (bthen hb1 hW)) hbk (ht.below (bthen hb1 hW))
 have f := five_cells hW1
 obtain ⟨f0, f1, f2, f3, f4⟩ := id f
 replace hb1 := hi_ hb1
 replace c31 := hi_ c31
 replace f := hi_ f
 obtain ⟨m, hm⟩ : ∃ m, m = o.may 28 := ⟨_, rfl⟩
 rw [← hm] at c
 clear h
 have hP : ∀ e w', (Below w.heap.size w w' ∧ ∃ A c n z, e = .returned (.tuple #[.slice A n c, .int .i64 z]) ∧ (A = none → c = 0) ∧ ((k ≠ 8 ∧ m = true ∧ n = o.show.length ∧ Byt w' A o.show ∧ z = 0) ∨ (¬ (k ≠ 8 ∧ m = true) ∧ A = none ∧ n = 0 ∧ z = 1))) → VR w o e w' := fun _ _ hh => by unfold VR; rw [← hk, ← hm]; exact hh
 replace hP := hi_ hP
 clear hk hm
 go_enter Tryz.func42, Tryz.ntmps42
 go_upto_region 1 with (fail)
 rw [← hW1]
 replace hW1 := hi_ hW1
 by_cases k8 : k = 8
 ·subst k8
  go_wp2
  go_ret2
  exact hP.out _ _ ⟨hb1.out, none, 0, 0, 1, rfl, fun _ => rfl, .inr ⟨by simp, rfl, rfl, rfl⟩⟩
 ·have q8 : (k == 8) = false := by simpa using k8
  cases m with
  | false =>
   go_wp2_with (go_at_call 75; (with_reducible refine c.mono ?_); rintro e w2 ⟨rfl, hB⟩; replace hB := hi_ hB)
   go_ret2
   exact hP.out _ _ ⟨bthen hb1.out hB.out, none, 0, 0, 1, rfl, fun _ => rfl, .inr ⟨by simp, rfl, rfl, rfl⟩⟩
  | true =>
   go_wp2_with (first
    | (go_at_call 75; (with_reducible refine c.mono ?_); rintro e w2 ⟨rfl, hB⟩; have g := five_kept f.out hB; obtain ⟨g0, g1, g2, g3, g4⟩ := g; have c' := c31.out w2 hB; replace hB := hi_ hB)
    | (go_at_call 76; (with_reducible refine c'.mono ?_); rintro e w3 ⟨A2, c2, rfl, hb2, hA2, hB2⟩; replace hb2 := hi_ hb2; replace hB2 := hi_ hB2; replace hA2 := hi_ hA2))
   go_ret2
   exact hP.out _ _ ⟨bthen hb1.out (bthen hB.out hB2.out), A2, c2, _, 0, rfl, hA2.out, .inl ⟨k8, by trivial, rfl, hb2.out, rfl⟩⟩

/- Bytes of arrays, by the document's own answer. No condition. -/
def RShowC (N : Nat) : Prop := ∀ (o : Ob) (vs : List Value) (w : World), ObAt w o vs → o.bulk ≤ N → Calls Tryz.prog 81 #[.agg vs.toArray] w (RB w o.show)
set_option maxHeartbeats 8000000 in
set_option maxRecDepth 100000 in
theorem ref_arr (N : Nat) (hN : N ≤ 1048576) (hs : RShowC N) (n : Int) (b : List UInt8) (l : List Ob) (d : List (List UInt8 × Ob)) (vs : List Value) (w : World) (h : ObAt w (.mk 6 n b l d) vs) (hbk : bulkL l ≤ N) :
 Calls Tryz.prog 81 #[.agg vs.toArray] w (RB w (91 :: (showL true l ++ [93]))) := by
 have zl := bulkL_len l
 cases h with
 | mk k n b l d A AL AD c cL cD gL oL gD oD vl vd h1 h2 h3 h4 h5 h6 h7 h8 h9 h10 h11 hA hl hlv h15 h16 h17 h18 =>
 have hfit : ∀ o ∈ l, Fits o := fun o ho => by obtain ⟨i, hi, rfl⟩ := List.getElem_of_mem ho; exact (hl i hi).fits
 have hsl := showL_len l hfit true
 obtain ⟨m, hm⟩ : ∃ m, m = l.length := ⟨_, rfl⟩
 rw [← hm] at zl ⊢
 have zm : m ≤ 1048576 := by omega
 have hsl2 : (showL true l).length ≤ 41943040 := by omega
 obtain ⟨W1, hW1⟩ : ∃ W, W = w.alloc (.cells #[.int .i64 6, .int .i64 n, .slice A b.length c, .slice AL m cL, .slice AD d.length cD] 32) := ⟨_, rfl⟩
 have hb1 : Below w.heap.size w W1 := by rw [hW1]; exact (Below.refl _ _).alloc (Nat.le_refl _) _
 have f := five_cells hW1
 obtain ⟨f0, f1, f2, f3, f4⟩ := id f
 have e41 : 41943050 ≤ maxLen := by unfold maxLen; omega
 clear h1 h2 h3 h4 h5 h6 h7 h8 h9 h10 h11 h15 h16 h17 h18
 replace hm := hi_ hm
 replace hA := hi_ hA
 replace hl := hi_ hl
 replace hlv := hi_ hlv
 replace hs := hi_ hs
 replace hfit := hi_ hfit
 replace hsl2 := hi_ hsl2
 replace hb1 := hi_ hb1
 replace f := hi_ f
 clear hsl
 go_enter Tryz.func81, Tryz.ntmps81
 go_upto_region 1 with (fail)
 rw [← hW1]
 replace hW1 := hi_ hW1
 go_wp2
 go_loopw [3, 4] (fun s3 s4 wr => ∃ k : Nat, k ≤ m ∧ s4 = .int .i64 k ∧ Own W1.heap.size wr s3 (91 :: showL true (l.take k)) ∧ Below W1.heap.size W1 wr) (fun _ s4 _ => m - (RowKit.intOf s4).toNat)
 case atStart => exact ⟨0, by omega, rfl, own_new1 W1 91, (Below.refl _ _).alloc (Nat.le_refl _) _⟩
 case round =>
  obtain ⟨k, hk, rfl, hO, hB⟩ := hrel
  have lB := hB.size
  obtain ⟨g0, g1, g2, g3, g4⟩ := five_kept f.out hB
  have hlen : (91 :: showL true (l.take k)).length ≤ 41943041 := by
   have h1 := showL_len (l.take k) (fun o ho => hfit.out o (List.mem_of_mem_take ho)) true
   have h2 := bulkL_take l k
   simp only [List.length_cons]; omega
  by_cases hkm : k < m
  ·have hkl : k < l.length := by rw [← hm.out]; exact hkm
   have hAe := hA.out (by omega)
   subst hAe
   obtain ⟨o, ho⟩ : ∃ o, o = l[k] := ⟨_, rfl⟩
   have hob0 := (hl.out k hkl).kept hb1.out
   have hob := hob0.kept hB
   have hcv := hlv.out k hkl
   rw [← ho] at hob hob0
   have hzo : o.bulk ≤ N := by have := bulkL_at l k hkl; rw [← ho] at this; omega
   have hfo := hob.fits
   have hsh := show_len o hfo
   obtain ⟨us, hus⟩ : ∃ us, us = vl k := ⟨_, rfl⟩
   rw [← hus] at hob hob0 hcv
   obtain ⟨en, E1, E2, E3, en1, ec1, en2, ec2, en3, ec3, hys⟩ := ob_five2 hob
   subst hys
   obtain ⟨kk, hkk⟩ : ∃ k, k = o.kind := ⟨_, rfl⟩
   rw [← hkk] at hob hob0 hcv
   have five : ∀ j u, [Value.int .i64 kk, .int .i64 en, .slice E1 en1 ec1, .slice E2 en2 ec2, .slice E3 en3 ec3][j]? = some u → ∀ W, Below W1.heap.size W1 W → W.cell? ⟨gL, oL + k * 5 + j, none⟩ = some u := fun j u hj W hW => by
    have h0 := hcv j (by have := (List.getElem?_eq_some_iff.1 hj).1; simpa using this)
    rw [hj] at h0
    have h1 := (hb1.out.cell (cell_lt h0)).trans h0
    have h2 := (hW.cell (cell_lt h1)).trans h1
    rw [show oL + (5 * k + j) = oL + k * 5 + j by omega] at h2
    exact h2
   have xs : ∀ W, Below W1.heap.size W1 W → W.cell? ⟨gL, oL + k * 5, none⟩ = some (.int .i64 kk) ∧ W.cell? ⟨gL, oL + k * 5 + 1, none⟩ = some (.int .i64 en) ∧ W.cell? ⟨gL, oL + k * 5 + 2, none⟩ = some (.slice E1 en1 ec1) ∧ W.cell? ⟨gL, oL + k * 5 + 3, none⟩ = some (.slice E2 en2 ec2) ∧ W.cell? ⟨gL, oL + k * 5 + 4, none⟩ = some (.slice E3 en3 ec3) := fun W hW =>
    ⟨five 0 _ rfl W hW, five 1 _ rfl W hW, five 2 _ rfl W hW, five 3 _ rfl W hW, five 4 _ rfl W hW⟩
   have hT : 91 :: showL true (l.take (k + 1)) = (91 :: showL true (l.take k)) ++ ((if k = 0 then [] else [32]) ++ o.show) := by
    rw [List.take_succ_eq_append_getElem hkl, showL_snoc, ← ho, List.cons_append]
    by_cases h0 : k = 0
    ·subst h0; simp
    ·have hne : l.take k ≠ [] := fun h => by
      have := congrArg List.length h
      rw [List.length_take, List.length_nil] at this
      omega
     rw [if_neg (fun h => hne h.2), if_neg h0]
   have c32 : ∀ W, Below W1.heap.size W1 W → Calls Tryz.prog 81 #[.agg #[.int .i64 kk, .int .i64 en, .slice E1 en1 ec1, .slice E2 en2 ec2, .slice E3 en3 ec3]] W (RB W o.show) := fun W hW => hs.out o _ W (hob0.kept hW) hzo
   clear five hcv hob hob0 hus hfo
   replace ho := hi_ ho
   replace hkk := hi_ hkk
   replace hT := hi_ hT
   replace hO := hi_ hO
   replace c32 := hi_ c32
   replace hlen := hi_ hlen
   replace hsh := hi_ hsh
   by_cases h0 : k = 0
   ·have hT2 : 91 :: showL true (l.take (k + 1)) = (91 :: showL true (l.take k)) ++ o.show := by rw [hT.out, if_pos h0, List.nil_append]
    obtain ⟨x0, x1, x2, x3, x4⟩ := xs wr hB
    have c := c32.out wr hB
    clear xs
    rw [h0] at x0 x1 x2 x3 x4
    simp only [Nat.zero_mul, Nat.add_zero] at x0 x1 x2 x3 x4
    replace hT2 := hi_ hT2
    replace hB := hi_ hB
    subst h0
    go_wp2_with (first
     | (go_at_call 81; (with_reducible refine c.mono ?_); rintro e w4 ⟨A4, c4, rfl, hb4, hA4, hB4⟩; have hz4 := hB4.size; have hO4 := hO.out.below hB4; replace hO4 := hi_ hO4; replace hB4 := hi_ hB4; replace hb4 := hi_ hb4)
     | (at_builtin; refine app_b rfl _ _ rfl W1.heap.size _ _ rfl hO4.out A4 _ c4 _ rfl rfl hb4.out hA4 (by have q1 := hlen.out; have q2 := hsh.out; omega) (by omega) ?_; intro v' w5 hO5 hB5; replace hO5 := hi_ hO5; replace hB5 := hi_ hB5))
    go_roundw
    case rel => exact ⟨0 + 1, by omega, by go_num, by rw [hT2.out]; exact hO5.out, (hB.out.trans (hB4.out.mono lB)).trans hB5.out⟩
    case measure => simp [RowKit.intOf]; omega
   ·have hT2 : 91 :: showL true (l.take (k + 1)) = ((91 :: showL true (l.take k)) ++ [32]) ++ o.show := by rw [hT.out, if_neg h0, List.append_assoc]
    have hkp : decide ((0 : Int) < (k : Int)) = true := by simp; omega
    have hO32 := hO.out.below ((Below.refl _ _).alloc (Nat.le_refl _) (.cells #[.int .u8 ((32 : UInt8).toNat : Int)] 5))
    have hWa : Below W1.heap.size W1 (wr.alloc (.cells #[.int .u8 ((32 : UInt8).toNat : Int)] 5)) := hB.trans (((Below.refl _ _).alloc (Nat.le_refl _) _).mono lB)
    replace hWa := hi_ hWa
    replace hT2 := hi_ hT2
    replace hO32 := hi_ hO32
    replace hB := hi_ hB
    replace xs := hi_ xs
    go_wp2_with (first
     | (at_builtin; refine app_b rfl _ _ rfl W1.heap.size _ _ rfl hO32.out (some ⟨wr.heap.size, 0, none⟩) 1 1 [32] rfl rfl (byt_new1 wr 32 5) (fun e => (by cases e)) (by have q1 := hlen.out; simp only [List.length_cons, List.length_nil] at q1 ⊢; omega) (by rw [World.size_alloc]; omega) ?_; intro v' w5 hO5 hB5; have hw5 : Below W1.heap.size W1 w5 := hWa.out.trans hB5; have c := c32.out w5 hw5; obtain ⟨e0, e1, e2, e3, e4⟩ := five_kept f.out hw5; obtain ⟨x0, x1, x2, x3, x4⟩ := xs.out w5 hw5; have hz5 := hw5.size; replace hO5 := hi_ hO5; replace hB5 := hi_ hB5; replace hw5 := hi_ hw5)
     | (go_at_call 81; (with_reducible refine c.mono ?_); rintro e w4 ⟨A4, c4, rfl, hb4, hA4, hB4⟩; have hw4 := bthen hw5.out hB4; have hz4 := hw4.size; have hO4 := hO5.out.below hB4; replace hw4 := hi_ hw4; replace hb4 := hi_ hb4; replace hO4 := hi_ hO4; clear hB4)
     | (at_builtin; refine app_b rfl _ _ rfl W1.heap.size _ _ rfl hO4.out A4 _ c4 _ rfl rfl hb4.out hA4 (by have q1 := hlen.out; have q2 := hsh.out; rw [List.length_append]; simp only [List.length_cons, List.length_nil] at q1 ⊢; omega) (by omega) ?_; intro v'' w6 hO6 hB6; replace hO6 := hi_ hO6; replace hB6 := hi_ hB6))
    go_roundw
    case rel => exact ⟨k + 1, by omega, by go_num, by rw [hT2.out]; exact hO6.out, hw4.out.trans hB6.out⟩
    case measure => simp [RowKit.intOf]; omega
  ·obtain rfl : k = m := by omega
   have hT : l.take k = l := by rw [hm.out, List.take_length]
   rw [hT] at hO
   have hO2 := hi_ hO
   have hB2 := hi_ hB
   replace hT := hi_ hT
   clear hO hB hlen
   go_wp2_with (at_builtin; refine app_b rfl _ _ rfl W1.heap.size _ _ rfl (hO2.out.below ((Below.refl _ _).alloc (Nat.le_refl _) _)) (some ⟨wr.heap.size, 0, none⟩) 1 1 [93] rfl rfl (byt_new1 wr 93 5) (fun e => (by cases e)) (by have q := hsl2.out; simp only [List.length_cons, List.length_nil]; omega) (by rw [World.size_alloc]; omega) ?_; intro v' w2 hO3 hB3; replace hO3 := hi_ hO3; replace hB3 := hi_ hB3)
   go_ret
   obtain ⟨A', c', rfl, p1, p2⟩ := hO3.out.out (by have q := hsl2.out; simp only [List.length_cons, List.length_append, List.length_nil]; omega)
   exact ⟨A', c', by simp, by simpa using p1, p2, bthen hb1.out ((hB2.out.alloc lB _).trans hB3.out)⟩

/- Bytes appended to a constant's bytes. No condition. -/
def OwnX (B : Nat) (w : World) (v : Value) (bs : List UInt8) : Prop := Own B w v bs ∨ ∃ g, v = .slice (some ⟨g, 0, none⟩) bs.length bs.length ∧ g < w.heap.size ∧ Byt w (some ⟨g, 0, none⟩) bs
theorem OwnX.below {B : Nat} {w w' : World} {v : Value} {bs : List UInt8} (h : OwnX B w v bs) (hb : Below w.heap.size w w') : OwnX B w' v bs := by
 rcases h with h | ⟨g, h1, h2, h3⟩
 ·exact .inl (h.below hb)
 ·exact .inr ⟨g, h1, Nat.lt_of_lt_of_le h2 hb.size, h3.below hb⟩
theorem app_x {w : World} {ops : Array Oper} {rest : List Oper} {o : Oper} {a : Act} {Q : Exit → Act → World → Prop} (hgd : o.guard = none) (s x : Operand)
 (ho : o.op = .call { callee := .builtin .append, args := #[s, x], argTypes := #[22, 22] }) (B : Nat) (v : Value) (out : List UInt8) (hs : a.eval s = v) (hown : OwnX B w v out)
 (A : Option Addr) (n c : Nat) (bs : List UInt8) (hx : a.eval x = .slice A n c) (hn : n = bs.length) (hp : 0 < bs.length) (hb : Byt w A bs) (hA : A = none → c = 0) (hl : out.length + bs.length ≤ 70368744177664) (hB : B ≤ w.heap.size)
 (h : ∀ v' w', Own B w' v' (out ++ bs) → Below B w w' → wpList Tryz.prog ops Q rest (a.put o.dst v') w') : wpList Tryz.prog ops Q (o :: rest) a w := by
 rcases hown with hown | ⟨g, hv, hg, hby⟩
 ·exact app_b hgd s x ho B v out hs hown A n c bs hx hn hb hA hl hB h
 obtain ⟨i0, hi, hz0, hz1, hz2⟩ := byte_info
 subst hv
 obtain ⟨b, off, rfl, _⟩ := hb.2 hp
 refine wpList_plain hgd fun K hK => ?_
 have hr := run_append_grow (P := Tryz.prog) w 22 o.type 5 i0 (.int .u8 0) Tryz.underlying22 hi hz0 ⟨g, 0, none⟩ out.length out.length (valsB out) (by rw [hz1, valsB_len, Nat.mul_one]) hby.news ⟨b, off, none⟩ n c (valsB bs) (by rw [valsB_len, hz1, hn, Nat.mul_one]) hb.news (by omega) (by omega) (growslice_fits (by omega) (by rw [hz2]; omega))
 unfold Oper.wp execOp
 simp only [ho, resolve, invoke, builtin, Sem.run_bind, Sem.run_pure, Result.andThen_ok, List.map_toArray, List.map_cons, List.map_nil, hs, hx, hr]
 have hge := grownCap_ge w (out.length + n) out.length 5
 refine hK _ _ (h _ _ ⟨?_, .inr ⟨w.heap.size, grownCap w (out.length + n) out.length 5, ((valsB out).toArray ++ (valsB bs).toArray ++ Builtin.zeroCells (Value.int IntKind.u8 0).cells (grownCap w (out.length + n) out.length 5 - (out.length + n))), ?_, hB, heap_alloc_new w.drew _, ?_, grownCap_le_maxLen w _ _ _ (by unfold maxLen; omega), ?_, ?_⟩⟩ ((Below.refl _ _ |>.mono hB).drew.alloc hB _))
 ·rw [valsB_len, Nat.mul_one]
 ·rw [List.length_append, ← hn]
 ·rw [List.length_append, ← hn]; exact hge
 ·have hz : (Value.int IntKind.u8 0).cells.size = 1 := rfl
  simp only [Array.size_append, List.size_toArray, size_zeroCells, hz, valsB_len]
  omega
 ·simp only [Array.toList_append, List.append_assoc]
  rw [← List.append_assoc, valsB_app, List.take_left' (by simp [valsB_len])]
theorem app_xs {w : World} {ops : Array Oper} {rest : List Oper} {o : Oper} {a : Act} {Q : Exit → Act → World → Prop} (hgd : o.guard = none) (s x : Operand)
 (ho : o.op = .call { callee := .builtin .append, args := #[s, x], argTypes := #[22, 9] }) (B : Nat) (v : Value) (out : List UInt8) (hs : a.eval s = v) (hown : OwnX B w v out)
 (S : ByteArray) (bs : List UInt8) (hx : a.eval x = .string S) (hS : S.data.toList = bs) (hp : 0 < bs.length) (hl : out.length + bs.length ≤ 70368744177664) (hB : B ≤ w.heap.size)
 (h : ∀ v' w', Own B w' v' (out ++ bs) → Below B w w' → wpList Tryz.prog ops Q rest (a.put o.dst v') w') : wpList Tryz.prog ops Q (o :: rest) a w := by
 rcases hown with hown | ⟨g, hv, hg, hby⟩
 ·exact app_s hgd s x ho B v out hs hown S bs hx hS hl hB h
 obtain ⟨i0, hi, hz0, hz1, hz2⟩ := byte_info
 subst hv hS
 have hlen : S.data.toList.length = S.size := Array.length_toList
 refine wpList_plain hgd fun K hK => ?_
 have hr := Lib.run_append_grow_string (P := Tryz.prog) w 22 9 o.type 5 i0 (.int .u8 0) Tryz.underlying22 Tryz.underlying9 hi hz0 ⟨g, 0, none⟩ out.length out.length (valsB out) (by rw [hz1, valsB_len, Nat.mul_one]) hby.news S (by omega) (by omega) (growslice_fits (by omega) (by rw [hz2]; omega))
 unfold Oper.wp execOp
 simp only [ho, resolve, invoke, builtin, Sem.run_bind, Sem.run_pure, Result.andThen_ok, List.map_toArray, List.map_cons, List.map_nil, hs, hx, hr]
 have hge := grownCap_ge w (out.length + S.size) out.length 5
 have e : Lib.strCells S = valsB S.data.toList := rfl
 rw [e]
 refine hK _ _ (h _ _ ⟨?_, .inr ⟨w.heap.size, grownCap w (out.length + S.size) out.length 5, ((valsB out).toArray ++ (valsB S.data.toList).toArray ++ Builtin.zeroCells (Value.int IntKind.u8 0).cells (grownCap w (out.length + S.size) out.length 5 - (out.length + S.size))), ?_, hB, heap_alloc_new w.drew _, ?_, grownCap_le_maxLen w _ _ _ (by unfold maxLen; omega), ?_, ?_⟩⟩ ((Below.refl _ _ |>.mono hB).drew.alloc hB _))
 ·rw [valsB_len, Nat.mul_one]
 ·rw [List.length_append, hlen]
 ·rw [List.length_append, hlen]; exact hge
 ·have hz : (Value.int IntKind.u8 0).cells.size = 1 := rfl
  simp only [Array.size_append, List.size_toArray, size_zeroCells, hz, valsB_len]
  omega
 ·simp only [Array.toList_append, List.append_assoc]
  rw [← List.append_assoc, valsB_app, List.take_left' (by simp [valsB_len])]
theorem conv_const (w : World) (C : Array Value) (n c : Nat) : (convert 22 22 (.slice (some ⟨w.heap.size, 0, none⟩) n c)).run Tryz.prog (w.alloc (.cells C 5)) = .ok (.slice (some ⟨w.heap.size, 0, none⟩) n c) (w.alloc (.cells C 5 (C.size, C.size + 1))) :=
 Lib.run_convert_bytes_const w 22 5 C n c Tryz.underlying22 Tryz.underlying5
theorem byt_mark (w : World) (l : List UInt8) (C : Array Value) (m : Nat × Nat) (hC : C = (valsB l).toArray) (hl : l.length ≤ maxLen) : Byt (w.alloc (.cells C 5 m)) (some ⟨w.heap.size, 0, none⟩) l := by
 subst hC
 refine ⟨hl, fun _ => ⟨_, 0, rfl, fun i hi => ?_⟩⟩
 have : (w.alloc (.cells (valsB l).toArray 5 m)).cell? ⟨w.heap.size, 0 + i, none⟩ = (valsB l)[i]? := by
  rw [Nat.zero_add, Lib.cell_of_heap (heap_alloc_new w (.cells (valsB l).toArray 5 m))]; simp
 rw [this]
 simp [valsB, hi]
theorem below_mark (w : World) (C : Array Value) (m : Nat × Nat) : Below w.heap.size w (w.alloc (.cells C 5 m)) := (Below.refl _ _).alloc (Nat.le_refl _) _

/- Bytes of entries, by the document's own answer. No condition. -/
theorem OwnX.rb {B : Nat} {w : World} {v : Value} {bs : List UInt8} (h : Own B w v bs) : OwnX B w v bs := .inl h
set_option maxHeartbeats 8000000 in
set_option maxRecDepth 100000 in
theorem ref_dict (N : Nat) (hN : N ≤ 1048576) (hs : RShowC N) (k : Int) (hk78 : k = 7 ∨ k = 8) (n : Int) (b : List UInt8) (l : List Ob) (d : List (List UInt8 × Ob)) (vs : List Value) (w : World) (h : ObAt w (.mk k n b l d) vs) (hbk : bulkD d ≤ N) :
 Calls Tryz.prog 81 #[.agg vs.toArray] w (RB w (60 :: 60 :: (showD d ++ [62, 62]))) := by
 have zl := bulkD_len d
 cases h with
 | mk k n b l d A AL AD c cL cD gL oL gD oD vl vd h1 h2 h3 h4 h5 h6 h7 h8 h9 h10 h11 h12 h13 h14 hA hl hkey hlv =>
 have hfit : ∀ e ∈ d, Fits e.2 := fun e he => by obtain ⟨i, hi, rfl⟩ := List.getElem_of_mem he; exact (hl i hi).fits
 have hsl := showD_len d hfit
 obtain ⟨m, hm⟩ : ∃ m, m = d.length := ⟨_, rfl⟩
 rw [← hm] at zl ⊢
 have zm : m ≤ 1048576 := by omega
 have hsl2 : (showD d).length ≤ 41943040 := by omega
 obtain ⟨W1, hW1⟩ : ∃ W, W = w.alloc (.cells #[.int .i64 k, .int .i64 n, .slice A b.length c, .slice AL l.length cL, .slice AD m cD] 32) := ⟨_, rfl⟩
 have hb1 : Below w.heap.size w W1 := by rw [hW1]; exact (Below.refl _ _).alloc (Nat.le_refl _) _
 have f := five_cells hW1
 obtain ⟨f0, f1, f2, f3, f4⟩ := id f
 have e41 : 41943050 ≤ maxLen := by unfold maxLen; omega
 obtain ⟨W2, hW2⟩ : ∃ W, W = W1.alloc (.cells #[.int .u8 60, .int .u8 60] 5 (2, 3)) := ⟨_, rfl⟩
 have cc : (convert 22 22 (.slice (some ⟨W1.heap.size, 0, none⟩) 2 2)).run Tryz.prog (W1.alloc (.cells #[.int .u8 60, .int .u8 60] 5)) = .ok (.slice (some ⟨W1.heap.size, 0, none⟩) 2 2) W2 := by
  rw [hW2]; exact conv_const W1 #[.int .u8 60, .int .u8 60] 2 2
 have hb2 : Below W1.heap.size W1 W2 := by rw [hW2]; exact below_mark _ _ _
 have hX0 : OwnX W2.heap.size W2 (.slice (some ⟨W1.heap.size, 0, none⟩) 2 2) [60, 60] := .inr ⟨_, rfl, by rw [hW2, World.size_alloc]; omega, by rw [hW2]; exact byt_mark W1 [60, 60] _ _ rfl (by decide)⟩
 have q0 := five_kept f hb2
 obtain ⟨r0, r1, r2, r3, r4⟩ := id q0
 clear h1 h2 h3 h4 h5 h6 h7 h8 h9 h10 h11 h12 h13 h14
 replace hm := hi_ hm
 replace hA := hi_ hA
 replace hl := hi_ hl
 replace hkey := hi_ hkey
 replace hlv := hi_ hlv
 replace hs := hi_ hs
 replace hfit := hi_ hfit
 replace hsl2 := hi_ hsl2
 replace hb1 := hi_ hb1
 replace hb2 := hi_ hb2
 replace hW2 := hi_ hW2
 replace hX0 := hi_ hX0
 replace f := hi_ f
 replace q0 := hi_ q0
 clear hsl
 go_enter Tryz.func81, Tryz.ntmps81
 go_upto_region 1 with (fail)
 rw [← hW1]
 replace hW1 := hi_ hW1
 rcases hk78 with rfl | rfl
 all_goals
  go_wp2
  go_loopw [5, 6] (fun s5 s6 wr => ∃ k : Nat, k ≤ m ∧ s6 = .int .i64 k ∧ OwnX W2.heap.size wr s5 (60 :: 60 :: showD (d.take k)) ∧ Below W2.heap.size W2 wr) (fun _ s6 _ => m - (RowKit.intOf s6).toNat)
  case atStart => exact ⟨0, by omega, rfl, hX0.out, Below.refl _ _⟩
  case round =>
   obtain ⟨k, hk0, rfl, hX, hB⟩ := hrel
   have lB := hB.size
   obtain ⟨g0, g1, g2, g3, g4⟩ := five_kept q0.out hB
   have hlen : (60 :: 60 :: showD (d.take k)).length ≤ 41943042 := by
    have h1 := showD_len (d.take k) (fun x hx => hfit.out x (List.mem_of_mem_take hx))
    have h2 := bulkD_take d k
    simp only [List.length_cons]; omega
   by_cases hkm : k < m
   ·have hkl : k < d.length := by rw [← hm.out]; exact hkm
    have hAe := hA.out (by omega)
    subst hAe
    obtain ⟨e, he⟩ : ∃ e, e = d[k] := ⟨_, rfl⟩
    have hb12 := bthen hb1.out hb2.out
    have hob0 := (hl.out k hkl).kept hb12
    have hkk0 := (hkey.out k hkl).2
    have hcv := hlv.out k hkl
    rw [← he] at hob0 hkk0
    have hz0 := bulkD_at d k hkl
    rw [← he] at hz0
    have hsh := show_len e.2 hob0.fits
    obtain ⟨us, hus⟩ : ∃ us, us = vd k := ⟨_, rfl⟩
    rw [← hus] at hob0 hcv
    obtain ⟨en, E1, E2, E3, en1, ec1, en2, ec2, en3, ec3, hys⟩ := ob_five2 hob0
    subst hys
    obtain ⟨kk, hkk⟩ : ∃ k, k = e.2.kind := ⟨_, rfl⟩
    rw [← hkk] at hob0 hcv
    obtain ⟨K, hK⟩ : ∃ K, K = bytes e.1 := ⟨_, rfl⟩
    have zK : K.size ≤ 1048576 := by rw [hK, bytes_size]; omega
    have zN := nameT_len e.1
    have kp : ∀ W, Below W2.heap.size W2 W → W.cell? ⟨gD, oD + k * 6, none⟩ = some (.string K) := fun W hW => by
     have h1 := (hb12.cell (cell_lt hkk0)).trans hkk0
     have h2 := (hW.cell (cell_lt h1)).trans h1
     rw [Nat.mul_comm] at h2
     rw [h2, hK]; rfl
    have five : ∀ j u, [Value.int .i64 kk, .int .i64 en, .slice E1 en1 ec1, .slice E2 en2 ec2, .slice E3 en3 ec3][j]? = some u → ∀ W, Below W2.heap.size W2 W → W.cell? ⟨gD, oD + k * 6 + 1 + j, none⟩ = some u := fun j u hj W hW => by
     have h0 := hcv j (by have := (List.getElem?_eq_some_iff.1 hj).1; simpa using this)
     rw [hj] at h0
     have h1 := (hb12.cell (cell_lt h0)).trans h0
     have h2 := (hW.cell (cell_lt h1)).trans h1
     rw [show oD + (6 * k + 1 + j) = oD + k * 6 + 1 + j by omega] at h2
     exact h2
    have xs : ∀ W, Below W2.heap.size W2 W → W.cell? ⟨gD, oD + k * 6 + 1, none⟩ = some (.int .i64 kk) ∧ W.cell? ⟨gD, oD + k * 6 + 2, none⟩ = some (.int .i64 en) ∧ W.cell? ⟨gD, oD + k * 6 + 3, none⟩ = some (.slice E1 en1 ec1) ∧ W.cell? ⟨gD, oD + k * 6 + 4, none⟩ = some (.slice E2 en2 ec2) ∧ W.cell? ⟨gD, oD + k * 6 + 5, none⟩ = some (.slice E3 en3 ec3) := fun W hW =>
     ⟨five 0 _ rfl W hW, five 1 _ rfl W hW, five 2 _ rfl W hW, five 3 _ rfl W hW, five 4 _ rfl W hW⟩
    have hT : 60 :: 60 :: showD (d.take (k + 1)) = (((60 :: 60 :: showD (d.take k)) ++ nameT e.1) ++ [32]) ++ e.2.show := by
     rw [List.take_succ_eq_append_getElem hkl, showD_snoc, ← he]; simp
    have c13 : Calls Tryz.prog 118 #[.string K] wr (RB wr (nameT e.1)) := by
     have h0 := ref_PrintName K wr (by omega)
     rw [hK, bytes_list] at h0
     rw [hK]
     exact h0.mono fun e' w' hr => hr.rb (by unfold maxLen; omega)
    have c32 : ∀ W, Below W2.heap.size W2 W → Calls Tryz.prog 81 #[.agg #[.int .i64 kk, .int .i64 en, .slice E1 en1 ec1, .slice E2 en2 ec2, .slice E3 en3 ec3]] W (RB W e.2.show) := fun W hW => hs.out e.2 _ W (hob0.kept hW) (by omega)
    have y0 := kp wr hB
    have hzS : (60 :: 60 :: showD (d.take k)).length + (nameT e.1).length + 1 + e.2.show.length ≤ 1000000000 := by omega
    have hNp : 0 < (nameT e.1).length := by simp [nameT]
    obtain ⟨S, hS⟩ : ∃ S, S = 60 :: 60 :: showD (d.take k) := ⟨_, rfl⟩
    obtain ⟨NT, hNT⟩ : ∃ S, S = nameT e.1 := ⟨_, rfl⟩
    obtain ⟨SH, hSH⟩ : ∃ S, S = e.2.show := ⟨_, rfl⟩
    rw [← hS, ← hNT, ← hSH] at hzS hT
    rw [← hNT] at c13 hNp
    rw [← hSH] at c32
    rw [← hS] at hX
    clear five hcv hob0 hus kp hlen hkk0 hb12
    replace hS := hi_ hS
    replace hNT := hi_ hNT
    replace hSH := hi_ hSH
    replace hNp := hi_ hNp
    replace hzS := hi_ hzS
    replace he := hi_ he
    replace hkk := hi_ hkk
    replace hK := hi_ hK
    replace hT := hi_ hT
    replace hX := hi_ hX
    replace hB := hi_ hB
    replace c32 := hi_ c32
    replace hsh := hi_ hsh
    replace xs := hi_ xs
    go_wp2_with (first
     | (go_at_call 118; (with_reducible refine c13.mono ?_); rintro e' w2 ⟨A2, c2, rfl, hb2', hA2, hB2⟩; have hz2 := hB2.size; have hX2 := hX.out.below hB2; replace hX2 := hi_ hX2; replace hB2 := hi_ hB2; replace hb2' := hi_ hb2'; replace hA2 := hi_ hA2)
     | (at_builtin; refine app_x rfl _ _ rfl W2.heap.size _ _ rfl hX2.out A2 _ c2 _ rfl rfl hNp.out hb2'.out hA2.out (by have := hzS.out; omega) (by omega) ?_; intro v3 w3 hO3 hB3; have hz3 := hB3.size; have hB3' : Below W2.heap.size W2 w3 := (hB.out.trans (hB2.out.mono lB)).trans hB3; have hO3' := hO3.below ((Below.refl _ _).alloc (Nat.le_refl _) (.cells #[.int .u8 ((32 : UInt8).toNat : Int)] 5)); replace hO3' := hi_ hO3'; replace hB3' := hi_ hB3'; clear hO3 hX2)
     | (at_builtin; refine app_b rfl _ _ rfl W2.heap.size _ _ rfl hO3'.out (some ⟨w3.heap.size, 0, none⟩) 1 1 [32] rfl rfl (byt_new1 w3 32 5) (fun e => (by cases e)) (by have := hzS.out; simp only [List.length_append, List.length_cons, List.length_nil]; omega) (by rw [World.size_alloc]; omega) ?_; intro v4 w4 hO4 hB4; have hB4' : Below W2.heap.size W2 w4 := (hB3'.out.trans (((Below.refl _ _).alloc (Nat.le_refl _) _).mono hB3'.out.size)).trans hB4; have c := c32.out w4 hB4'; obtain ⟨e0, e1, e2, e3, e4⟩ := five_kept q0.out hB4'; obtain ⟨x1, x2, x3, x4, x5⟩ := xs.out w4 hB4'; have hz4 := hB4'.size; replace hO4 := hi_ hO4; replace hB4' := hi_ hB4'; clear hO3')
     | (go_at_call 81; (with_reducible refine c.mono ?_); rintro e' w5 ⟨A5, c5, rfl, hb5, hA5, hB5⟩; have hz5 := hB5.size; have hO5 := hO4.out.below hB5; have hB5' := bthen hB4'.out hB5; replace hB5' := hi_ hB5'; replace hb5 := hi_ hb5; replace hO5 := hi_ hO5; clear hB5)
     | (at_builtin; refine app_b rfl _ _ rfl W2.heap.size _ _ rfl hO5.out A5 _ c5 _ rfl rfl hb5.out hA5 (by have := hzS.out; simp only [List.length_append, List.length_cons, List.length_nil]; omega) (by omega) ?_; intro v6 w6 hO6 hB6; replace hO6 := hi_ hO6; replace hB6 := hi_ hB6))
    go_roundw
    case rel => exact ⟨k + 1, by omega, by go_num, by rw [hT.out]; exact .inl hO6.out, hB5'.out.trans hB6.out⟩
    case measure => simp [RowKit.intOf]; omega
   ·obtain rfl : k = m := by omega
    have hT : d.take k = d := by rw [hm.out, List.take_length]
    rw [hT] at hX
    have hX2 := hi_ hX
    have hB2 := hi_ hB
    replace hT := hi_ hT
    clear hX hB hlen
    go_wp2_with (at_builtin; refine app_xs rfl _ _ rfl W2.heap.size _ _ rfl hX2.out ⟨#[62, 62]⟩ [62, 62] rfl rfl (by decide) (by have q := hsl2.out; simp only [List.length_cons, List.length_nil]; omega) (by omega) ?_; intro v' w2 hO3 hB3; replace hO3 := hi_ hO3; replace hB3 := hi_ hB3)
    go_ret
    obtain ⟨A', c', rfl, p1, p2⟩ := hO3.out.out (by have q := hsl2.out; simp only [List.length_cons, List.length_append, List.length_nil]; omega)
    exact ⟨A', c', by simp, by simpa using p1, p2, bthen hb1.out (bthen hb2.out (hB2.out.trans hB3.out))⟩

/- Bytes of an object, by the document's own answer. No condition. -/
set_option maxHeartbeats 8000000 in
set_option maxRecDepth 100000 in
theorem ref_show (N : Nat) (hN : N + 1 ≤ 1048576) (hs : RShowC N) : RShowC (N + 1) := by
 intro o vs w hob hbk
 have hsh := show_len o hob.fits
 have cA : ∀ n b l d, o = .mk 6 n b l d → Calls Tryz.prog 81 #[.agg vs.toArray] w (RB w o.show) := fun n b l d e => by
  subst e
  have h := ref_arr N (by omega) hs n b l d vs w hob (by simp only [Ob.bulk] at hbk; omega)
  simpa [Ob.show] using h
 have cD : ∀ k n b l d, o = .mk k n b l d → (k = 7 ∨ k = 8) → Calls Tryz.prog 81 #[.agg vs.toArray] w (RB w o.show) := fun k n b l d e hk => by
  subst e
  have h := ref_dict N (by omega) hs k hk n b l d vs w hob (by simp only [Ob.bulk] at hbk; omega)
  rcases hk with rfl | rfl <;> simpa [Ob.show] using h
 cases hob with
 | mk k n b l d A AL AD c cL cD' gL oL gD oD vl vd h1 h2 h3 h4 h5 h6 h7 h8 h9 h10 h11 h12 h13 h14 h15 h16 h17 h18 =>
 by_cases k6 : k = 6
 ·subst k6; exact cA n b l d rfl
 by_cases k78 : k = 7 ∨ k = 8
 ·exact cD k n b l d rfl k78
 have k7 : k ≠ 7 := fun e => k78 (.inl e)
 have k8 : k ≠ 8 := fun e => k78 (.inr e)
 clear cA cD k78
 obtain ⟨W1, hW1⟩ : ∃ W, W = w.alloc (.cells #[.int .i64 k, .int .i64 n, .slice A b.length c, .slice AL l.length cL, .slice AD d.length cD'] 32) := ⟨_, rfl⟩
 have hb1 : Below w.heap.size w W1 := by rw [hW1]; exact (Below.refl _ _).alloc (Nat.le_refl _) _
 have hup : ∀ bs e w', RB W1 bs e w' → RB w bs e w' := fun bs e w' h => h.up hb1
 have hlen : ∀ S : List UInt8, S = (Ob.mk k n b l d).show → S.length ≤ 41943040 := fun S hS => by subst hS; omega
 have hlen2 : b.length + bulkL l + bulkD d ≤ N := by simp only [Ob.bulk] at hbk; omega
 have hb5 := h5.below hb1
 have cT := ref_PrintText A c b W1 hb5 h7 (by omega)
 have cN := ref_PrintName (bytes b) W1 (by rw [bytes_size]; omega)
 rw [bytes_list] at cN
 have cv := conv_any W1 A c b hb5
 have cI := ref_Text n ⟨h3, h4⟩ true W1
 have cF := ref_Text n ⟨h3, h4⟩ false W1
 have e41 : 41943040 ≤ maxLen := by unfold maxLen; omega
 have f := five_cells hW1
 obtain ⟨x0, x1, x2, x3, x4⟩ := id f
 have cc : ∀ (l : List UInt8), l.length ≤ maxLen → RB W1 l (.returned (.slice (some ⟨W1.heap.size, 0, none⟩) l.length l.length)) (W1.alloc (.cells (valsB l).toArray 5 (l.length, l.length + 1))) := fun l hl => ⟨_, _, rfl, byt_mark W1 l _ _ rfl hl, fun e => (by cases e), below_mark _ _ _⟩
 replace hup := hi_ hup
 replace hlen := hi_ hlen
 replace hb1 := hi_ hb1
 replace cc := hi_ cc
 clear hsh h1 h2 h3 h4 h5 h6 h7 h8 h9 h10 h11 h12 h13 h14 h15 h16 h17 h18 hb5 hbk hlen2 hs f
 go_enter Tryz.func81, Tryz.ntmps81
 go_upto_region 1 with (fail)
 rw [← hW1]
 replace hW1 := hi_ hW1
 by_cases k1 : k = 1
 ·subst k1
  clear cT cN cv cI cF
  by_cases n1 : n = 1
  ·subst n1
   have hS : (Ob.mk 1 1 b l d).show = [116, 114, 117, 101] := by simp [Ob.show]
   replace hS := hi_ hS
   have cr := conv_const W1 #[.int .u8 116, .int .u8 114, .int .u8 117, .int .u8 101] 4 4
   go_wp2
   go_ret
   exact hup.out _ _ _ (by rw [hS.out]; exact cc.out [116, 114, 117, 101] (by decide))
  ·have hS : (Ob.mk 1 n b l d).show = [102, 97, 108, 115, 101] := by simp [Ob.show, n1]
   replace hS := hi_ hS
   have en : (n == 1) = false := by simpa using n1
   clear n1
   have cr := conv_const W1 #[.int .u8 102, .int .u8 97, .int .u8 108, .int .u8 115, .int .u8 101] 5 5
   go_wp2
   go_ret
   exact hup.out _ _ _ (by rw [hS.out]; exact cc.out [102, 97, 108, 115, 101] (by decide))
 by_cases k2 : k = 2
 ·subst k2
  have hS : (Ob.mk 2 n b l d).show = textL n true := (by simp [Ob.show] : _ = numT n true).trans rfl
  have hz := hlen.out _ hS.symm
  obtain ⟨T, hT⟩ : ∃ T : ByteArray, T = ⟨(textL n true).toArray⟩ := ⟨_, rfl⟩
  have c4 : Calls Tryz.prog 80 #[.int .i64 n, .bool true] W1 fun e w' => e = .returned (.string T) ∧ Below W1.heap.size W1 w' := by rw [hT]; exact cI
  have tS : T.data.toList = textL n true := by rw [hT]
  have zT : T.size ≤ 1000000000 := by rw [← tS, Array.length_toList] at hz; exact Nat.le_trans hz (by omega)
  rw [← tS] at hS
  replace hS := hi_ hS
  replace hT := hi_ hT
  replace tS := hi_ tS
  clear cT cN cv cF cI
  go_wp2_with (go_at_call 80; (with_reducible refine c4.mono ?_); rintro e w1 ⟨rfl, hB1⟩; obtain ⟨cq, Wq, hq1, hq2, hq3, hq4, hq5⟩ := conv_bytes w1 T zT; replace hB1 := hi_ hB1; replace hq2 := hi_ hq2; replace hq3 := hi_ hq3)
  go_ret
  exact hup.out _ _ _ (by rw [hS.out]; exact ⟨_, cq, by simp, hq2.out, fun e => (by cases e), bthen hB1.out hq3.out⟩)
 by_cases k3 : k = 3
 ·subst k3
  have hS : (Ob.mk 3 n b l d).show = textL n false := (by simp [Ob.show] : _ = numT n false).trans rfl
  have hz := hlen.out _ hS.symm
  obtain ⟨T, hT⟩ : ∃ T : ByteArray, T = ⟨(textL n false).toArray⟩ := ⟨_, rfl⟩
  have c4 : Calls Tryz.prog 80 #[.int .i64 n, .bool false] W1 fun e w' => e = .returned (.string T) ∧ Below W1.heap.size W1 w' := by rw [hT]; exact cF
  have tS : T.data.toList = textL n false := by rw [hT]
  have zT : T.size ≤ 1000000000 := by rw [← tS, Array.length_toList] at hz; exact Nat.le_trans hz (by omega)
  rw [← tS] at hS
  replace hS := hi_ hS
  replace hT := hi_ hT
  replace tS := hi_ tS
  clear cT cN cv cF cI
  go_wp2_with (go_at_call 80; (with_reducible refine c4.mono ?_); rintro e w1 ⟨rfl, hB1⟩; obtain ⟨cq, Wq, hq1, hq2, hq3, hq4, hq5⟩ := conv_bytes w1 T zT; replace hB1 := hi_ hB1; replace hq2 := hi_ hq2; replace hq3 := hi_ hq3)
  go_ret
  exact hup.out _ _ _ (by rw [hS.out]; exact ⟨_, cq, by simp, hq2.out, fun e => (by cases e), bthen hB1.out hq3.out⟩)
 by_cases k4 : k = 4
 ·subst k4
  have hS : (Ob.mk 4 n b l d).show = textT b := by simp [Ob.show]
  replace hS := hi_ hS
  clear cN cv cI cF
  go_wp2_with (go_at_call 117; (with_reducible refine cT.mono ?_); rintro e w1 ⟨A2, c2, rfl, hb2, hA2, hB2⟩; replace hb2 := hi_ hb2; replace hB2 := hi_ hB2; replace hA2 := hi_ hA2)
  go_ret
  exact hup.out _ _ _ (by rw [hS.out]; exact ⟨A2, c2, rfl, hb2.out, hA2.out, hB2.out⟩)
 by_cases k5 : k = 5
 ·subst k5
  have hS : (Ob.mk 5 n b l d).show = nameT b := by simp [Ob.show]
  obtain ⟨S, hSe⟩ : ∃ S, S = nameT b := ⟨_, rfl⟩
  rw [← hSe] at hS cN
  have hz := hlen.out _ hS.symm
  replace hSe := hi_ hSe
  replace hS := hi_ hS
  clear cT cI cF
  go_wp2_with (go_at_call 118; (with_reducible refine cN.mono ?_); intro e w1 hr; replace hr := hr.rb (by omega); obtain ⟨A2, c2, rfl, hb2, hA2, hB2⟩ := hr; replace hb2 := hi_ hb2; replace hB2 := hi_ hB2; replace hA2 := hi_ hA2)
  go_ret
  exact hup.out _ _ _ (by rw [hS.out]; exact ⟨A2, c2, rfl, hb2.out, hA2.out, hB2.out⟩)
 by_cases k9 : k = 9
 ·subst k9
  have hS : (Ob.mk 9 n b l d).show = textL n true ++ [32, 48, 32, 82] := (by simp [Ob.show] : _ = numT n true ++ [32, 48, 32, 82]).trans rfl
  have hz := hlen.out _ hS.symm
  obtain ⟨T, hT⟩ : ∃ T : ByteArray, T = ⟨(textL n true).toArray⟩ := ⟨_, rfl⟩
  have c4 : Calls Tryz.prog 80 #[.int .i64 n, .bool true] W1 fun e w' => e = .returned (.string T) ∧ Below W1.heap.size W1 w' := by rw [hT]; exact cI
  obtain ⟨T2, hT2⟩ : ∃ T2 : ByteArray, T2 = T ++ ⟨#[32, 48, 32, 82]⟩ := ⟨_, rfl⟩
  have tS : T2.data.toList = textL n true ++ [32, 48, 32, 82] := by rw [hT2, hT, bytes_app]
  have zT : T2.size ≤ 1000000000 := by rw [← tS, Array.length_toList] at hz; exact Nat.le_trans hz (by omega)
  rw [← tS] at hS
  have hT3 : T ++ ⟨#[32, 48, 32, 82]⟩ = T2 := hT2.symm
  have zT1 : T2.size = T.size + 4 := by rw [hT2, ByteArray.size_append]; rfl
  have zT0 : T.size ≤ 1000000000 := by omega
  replace hS := hi_ hS
  replace hT := hi_ hT
  replace tS := hi_ tS
  clear cT cN cv cF cI hT2
  go_wp2_with (go_at_call 80; (with_reducible refine c4.mono ?_); rintro e w1 ⟨rfl, hB1⟩; obtain ⟨cq, Wq, hq1, hq2, hq3, hq4, hq5⟩ := conv_bytes w1 T2 zT; replace hB1 := hi_ hB1; replace hq2 := hi_ hq2; replace hq3 := hi_ hq3)
  go_ret
  exact hup.out _ _ _ (by rw [hS.out]; exact ⟨_, cq, by rw [Array.length_toList]; first | rfl | (congr 2; simp; omega), hq2.out, fun e => (by cases e), bthen hB1.out hq3.out⟩)
 have hS : (Ob.mk k n b l d).show = [110, 117, 108, 108] := by simp [Ob.show, k1, k2, k3, k4, k5, k6, k7, k8, k9]
 replace hS := hi_ hS
 have f1 : (k == 1) = false := by simpa using k1
 have f2 : (k == 2) = false := by simpa using k2
 have f3 : (k == 3) = false := by simpa using k3
 have f4 : (k == 4) = false := by simpa using k4
 have f5 : (k == 5) = false := by simpa using k5
 have f6 : (k == 6) = false := by simpa using k6
 have f7 : (k == 7) = false := by simpa using k7
 have f8 : (k == 8) = false := by simpa using k8
 have f9 : (k == 9) = false := by simpa using k9
 clear k1 k2 k3 k4 k5 k6 k7 k8 k9 cT cN cv cI cF
 have cr := conv_const W1 #[.int .u8 110, .int .u8 117, .int .u8 108, .int .u8 108] 4 4
 go_wp2
 go_ret
 exact hup.out _ _ _ (by rw [hS.out]; exact cc.out [110, 117, 108, 108] (by decide))
theorem rshow_all : ∀ N, N ≤ 1048576 → RShowC N
 | 0, _ => fun o vs w _ h => by have := bulk_pos o; omega
 | N + 1, h => ref_show N h (rshow_all N (by omega))
end Go.Proofs.YthffpbkndnhlfaaGreatDoor

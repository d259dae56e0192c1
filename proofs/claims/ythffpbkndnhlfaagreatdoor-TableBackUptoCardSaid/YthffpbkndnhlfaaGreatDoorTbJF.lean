/- Walks and laws, joined: part F. No condition. -/
import Derived.Test.YthffpbkndnhlfaaGreatDoorTbJE
import Derived.Test.YthffpbkndnhlfaaGreatDoorTbJA
import Derived.Test.YthffpbkndnhlfaaGreatDoorTbJB
import Derived.Lib.SliceRun
set_option linter.unusedSimpArgs false
set_option linter.unusedVariables false
set_option maxRecDepth 100000
set_option maxHeartbeats 32000000
namespace Go.Proofs.YthffpbkndnhlfaaGreatDoor
open Go Go.RowKit Go.Wk
def DictC (N : Nat) : Prop := ∀ (w : World) (AD : Option Addr) (gD oD cD : Nat) (d : List (List UInt8 × Ob)) (vd : Nat → List Value), Tab w → (0 < d.length → AD = some ⟨gD, oD, none⟩) → (∀ i, (hi : i < d.length) → ObAt w d[i].2 (vd i)) → (∀ i, (hi : i < d.length) → d[i].1.length ≤ maxLen ∧ w.cell? ⟨gD, oD + 6 * i, none⟩ = some (strV d[i].1)) → (∀ i, i < d.length → ∀ j, j < 5 → w.cell? ⟨gD, oD + (6 * i + 1 + j), none⟩ = (vd i)[j]?) → bulkD d ≤ N →
 Calls Tryz.prog 107 #[.slice AD d.length cD] w (RB w (60 :: 60 :: (showD d ++ [62, 62])))
theorem RB.up {w w1 w' : World} {bs : List UInt8} {e : Ending} (h : RB w1 bs e w') (hb : Below w.heap.size w w1) : RB w bs e w' := by
 obtain ⟨A, c, rfl, h1, h2, h3⟩ := h
 exact ⟨A, c, rfl, h1, h2, bthen hb h3⟩
theorem row1b (W : World) (l : List UInt8) (hl : l.length ≤ 1000000000) : Calls Tryz.prog 102 #[.slice (some ⟨W.heap.size, 0, none⟩) 1 1] (W.alloc (.cells #[str l] 9)) (RB W l) := by
 have h := row1 W ⟨l.toArray⟩ (by simpa [ByteArray.size] using hl)
 refine h.mono fun e w' hr => ?_
 have h2 := hr.rb (by simp; unfold maxLen; omega)
 exact RB.up (by simpa using h2) ((Below.refl _ _).alloc (Nat.le_refl _) _)
theorem row2b (W : World) (l r : List UInt8) (hl : l.length + r.length ≤ 1000000000) : Calls Tryz.prog 102 #[.slice (some ⟨W.heap.size, 0, none⟩) 2 2] (W.alloc (.cells #[str l, str r] 9)) (RB W (l ++ r)) := by
 have h := row2 W ⟨l.toArray⟩ ⟨r.toArray⟩ (by simpa [ByteArray.size] using hl)
 refine h.mono fun e w' hr => ?_
 have h2 := hr.rb (by simp; unfold maxLen; omega)
 exact RB.up (by simpa using h2) ((Below.refl _ _).alloc (Nat.le_refl _) _)
theorem prt_show (N : Nat) (hN : N + 1 ≤ 1048576) (hs : ShowC N) (hd : DictC N) : ShowC (N + 1) := by
 intro o vs w hob hbk htab
 have hsh := show_len o hob.fits
 cases hob with
 | mk k n b l d A AL AD c cL cD gL oL gD oD vl vd h1 h2 h3 h4 h5 h6 h7 h8 h9 h10 h11 h12 h13 h14 h15 h16 h17 h18 =>
 obtain ⟨W1, hW1, hb1⟩ := newA w 32 #[.int .i64 k, .int .i64 n, .slice A b.length c, .slice AL l.length cL, .slice AD d.length cD]
 have hup : ∀ bs e w', RB W1 bs e w' → RB w bs e w' := fun bs e w' h => h.up hb1
 have htab1 := htab.below hb1
 have hlen : ∀ S : List UInt8, S = (Ob.mk k n b l d).show → S.length ≤ 41943040 := fun S hS => by subst hS; omega
 have hlen2 : b.length + bulkL l + bulkD d ≤ N := by simp only [Ob.bulk] at hbk; omega
 clear hsh
 have ecell : ∀ i v, #[Value.int .i64 k, .int .i64 n, .slice A b.length c, .slice AL l.length cL, .slice AD d.length cD][i]? = some v → W1.cell? ⟨w.heap.size, i, none⟩ = some v := by
  intro i v hv
  have h0 := alloc_cell (w := w) (vs := #[Value.int .i64 k, .int .i64 n, .slice A b.length c, .slice AL l.length cL, .slice AD d.length cD]) (e := 32) (i := i)
  rw [Nat.zero_add, hv] at h0
  rw [hW1]; exact h0
 have x0 : W1.cell? ⟨w.heap.size, 0, none⟩ = some (.int .i64 k) := ecell 0 _ rfl
 have x1 : W1.cell? ⟨w.heap.size, 1, none⟩ = some (.int .i64 n) := ecell 1 _ rfl
 have x2 : W1.cell? ⟨w.heap.size, 2, none⟩ = some (.slice A b.length c) := ecell 2 _ rfl
 have x3 : W1.cell? ⟨w.heap.size, 3, none⟩ = some (.slice AL l.length cL) := ecell 3 _ rfl
 have x4 : W1.cell? ⟨w.heap.size, 4, none⟩ = some (.slice AD d.length cD) := ecell 4 _ rfl
 have cA := (prt_array N (by omega) hs W1 htab1 AL gL oL cL l vl h12 (fun i hi => (h13 i hi).kept hb1) (fun i hi j hj => by
  have h0 := h14 i hi j hj
  obtain ⟨u, hu⟩ : ∃ u, (vl i)[j]? = some u := ⟨_, List.getElem?_eq_getElem (by rw [(h13 i hi).five]; exact hj)⟩
  rw [hu] at h0 ⊢
  exact (hb1.cell (cell_lt h0)).trans h0) (by omega))
 have cD := (hd W1 AD gD oD cD d vd htab1 h15 (fun i hi => (h16 i hi).kept hb1) (fun i hi => ⟨(h17 i hi).1, (hb1.cell (cell_lt (h17 i hi).2)).trans (h17 i hi).2⟩) (fun i hi j hj => by
  have h0 := h18 i hi j hj
  obtain ⟨u, hu⟩ : ∃ u, (vd i)[j]? = some u := ⟨_, List.getElem?_eq_getElem (by rw [(h16 i hi).five]; exact hj)⟩
  rw [hu] at h0 ⊢
  exact (hb1.cell (cell_lt h0)).trans h0) (by omega))
 have hb5 := h5.below hb1
 have cT := prt_Text A c b W1 hb5 (by omega)
 have cN := prt_Name (bytes b) W1 (by rw [bytes_size]; omega)
 rw [bytes_list] at cN
 have cv := conv_any W1 A c b hb5
 have cI := fixed_Text_whole n ⟨h3, h4⟩ W1 htab1
 have cF := fixed_Text n ⟨h3, h4⟩ W1 htab1
 have e41 : 41943040 ≤ maxLen := by unfold maxLen; omega
 refine h7_ hs hd hup hlen htab htab1 hb1 ?_; clear hs hd hup hlen htab htab1 hb1; intro hs hd hup hlen htab htab1 hb1
 clear h1 h2 h3 h4 h5 h6 h7 h8 h9 h10 h11 h12 h13 h14 h15 h16 h17 h18 hb5 ecell hbk hlen2
 go_enter Tryz.func76, Tryz.ntmps76
 go_upto_region 1 with (fail)
 rw [← hW1]
 replace hW1 := hi_ hW1
 by_cases k1 : k = 1
 ·subst k1
  by_cases n1 : n = 1
  ·subst n1
   have hS : (Ob.mk 1 1 b l d).show = [116, 114, 117, 101] := by simp [Ob.show]
   replace hS := hi_ hS
   clear cA cD cT cN cv cI cF
   have cr : Calls Tryz.prog 102 #[.slice (some ⟨W1.heap.size, 0, none⟩) 1 1] (W1.alloc (.cells #[.string ⟨#[116, 114, 117, 101]⟩] 9)) (RB W1 [116, 114, 117, 101]) := row1b W1 _ (by decide)
   go_wp2_with (go_at_call 102; (with_reducible refine cr.mono ?_); rintro e w2 ⟨A2, c2, rfl, hb2, hA2, hB2⟩; replace hb2 := hi_ hb2; replace hB2 := hi_ hB2; replace hA2 := hi_ hA2)
   go_ret
   exact hup.out _ _ _ (by rw [hS.out]; exact ⟨A2, c2, rfl, hb2.out, hA2.out, hB2.out⟩)
  ·have hS : (Ob.mk 1 n b l d).show = [102, 97, 108, 115, 101] := by simp [Ob.show, n1]
   replace hS := hi_ hS
   have en : (n == 1) = false := by simpa using n1
   clear n1
   clear cA cD cT cN cv cI cF
   have cr : Calls Tryz.prog 102 #[.slice (some ⟨W1.heap.size, 0, none⟩) 1 1] (W1.alloc (.cells #[.string ⟨#[102, 97, 108, 115, 101]⟩] 9)) (RB W1 [102, 97, 108, 115, 101]) := row1b W1 _ (by decide)
   go_wp2_with (go_at_call 102; (with_reducible refine cr.mono ?_); rintro e w2 ⟨A2, c2, rfl, hb2, hA2, hB2⟩; replace hb2 := hi_ hb2; replace hB2 := hi_ hB2; replace hA2 := hi_ hA2)
   go_ret
   exact hup.out _ _ _ (by rw [hS.out]; exact ⟨A2, c2, rfl, hb2.out, hA2.out, hB2.out⟩)
 by_cases k2 : k = 2
 ·subst k2
  have hS : (Ob.mk 2 n b l d).show = textL n true := (by simp [Ob.show] : _ = numT n true).trans rfl
  obtain ⟨S, hSe⟩ : ∃ S, S = textL n true := ⟨_, rfl⟩
  rw [← hSe] at hS
  have hz := hlen.out _ hS.symm
  replace hS := hi_ hS
  obtain ⟨T, hT⟩ : ∃ T : ByteArray, T = ⟨(textL n true).toArray⟩ := ⟨_, rfl⟩
  have c4 : Calls Tryz.prog 103 #[.int .i64 n, .bool true] W1 fun e w' => e = .returned (.string T) ∧ Below W1.heap.size W1 w' := by rw [hT]; exact cI
  have r3 : ∀ W : World, Calls Tryz.prog 102 #[.slice (some ⟨W.heap.size, 0, none⟩) 1 1] (W.alloc (.cells #[.string T] 9)) (RB W S) := fun W => by rw [hT, hSe]; exact row1b W (textL n true) (by rw [← hSe]; omega)
  replace hT := hi_ hT
  replace hSe := hi_ hSe
  clear cA cD cT cN cv cF cI
  go_wp2_with (first
   | (go_at_call 103; (with_reducible refine c4.mono ?_); rintro e w1 ⟨rfl, hB1⟩; replace hB1 := hi_ hB1)
   | (go_at_call 102; (with_reducible refine (r3 w1).mono ?_); rintro e w2 ⟨A2, c2, rfl, hb2, hA2, hB2⟩; replace hb2 := hi_ hb2; replace hB2 := hi_ hB2; replace hA2 := hi_ hA2)
   | fail)
  go_ret
  exact hup.out _ _ _ (by rw [hS.out]; exact RB.up ⟨A2, c2, rfl, hb2.out, hA2.out, hB2.out⟩ hB1.out)
 by_cases k3 : k = 3
 ·subst k3
  have hS : (Ob.mk 3 n b l d).show = textL n false := (by simp [Ob.show] : _ = numT n false).trans rfl
  obtain ⟨S, hSe⟩ : ∃ S, S = textL n false := ⟨_, rfl⟩
  rw [← hSe] at hS
  have hz := hlen.out _ hS.symm
  replace hS := hi_ hS
  obtain ⟨T, hT⟩ : ∃ T : ByteArray, T = ⟨(textL n false).toArray⟩ := ⟨_, rfl⟩
  have c4 : Calls Tryz.prog 103 #[.int .i64 n, .bool false] W1 fun e w' => e = .returned (.string T) ∧ Below W1.heap.size W1 w' := by rw [hT]; exact cF
  have r3 : ∀ W : World, Calls Tryz.prog 102 #[.slice (some ⟨W.heap.size, 0, none⟩) 1 1] (W.alloc (.cells #[.string T] 9)) (RB W S) := fun W => by rw [hT, hSe]; exact row1b W (textL n false) (by rw [← hSe]; omega)
  replace hT := hi_ hT
  replace hSe := hi_ hSe
  clear cA cD cT cN cv cI cF
  go_wp2_with (first
   | (go_at_call 103; (with_reducible refine c4.mono ?_); rintro e w1 ⟨rfl, hB1⟩; replace hB1 := hi_ hB1)
   | (go_at_call 102; (with_reducible refine (r3 w1).mono ?_); rintro e w2 ⟨A2, c2, rfl, hb2, hA2, hB2⟩; replace hb2 := hi_ hb2; replace hB2 := hi_ hB2; replace hA2 := hi_ hA2)
   | fail)
  go_ret
  exact hup.out _ _ _ (by rw [hS.out]; exact RB.up ⟨A2, c2, rfl, hb2.out, hA2.out, hB2.out⟩ hB1.out)
 by_cases k4 : k = 4
 ·subst k4
  have hS : (Ob.mk 4 n b l d).show = textT b := by simp [Ob.show]
  obtain ⟨S, hSe⟩ : ∃ S, S = textT b := ⟨_, rfl⟩
  rw [← hSe] at hS cT
  have hz := hlen.out _ hS.symm
  replace hSe := hi_ hSe
  replace hS := hi_ hS
  clear cA cD cN cv cI cF
  go_wp2_with (first
   | (go_at_call 104; (with_reducible refine cT.mono ?_); intro e w1 hr; replace hr := hr.rb (by omega); obtain ⟨A2, c2, rfl, hb2, hA2, hB2⟩ := hr; replace hb2 := hi_ hb2; replace hB2 := hi_ hB2; replace hA2 := hi_ hA2)
   | fail)
  go_ret
  exact hup.out _ _ _ (by rw [hS.out]; exact ⟨A2, c2, rfl, hb2.out, hA2.out, hB2.out⟩)
 by_cases k5 : k = 5
 ·subst k5
  have hS : (Ob.mk 5 n b l d).show = nameT b := by simp [Ob.show]
  obtain ⟨S, hSe⟩ : ∃ S, S = nameT b := ⟨_, rfl⟩
  rw [← hSe] at hS cN
  have hz := hlen.out _ hS.symm
  replace hSe := hi_ hSe
  replace hS := hi_ hS
  clear cA cD cT cI cF
  go_wp2_with (first
   | (go_at_call 105; (with_reducible refine cN.mono ?_); intro e w1 hr; replace hr := hr.rb (by omega); obtain ⟨A2, c2, rfl, hb2, hA2, hB2⟩ := hr; replace hb2 := hi_ hb2; replace hB2 := hi_ hB2; replace hA2 := hi_ hA2)
   | fail)
  go_ret
  exact hup.out _ _ _ (by rw [hS.out]; exact ⟨A2, c2, rfl, hb2.out, hA2.out, hB2.out⟩)
 by_cases k9 : k = 9
 ·subst k9
  have hS : (Ob.mk 9 n b l d).show = textL n true ++ [32, 48, 32, 82] := (by simp [Ob.show] : _ = numT n true ++ [32, 48, 32, 82]).trans rfl
  obtain ⟨S, hSe⟩ : ∃ S, S = textL n true ++ [32, 48, 32, 82] := ⟨_, rfl⟩
  rw [← hSe] at hS
  have hz := hlen.out _ hS.symm
  replace hS := hi_ hS
  obtain ⟨T, hT⟩ : ∃ T : ByteArray, T = ⟨(textL n true).toArray⟩ := ⟨_, rfl⟩
  have c4 : Calls Tryz.prog 103 #[.int .i64 n, .bool true] W1 fun e w' => e = .returned (.string T) ∧ Below W1.heap.size W1 w' := by rw [hT]; exact cI
  have r3 : ∀ W : World, Calls Tryz.prog 102 #[.slice (some ⟨W.heap.size, 0, none⟩) 2 2] (W.alloc (.cells #[.string T, .string ⟨#[32, 48, 32, 82]⟩] 9)) (RB W S) := fun W => by rw [hT, hSe]; exact row2b W (textL n true) [32, 48, 32, 82] (by rw [hSe, List.length_append] at hz; simp only [List.length_cons, List.length_nil] at hz ⊢; omega)
  replace hT := hi_ hT
  replace hSe := hi_ hSe
  clear cA cD cT cN cv cF cI
  go_wp2_with (first
   | (go_at_call 103; (with_reducible refine c4.mono ?_); rintro e w1 ⟨rfl, hB1⟩; replace hB1 := hi_ hB1)
   | (go_at_call 102; (with_reducible refine (r3 w1).mono ?_); rintro e w2 ⟨A2, c2, rfl, hb2, hA2, hB2⟩; replace hb2 := hi_ hb2; replace hB2 := hi_ hB2; replace hA2 := hi_ hA2)
   | fail)
  go_ret
  exact hup.out _ _ _ (by rw [hS.out]; exact RB.up ⟨A2, c2, rfl, hb2.out, hA2.out, hB2.out⟩ hB1.out)
 by_cases k6 : k = 6
 ·subst k6
  have hS : (Ob.mk 6 n b l d).show = 91 :: (showL true l ++ [93]) := by simp [Ob.show]
  obtain ⟨S, hSe⟩ : ∃ S, S = 91 :: (showL true l ++ [93]) := ⟨_, rfl⟩
  rw [← hSe] at hS cA
  have hz := hlen.out _ hS.symm
  replace hSe := hi_ hSe
  replace hS := hi_ hS
  clear cD cT cN cv cI cF
  go_wp2_with (first
   | (go_at_call 106; (with_reducible refine cA.mono ?_); intro e w1 hr; replace hr := hr.rb (by omega); obtain ⟨A2, c2, rfl, hb2, hA2, hB2⟩ := hr; replace hb2 := hi_ hb2; replace hB2 := hi_ hB2; replace hA2 := hi_ hA2)
   | fail)
  go_ret
  exact hup.out _ _ _ (by rw [hS.out]; exact ⟨A2, c2, rfl, hb2.out, hA2.out, hB2.out⟩)
 by_cases k7 : k = 7
 ·subst k7
  have hS : (Ob.mk 7 n b l d).show = 60 :: 60 :: (showD d ++ [62, 62]) := by simp [Ob.show]
  obtain ⟨S, hSe⟩ : ∃ S, S = 60 :: 60 :: (showD d ++ [62, 62]) := ⟨_, rfl⟩
  rw [← hSe] at hS cD
  have hz := hlen.out _ hS.symm
  replace hSe := hi_ hSe
  replace hS := hi_ hS
  clear cA cT cN cv cI cF
  go_wp2_with (first
   | (go_at_call 107; (with_reducible refine cD.mono ?_); rintro e w1 ⟨A2, c2, rfl, hb2, hA2, hB2⟩; replace hb2 := hi_ hb2; replace hB2 := hi_ hB2; replace hA2 := hi_ hA2)
   | fail)
  go_ret
  exact hup.out _ _ _ (by rw [hS.out]; exact ⟨A2, c2, rfl, hb2.out, hA2.out, hB2.out⟩)
 by_cases k8 : k = 8
 ·subst k8
  have hS : (Ob.mk 8 n b l d).show = 60 :: 60 :: (showD d ++ [62, 62]) := by simp [Ob.show]
  obtain ⟨S, hSe⟩ : ∃ S, S = 60 :: 60 :: (showD d ++ [62, 62]) := ⟨_, rfl⟩
  rw [← hSe] at hS cD
  have hz := hlen.out _ hS.symm
  replace hSe := hi_ hSe
  replace hS := hi_ hS
  clear cA cT cN cv cI cF
  go_wp2_with (first
   | (go_at_call 107; (with_reducible refine cD.mono ?_); rintro e w1 ⟨A2, c2, rfl, hb2, hA2, hB2⟩; replace hb2 := hi_ hb2; replace hB2 := hi_ hB2; replace hA2 := hi_ hA2)
   | fail)
  go_ret
  exact hup.out _ _ _ (by rw [hS.out]; exact ⟨A2, c2, rfl, hb2.out, hA2.out, hB2.out⟩)
 have hS : (Ob.mk k n b l d).show = [110, 117, 108, 108] := by simp [Ob.show, k1, k2, k3, k4, k5, k6, k7, k8, k9]
 replace hS := hi_ hS
 have f1 : (k == 1) = false := by simpa using k1
 have f2 : (k == 2) = false := by simpa using k2
 have f3 : (k == 3) = false := by simpa using k3
 have f4 : (k == 4) = false := by simpa using k4
 have f5 : (k == 5) = false := by simpa using k5
 have f6 : (k == 6) = false := by simpa using k6
 have f7 : (k == 7) = false := by simpa using k7
 have f8 : (k == 8) = false := by simpa using k8
 have f9 : (k == 9) = false := by simpa using k9
 clear k1 k2 k3 k4 k5 k6 k7 k8 k9 cA cD cT cN cv cI cF
 have cr : Calls Tryz.prog 102 #[.slice (some ⟨W1.heap.size, 0, none⟩) 1 1] (W1.alloc (.cells #[.string ⟨#[110, 117, 108, 108]⟩] 9)) (RB W1 [110, 117, 108, 108]) := row1b W1 _ (by decide)
 go_wp2_with (go_at_call 102; (with_reducible refine cr.mono ?_); rintro e w2 ⟨A2, c2, rfl, hb2, hA2, hB2⟩; replace hb2 := hi_ hb2; replace hB2 := hi_ hB2; replace hA2 := hi_ hA2)
 go_ret
 exact hup.out _ _ _ (by rw [hS.out]; exact ⟨A2, c2, rfl, hb2.out, hA2.out, hB2.out⟩)
theorem addr_add (b o i : Nat) : (⟨b, o, none⟩ : Addr).add i = ⟨b, o + i, none⟩ := by simp [Addr.add]
theorem byt_holds {w : World} {A : Option Addr} {l : List UInt8} (h : Byt w A l) (c : Nat) : Lib.HoldsBytes w (.slice A l.length c) l := by
 refine ⟨A, c, rfl, ?_, ?_⟩
 ·rintro rfl
  cases l with
  | nil => rfl
  | cons x r => obtain ⟨b, o, e, _⟩ := h.2 (by simp); cases e
 ·rintro a rfl i x hx
  obtain ⟨hi, rfl⟩ := List.getElem?_eq_some_iff.1 hx
  obtain ⟨b, o, e, hc⟩ := h.2 (by omega)
  cases e
  rw [addr_add]
  exact hc i hi
theorem fresh_byt {B : Nat} {w : World} {v : Value} {l : List UInt8} (h : Lib.FreshBytes B w v l) : ∃ A c, v = .slice A l.length c ∧ Byt w A l ∧ (A = none → c = 0) := by
 obtain ⟨g, cap, zs, rfl, hB, hl, hm, hz, hr, hb, hc, _⟩ := h
 refine ⟨_, _, rfl, ⟨by omega, fun _ => ⟨g, 0, rfl, fun i hi => ?_⟩⟩, fun e => (by cases e)⟩
 have h0 := hc i (by omega)
 rw [Nat.zero_add, h0]
 have hzi : i < zs.length := by omega
 have he : l[i]? = some (zs[i].toNat.toUInt8) := by
  have h1 := congrArg (fun L => L[i]?) hb
  simp only [Lib.bytesOf, List.getElem?_map, List.getElem?_take] at h1
  rw [if_pos hi, List.getElem?_eq_getElem hzi] at h1
  exact h1.symm
 rw [List.getElem?_eq_getElem hi] at he
 injection he with he
 obtain ⟨q1, q2⟩ := hr zs[i] (List.getElem_mem hzi)
 rw [he, List.getD_eq_getElem?_getD, List.getElem?_eq_getElem hzi]
 have : (zs[i].toNat.toUInt8).toNat = zs[i].toNat := by
  show zs[i].toNat % 256 = _
  omega
 rw [this]
 simp only [Option.getD_some]
 congr 2
 omega
theorem join_flat (ls : List (List UInt8)) : Lib.join ls [] = ls.flatten := by
 cases ls with
 | nil => rfl
 | cons x r => rw [Lib.join_cons]; simp [Lib.joinTail]
theorem cur_Of (w : World) (g c n : Nat) (ls : List (List UInt8)) (vs : List Value) (hP : Lib.PartsAt w ⟨g, 0, none⟩ vs ls) (hn : ls.length = n) (h2 : 2 ≤ n) (hc : n ≤ c) (hn2 : n ≤ 100) (hl : Lib.lens ls ≤ 70368744177664) :
 Calls Tryz.prog 142 #[.slice (some ⟨g, 0, none⟩) n c] w (RB w ls.flatten) := by
 have cj := Tryz.bytes_Join_many g 0 n c vs ls (.slice none 0 0) [] w hn h2 hP hc ⟨none, 0, rfl, fun _ => rfl, fun a e => (by cases e)⟩ (by omega) (by simp; omega)
 rw [join_flat] at cj
 clear hP
 go_enter Tryz.func142, Tryz.ntmps142
 go_wp2_with (go_at_call 175; (with_reducible refine cj.mono ?_); rintro e w1 ⟨v, rfl, hF, hB⟩; replace hF := hi_ hF; replace hB := hi_ hB)
 go_ret
 obtain ⟨A, c', rfl, h3, h4⟩ := fresh_byt hF.out
 exact ⟨A, c', rfl, h3, h4, hB.out⟩
theorem cur_Of2 (W : World) (A1 A2 : Option Addr) (c1 c2 : Nat) (l1 l2 : List UInt8) (h1 : Byt W A1 l1) (h2 : Byt W A2 l2) (hl : l1.length + l2.length ≤ 1000000000) :
 Calls Tryz.prog 142 #[.slice (some ⟨W.heap.size, 0, none⟩) 2 2] (W.alloc (.cells #[.slice A1 l1.length c1, .slice A2 l2.length c2] 22)) (RB (W.alloc (.cells #[.slice A1 l1.length c1, .slice A2 l2.length c2] 22)) (l1 ++ l2)) := by
 have hb : Below W.heap.size W (W.alloc (.cells #[.slice A1 l1.length c1, .slice A2 l2.length c2] 22)) := (Below.refl _ _).alloc (Nat.le_refl _) _
 have h := cur_Of (W.alloc (.cells #[.slice A1 l1.length c1, .slice A2 l2.length c2] 22)) W.heap.size 2 2 [l1, l2] [.slice A1 l1.length c1, .slice A2 l2.length c2] ⟨rfl, fun i v hv => by
  have h0 := alloc_cell (w := W) (vs := #[.slice A1 l1.length c1, .slice A2 l2.length c2]) (e := 22) (i := i)
  rw [addr_add]
  refine h0.trans ?_
  rw [← hv]
  match i with
  | 0 => rfl
  | 1 => rfl
  | k + 2 => rfl, fun i v l hv hl => by
  match i with
  | 0 => cases hv; cases hl; exact byt_holds (h1.below hb) c1
  | 1 => cases hv; cases hl; exact byt_holds (h2.below hb) c2
  | k + 2 => cases hv⟩ rfl (by omega) (by omega) (by omega) (by simp [Lib.lens]; omega)
 simpa using h
theorem cur_Of4 (W : World) (A1 A2 A3 A4 : Option Addr) (c1 c2 c3 c4 : Nat) (l1 l2 l3 l4 : List UInt8) (h1 : Byt W A1 l1) (h2 : Byt W A2 l2) (h3 : Byt W A3 l3) (h4 : Byt W A4 l4) (hl : l1.length + l2.length + l3.length + l4.length ≤ 1000000000) :
 Calls Tryz.prog 142 #[.slice (some ⟨W.heap.size, 0, none⟩) 4 4] (W.alloc (.cells #[.slice A1 l1.length c1, .slice A2 l2.length c2, .slice A3 l3.length c3, .slice A4 l4.length c4] 22)) (RB (W.alloc (.cells #[.slice A1 l1.length c1, .slice A2 l2.length c2, .slice A3 l3.length c3, .slice A4 l4.length c4] 22)) (l1 ++ (l2 ++ (l3 ++ l4)))) := by
 have hb : Below W.heap.size W (W.alloc (.cells #[.slice A1 l1.length c1, .slice A2 l2.length c2, .slice A3 l3.length c3, .slice A4 l4.length c4] 22)) := (Below.refl _ _).alloc (Nat.le_refl _) _
 have h := cur_Of (W.alloc (.cells #[.slice A1 l1.length c1, .slice A2 l2.length c2, .slice A3 l3.length c3, .slice A4 l4.length c4] 22)) W.heap.size 4 4 [l1, l2, l3, l4] [.slice A1 l1.length c1, .slice A2 l2.length c2, .slice A3 l3.length c3, .slice A4 l4.length c4] ⟨rfl, fun i v hv => by
  have h0 := alloc_cell (w := W) (vs := #[.slice A1 l1.length c1, .slice A2 l2.length c2, .slice A3 l3.length c3, .slice A4 l4.length c4]) (e := 22) (i := i)
  rw [addr_add]
  refine h0.trans ?_
  rw [← hv]
  match i with
  | 0 => rfl
  | 1 => rfl
  | 2 => rfl
  | 3 => rfl
  | k + 4 => rfl, fun i v l hv hl => by
  match i with
  | 0 => cases hv; cases hl; exact byt_holds (h1.below hb) c1
  | 1 => cases hv; cases hl; exact byt_holds (h2.below hb) c2
  | 2 => cases hv; cases hl; exact byt_holds (h3.below hb) c3
  | 3 => cases hv; cases hl; exact byt_holds (h4.below hb) c4
  | k + 4 => cases hv⟩ rfl (by omega) (by omega) (by omega) (by simp [Lib.lens]; omega)
 simpa using h
theorem rowAny (g : Nat) (W : World) (h : W.cell? ⟨g, 0, none⟩ = some (.string ⟨#[32]⟩)) : Calls Tryz.prog 102 #[.slice (some ⟨g, 0, none⟩) 1 1] W (RB W [32]) := by
 have h := prt_row g 0 1 [⟨#[32]⟩] W (fun i hi => by
  match i, hi with
  | 0, _ => exact h) (by decide) (by decide)
 exact h.mono fun e w' hr => hr.rb (by decide)
theorem bulkD_take : ∀ (l : List (List UInt8 × Ob)) (k : Nat), bulkD (l.take k) ≤ bulkD l
 | [], k => by simp [bulkD]
 | o :: r, 0 => by simp [bulkD]
 | o :: r, k + 1 => by have := bulkD_take r k; simp only [List.take_succ_cons, bulkD]; omega
theorem one_cell (w : World) (v : Value) (t : TypeId) : (w.alloc (.cells #[v] t)).cell? ⟨w.heap.size, 0, none⟩ = some v := by
 simp
def GD (p : Nat) (A : Option Addr) (n c : Nat) (K : ByteArray) (ag : Array Value) (nt sh : List UInt8) : Nat → Value → World → Prop := fun j v w => match j with
 | 0 => v = .slice A n c
 | 1 => v = .pointer (some ⟨p, 0, none⟩)
 | 2 => v = .string K
 | 3 => ∃ A c, v = .slice A nt.length c ∧ Byt w A nt
 | 4 => ∃ g, v = .slice (some ⟨g, 0, none⟩) 1 1 ∧ w.cell? ⟨g, 0, none⟩ = some (.string ⟨#[32]⟩)
 | 5 => ∃ A c, v = .slice A 1 c ∧ Byt w A [32]
 | 6 => v = .pointer (some ⟨p, 1, none⟩)
 | 7 => v = .agg ag
 | _ => ∃ A c, v = .slice A sh.length c ∧ Byt w A sh
theorem GD_mono {p : Nat} {A : Option Addr} {n c : Nat} {K : ByteArray} {ag : Array Value} {nt sh : List UInt8} (j : Nat) (v : Value) (w w' : World) (hG : GD p A n c K ag nt sh j v w) (hk : Below w.heap.size w w') : GD p A n c K ag nt sh j v w' := by
 unfold GD at hG ⊢
 split at hG <;> first
  | exact hG
  | (obtain ⟨A, c, e, hb⟩ := hG; exact ⟨A, c, e, hb.below hk⟩)
  | (obtain ⟨g, e, hb⟩ := hG; exact ⟨g, e, (hk.cell (cell_lt hb)).trans hb⟩)
theorem prt_dict (N : Nat) (hN : N ≤ 1048576) (hs : ShowC N) : DictC N := by
 intro w AD gD oD cD d vd htab hA hl hk hlv hbk
 have zl := bulkD_len d
 have hfit : ∀ e ∈ d, Fits e.2 := fun e he => by obtain ⟨i, hi, rfl⟩ := List.getElem_of_mem he; exact (hl i hi).fits
 have hsl := showD_len d hfit
 obtain ⟨m, hm⟩ : ∃ m, m = d.length := ⟨_, rfl⟩
 rw [← hm] at zl ⊢
 have zm : m ≤ 1048576 := by omega
 have hsl2 : (showD d).length ≤ 41943040 := by omega
 have e41 : 41943050 ≤ maxLen := by unfold maxLen; omega
 have cr : Calls Tryz.prog 102 #[.slice (some ⟨w.heap.size, 0, none⟩) 1 1] (w.alloc (.cells #[.string ⟨#[60, 60]⟩] 9)) (RB w [60, 60]) := row1b w _ (by decide)
 refine h9_ hm hA hl hk hlv hs hfit hsl2 htab ?_; clear hm hA hl hk hlv hs hfit hsl2 htab; intro hm hA hl hk hlv hs hfit hsl2 htab
 clear hsl
 go_enter Tryz.func107, Tryz.ntmps107
 go_wp2_with (go_at_call 102; (with_reducible refine cr.mono ?_); rintro e w1 ⟨A1, c1, rfl, hb1, hA1, hB1⟩; replace hb1 := hi_ hb1; replace hB1 := hi_ hB1; replace hA1 := hi_ hA1)
 go_loopw [3, 5, 10] (fun s3 _ s10 wr => ∃ (k : Nat) (A : Option Addr) (c : Nat), k ≤ m ∧ s10 = .int .i64 k ∧ s3 = .slice A (60 :: 60 :: showD (d.take k)).length c ∧ Byt wr A (60 :: 60 :: showD (d.take k)) ∧ (A = none → c = 0) ∧ Below w.heap.size w wr) (fun _ _ s10 _ => m - (RowKit.intOf s10).toNat)
 case atStart => exact ⟨0, A1, c1, by omega, rfl, rfl, hb1.out, hA1.out, hB1.out⟩
 case round =>
  obtain ⟨k, A, c, hk0, rfl, rfl, hb, hAc, hB⟩ := hrel
  have lB := hB.size
  by_cases hkm : k < m
  ·have hkl : k < d.length := by rw [← hm.out]; exact hkm
   have hAe := hA.out (by omega)
   subst hAe
   obtain ⟨e, he⟩ : ∃ e, e = d[k] := ⟨_, rfl⟩
   have hob0 := hl.out k hkl
   have hkk0 := (hk.out k hkl).2
   have hcv := hlv.out k hkl
   rw [← he] at hob0 hkk0
   have hz0 := bulkD_at d k hkl
   rw [← he] at hz0
   have hob := hob0.kept hB
   have hsh := show_len e.2 hob.fits
   obtain ⟨us, hus⟩ : ∃ us, us = vd k := ⟨_, rfl⟩
   rw [← hus] at hob hob0 hcv
   obtain ⟨en, E1, E2, E3, en1, ec1, en2, ec2, en3, ec3, hys⟩ := ob_five2 hob
   subst hys
   obtain ⟨kk, hkk⟩ : ∃ k, k = e.2.kind := ⟨_, rfl⟩
   rw [← hkk] at hob hob0 hcv
   obtain ⟨K, hK⟩ : ∃ K, K = bytes e.1 := ⟨_, rfl⟩
   have zK : K.size ≤ 1048576 := by rw [hK, bytes_size]; omega
   have x0 : wr.cell? ⟨gD, oD + k * 6, none⟩ = some (.string K) := by
    have h1 := (hB.cell (cell_lt hkk0)).trans hkk0
    rw [Nat.mul_comm] at h1
    rw [h1, hK]; rfl
   have five : ∀ j u, [Value.int .i64 kk, .int .i64 en, .slice E1 en1 ec1, .slice E2 en2 ec2, .slice E3 en3 ec3][j]? = some u → wr.cell? ⟨gD, oD + k * 6 + 1 + j, none⟩ = some u := fun j u hj => by
    have h0 := hcv j (by have := (List.getElem?_eq_some_iff.1 hj).1; simpa using this)
    rw [hj] at h0
    have h1 := (hB.cell (cell_lt h0)).trans h0
    rw [show oD + (6 * k + 1 + j) = oD + k * 6 + 1 + j by omega] at h1
    exact h1
   have x1 : wr.cell? ⟨gD, oD + k * 6 + 1, none⟩ = some (.int .i64 kk) := five 0 _ rfl
   have x2 : wr.cell? ⟨gD, oD + k * 6 + 2, none⟩ = some (.int .i64 en) := five 1 _ rfl
   have x3 : wr.cell? ⟨gD, oD + k * 6 + 3, none⟩ = some (.slice E1 en1 ec1) := five 2 _ rfl
   have x4 : wr.cell? ⟨gD, oD + k * 6 + 4, none⟩ = some (.slice E2 en2 ec2) := five 3 _ rfl
   have x5 : wr.cell? ⟨gD, oD + k * 6 + 5, none⟩ = some (.slice E3 en3 ec3) := five 4 _ rfl
   clear five hcv hob hus
   refine h8_ he hkk hK hob0 hb hB hAc hsh ?_; clear he hkk hK hob0 hb hB hAc hsh; intro he hkk hK hob0 hb hB hAc hsh
   clear hkk0
   obtain ⟨S, hS⟩ : ∃ S, S = 60 :: 60 :: showD (d.take k) := ⟨_, rfl⟩
   obtain ⟨R, hR⟩ : ∃ R, R = S ++ (nameT e.1 ++ ([32] ++ e.2.show)) := ⟨_, rfl⟩
   have hR2' : 60 :: 60 :: showD (d.take (k + 1)) = R := by
    rw [hR, hS, List.take_succ_eq_append_getElem hkl, showD_snoc, ← he.out]; rfl
   have hzS : S.length + (nameT e.1).length + 1 + e.2.show.length ≤ 1000000000 := by
    have q1 := showD_len (d.take k) (fun x hx => hfit.out x (List.mem_of_mem_take hx))
    have q2 := bulkD_take d k
    have q3 := nameT_len e.1
    have q4 := hsh.out
    rw [hS]; simp only [List.length_cons]; omega
   replace hR := hi_ hR
   replace hR2' := hi_ hR2'
   replace hzS := hi_ hzS
   rw [← hS] at hb ⊢
   replace hS := hi_ hS
   go_upto_region 5 with (fail)
   obtain ⟨W3, hW3, hb3⟩ := newA wr 91 #[.string K, .int .i64 kk, .int .i64 en, .slice E1 en1 ec1, .slice E2 en2 ec2, .slice E3 en3 ec3]
   have z3 : W3.heap.size = wr.heap.size + 1 := by rw [hW3, World.size_alloc]
   have ecell : ∀ i v, #[Value.string K, .int .i64 kk, .int .i64 en, .slice E1 en1 ec1, .slice E2 en2 ec2, .slice E3 en3 ec3][i]? = some v → W3.cell? ⟨wr.heap.size, i, none⟩ = some v := by
    intro i v hv
    have h0 := alloc_cell (w := wr) (vs := #[Value.string K, .int .i64 kk, .int .i64 en, .slice E1 en1 ec1, .slice E2 en2 ec2, .slice E3 en3 ec3]) (e := 91) (i := i)
    rw [Nat.zero_add, hv] at h0
    rw [hW3]; exact h0
   rw [← hW3]
   clear x0 x1 x2 x3 x4 x5
   have f0 : W3.cell? ⟨wr.heap.size, 0, none⟩ = some (.string K) := ecell 0 _ rfl
   have f1 : W3.cell? ⟨wr.heap.size, 1, none⟩ = some (.int .i64 kk) := ecell 1 _ rfl
   have f2 : W3.cell? ⟨wr.heap.size, 2, none⟩ = some (.int .i64 en) := ecell 2 _ rfl
   have f3 : W3.cell? ⟨wr.heap.size, 3, none⟩ = some (.slice E1 en1 ec1) := ecell 3 _ rfl
   have f4 : W3.cell? ⟨wr.heap.size, 4, none⟩ = some (.slice E2 en2 ec2) := ecell 4 _ rfl
   have f5 : W3.cell? ⟨wr.heap.size, 5, none⟩ = some (.slice E3 en3 ec3) := ecell 5 _ rfl
   have c12 : ∀ W, Calls Tryz.prog 105 #[.string K] W (RB W (nameT e.1)) := fun W => by
    have h0 := prt_Name K W (by omega)
    rw [hK.out, bytes_list] at h0
    rw [hK.out]
    exact h0.mono fun e' w' hr => hr.rb (by have := nameT_len e.1; unfold maxLen; omega)
   have c31 : ∀ W, Below wr.heap.size wr W → Calls Tryz.prog 76 #[.agg #[.int .i64 kk, .int .i64 en, .slice E1 en1 ec1, .slice E2 en2 ec2, .slice E3 en3 ec3]] W (RB W e.2.show) := fun W hW => hs.out e.2 _ W ((hob0.out.kept hB.out).kept hW) (by omega) (htab.out.below (hB.out.trans (hW.mono lB)))
   clear ecell
   replace c31 := hi_ c31
   have hb3' := hi_ hb3
   clear hb3
   replace hW3 := hi_ hW3
   have c34 : ∀ W : World, Calls Tryz.prog 102 #[.slice (some ⟨W.heap.size, 0, none⟩) 1 1] (W.alloc (.cells #[.string ⟨#[32]⟩] 9)) (RB W [32]) := fun W => row1b W _ (by decide)
   refine wp_lin_tail (by kernel_rfl) [none, none, none, none, none, none, none, none, none, none, none, none, none, none, some 0, some 1, some 2, some 3, some 4, some 5, some 6, some 7, some 8, none, none, none, none, none, none, none, none] (fun w' => Below W3.heap.size W3 w') (fun w' w'' => Below w'.heap.size w' w'') (GD wr.heap.size A S.length c K #[.int .i64 kk, .int .i64 en, .slice E1 en1 ec1, .slice E2 en2 ec2, .slice E3 en3 ec3] (nameT e.1) e.2.show) (by rfl) (by kernel_rfl) 9 _ rfl (by decide) (by kernel_rfl) [9, 2, 3, 9, 5, 9, 7, 8, 9, 0] (by kernel_rfl) ?hR ?mono (.cons 8 (step_of [7, 5] rfl (by kernel_rfl) ?s8) (.cons 7 (step_of [6] rfl (by kernel_rfl) ?s7) (.cons 6 (step_of [] rfl (by kernel_rfl) ?s6) (.cons 5 (step_of [4, 3] rfl (by kernel_rfl) ?s5) (.cons 4 (step_of [] rfl (by kernel_rfl) ?s4) (.cons 3 (step_of [2] rfl (by kernel_rfl) ?s3) (.cons 2 (step_of [1] rfl (by kernel_rfl) ?s2) (.cons 1 (step_of [] rfl (by kernel_rfl) ?s1) (.cons 0 (step_of [] rfl (by kernel_rfl) ?s0) (.nil)))))))))) ?done
   case hR => exact (Below.refl _ _).drew
   case mono => exact GD_mono
   case s0 =>
    intro x w' hRw hd K' hK
    simp only [All, GD] at hd
    simp +decide only [upd, GD, fillL, if_true, if_false] at hK ⊢
    try simp only [hd.1] at hK ⊢
    go_simp
    have hK2 := hK _ _ ⟨hRw, Below.refl _ _, rfl⟩
    exact hK2
   case s1 =>
    intro x w' hRw hd K' hK
    simp only [All, GD] at hd
    simp +decide only [upd, GD, fillL, if_true, if_false] at hK ⊢
    try simp only [hd.1] at hK ⊢
    go_simp
    have hK2 := hK _ _ ⟨hRw, Below.refl _ _, rfl⟩
    exact hK2
   case s2 =>
    intro x w' hRw hd K' hK
    simp only [All, GD] at hd
    have z0 := (hRw.cell (cell_lt f0)).trans f0
    simp +decide only [upd, GD, fillL, if_true, if_false] at hK ⊢
    try simp only [hd.1] at hK ⊢
    go_simp
    have hK2 := hK _ _ ⟨hRw, Below.refl _ _, rfl⟩
    exact hK2
   case s3 =>
    intro x w' hRw hd K' hK
    simp only [All, GD] at hd
    simp +decide only [upd, GD, fillL, if_true, if_false] at hK ⊢
    try simp only [hd.1] at hK ⊢
    go_simp
    refine (c12 w').mono ?_
    rintro e' w2 ⟨A2, c2, rfl, hb2, hA2, hB2⟩
    have hK2 := hK _ _ ⟨bthen hRw hB2, hB2, A2, c2, rfl, hb2⟩
    exact hK2
   case s4 =>
    intro x w' hRw hd K' hK
    simp only [All, GD] at hd
    simp +decide only [upd, GD, fillL, if_true, if_false] at hK ⊢
    try simp only [hd.1] at hK ⊢
    go_simp
    have hK2 := hK _ _ ⟨hRw.alloc hRw.size (.cells #[.string ⟨#[32]⟩] 9), (Below.refl _ _).alloc (Nat.le_refl _) _, _, rfl, one_cell w' _ 9⟩
    exact hK2
   case s5 =>
    intro x w' hRw hd K' hK
    simp only [All, GD] at hd
    obtain ⟨⟨g, e4, hg⟩, _⟩ := hd
    simp +decide only [upd, GD, fillL, if_true, if_false] at hK ⊢
    try simp only [e4] at hK ⊢
    go_simp
    refine (rowAny g w' hg).mono ?_
    rintro e' w2 ⟨A2, c2, rfl, hb2, hA2, hB2⟩
    have hK2 := hK _ _ ⟨bthen hRw hB2, hB2, A2, c2, rfl, hb2⟩
    exact hK2
   case s6 =>
    intro x w' hRw hd K' hK
    simp only [All, GD] at hd
    simp +decide only [upd, GD, fillL, if_true, if_false] at hK ⊢
    try simp only [hd.1] at hK ⊢
    go_simp
    have hK2 := hK _ _ ⟨hRw, Below.refl _ _, rfl⟩
    exact hK2
   case s7 =>
    intro x w' hRw hd K' hK
    simp only [All, GD] at hd
    have z1 := (hRw.cell (cell_lt f1)).trans f1
    have z2 := (hRw.cell (cell_lt f2)).trans f2
    have z3 := (hRw.cell (cell_lt f3)).trans f3
    have z4 := (hRw.cell (cell_lt f4)).trans f4
    have z5 := (hRw.cell (cell_lt f5)).trans f5
    simp +decide only [upd, GD, fillL, if_true, if_false] at hK ⊢
    try simp only [hd.1] at hK ⊢
    go_simp
    have hK2 := hK _ _ ⟨hRw, Below.refl _ _, rfl⟩
    exact hK2
   case s8 =>
    intro x w' hRw hd K' hK
    simp only [All, GD] at hd
    simp +decide only [upd, GD, fillL, if_true, if_false] at hK ⊢
    try simp only [hd.1] at hK ⊢
    go_simp
    refine (c31.out w' (bthen hb3'.out hRw)).mono ?_
    rintro e' w2 ⟨A2, c2, rfl, hb2, hA2, hB2⟩
    have hK2 := hK _ _ ⟨bthen hRw hB2, hB2, A2, c2, rfl, hb2⟩
    exact hK2
   case done =>
    intro x w4 hR2 hG fr hfr
    have g0 := hG 0 (by omega)
    have g3 := hG 3 (by omega)
    have g5 := hG 5 (by omega)
    have g8 := hG 8 (by omega)
    simp only [GD] at g0 g3 g5 g8
    clear hG
    obtain ⟨A2, c2, e3, hb2⟩ := g3
    obtain ⟨A3, c3, e5, hb3⟩ := g5
    obtain ⟨A4, c4, e8, hb4⟩ := g8
    simp only [fillL] at hfr
    rw [g0, e3, e5, e8] at hfr
    subst hfr
    have hD4 : Below wr.heap.size wr w4 := bthen hb3'.out hR2
    have c42 : Calls Tryz.prog 142 #[.slice (some ⟨w4.heap.size, 0, none⟩) 4 4] (w4.alloc (.cells #[.slice A S.length c, .slice A2 (nameT e.1).length c2, .slice A3 1 c3, .slice A4 e.2.show.length c4] 22)) (RB (w4.alloc (.cells #[.slice A S.length c, .slice A2 (nameT e.1).length c2, .slice A3 1 c3, .slice A4 e.2.show.length c4] 22)) R) := (by rw [hR.out]; exact cur_Of4 w4 A A2 A3 A4 c c2 c3 c4 S (nameT e.1) [32] e.2.show (hb.out.below hD4) hb2 hb3 hb4 (by have := hzS.out; simp only [List.length_cons, List.length_nil]; omega))
    replace hD4 := hi_ hD4
    replace hR2 := hi_ hR2
    clear hb2 hb3 hb4
    go_wp2_with (go_at_call 142; (with_reducible refine c42.mono ?_); rintro e' w5 ⟨A5, c5, rfl, hb5, hA5, hB5⟩; have hD5 : Below wr.heap.size wr w5 := bthen hD4.out (bthen ((Below.refl _ _).alloc (Nat.le_refl _) _) hB5); replace hb5 := hi_ hb5; replace hB5 := hi_ hB5; replace hA5 := hi_ hA5; replace hD5 := hi_ hD5)
    go_roundw
    case rel => exact ⟨k + 1, A5, c5, by omega, by go_num, by rw [hR2'.out], by rw [hR2'.out]; exact hb5.out, hA5.out, hB.out.trans (hD5.out.mono lB)⟩
    case measure => simp [RowKit.intOf]; omega
  ·obtain rfl : k = m := by omega
   have hT : d.take k = d := by rw [hm.out, List.take_length]
   rw [hT] at hb ⊢
   obtain ⟨S, hS⟩ : ∃ S, S = 60 :: 60 :: showD d := ⟨_, rfl⟩
   obtain ⟨R, hR⟩ : ∃ R, R = S ++ [62, 62] := ⟨_, rfl⟩
   have hR2 : 60 :: 60 :: (showD d ++ [62, 62]) = R := by rw [hR, hS]; rfl
   have hzS : S.length ≤ 41943042 := by rw [hS]; have := hsl2.out; simp only [List.length_cons]; omega
   rw [← hS] at hb ⊢
   rw [hR2]
   have c34 : Calls Tryz.prog 102 #[.slice (some ⟨wr.heap.size, 0, none⟩) 1 1] (wr.alloc (.cells #[.string ⟨#[62, 62]⟩] 9)) (RB wr [62, 62]) := row1b wr _ (by decide)
   refine h7_ hS hR hR2 hT hb hB hAc ?_; clear hS hR hR2 hT hb hB hAc; intro hS hR hR2 hT hb hB hAc
   go_wp2_with (first
    | (go_at_call 102; (with_reducible refine c34.mono ?_); rintro e w2 ⟨A2, c2, rfl, hb2, hA2, hB2⟩; have c42 : Calls Tryz.prog 142 #[.slice (some ⟨w2.heap.size, 0, none⟩) 2 2] (w2.alloc (.cells #[.slice A S.length c, .slice A2 2 c2] 22)) (RB (w2.alloc (.cells #[.slice A S.length c, .slice A2 2 c2] 22)) R) := (by rw [hR.out]; exact cur_Of2 w2 A A2 c c2 S [62, 62] (hb.out.below hB2) hb2 (by simp only [List.length_cons, List.length_nil]; omega)); replace hb2 := hi_ hb2; replace hB2 := hi_ hB2; replace hA2 := hi_ hA2)
    | (go_at_call 142; (with_reducible refine c42.mono ?_); rintro e w3 ⟨A3, c3, rfl, hb3, hA3, hB3⟩; replace hb3 := hi_ hb3; replace hB3 := hi_ hB3; replace hA3 := hi_ hA3))
   go_ret
   rw [hR2.out]
   exact ⟨A3, c3, rfl, hb3.out, hA3.out, bthen hB.out (bthen hB2.out (bthen ((Below.refl _ _).alloc (Nat.le_refl _) _) hB3.out))⟩
theorem show_zero : ShowC 0 := fun o vs w _ h _ => by have := bulk_pos o; omega
theorem showC_up : ∀ N, N ≤ 1048576 → ShowC N
 | 0, _ => show_zero
 | N + 1, h => prt_show N h (showC_up N (by omega)) (prt_dict N (by omega) (showC_up N (by omega)))
theorem prt_show_all (o : Ob) (vs : List Value) (w : World) (h : ObAt w o vs) (hb : o.bulk ≤ 1048576) (ht : Tab w) : Calls Tryz.prog 76 #[.agg vs.toArray] w (RB w o.show) :=
 showC_up 1048576 (Nat.le_refl _) o vs w h hb ht
theorem five_cells {w : World} {v0 v1 v2 v3 v4 : Value} {W : World} (hW : W = w.alloc (.cells #[v0, v1, v2, v3, v4] 32)) :
 W.cell? ⟨w.heap.size, 0, none⟩ = some v0 ∧ W.cell? ⟨w.heap.size, 1, none⟩ = some v1 ∧ W.cell? ⟨w.heap.size, 2, none⟩ = some v2 ∧ W.cell? ⟨w.heap.size, 3, none⟩ = some v3 ∧ W.cell? ⟨w.heap.size, 4, none⟩ = some v4 := by
 subst hW
 refine ⟨?_, ?_, ?_, ?_, ?_⟩ <;> simp
theorem five_kept {p : Nat} {v0 v1 v2 v3 v4 : Value} {W W' : World} (h : W.cell? ⟨p, 0, none⟩ = some v0 ∧ W.cell? ⟨p, 1, none⟩ = some v1 ∧ W.cell? ⟨p, 2, none⟩ = some v2 ∧ W.cell? ⟨p, 3, none⟩ = some v3 ∧ W.cell? ⟨p, 4, none⟩ = some v4) (hb : Below W.heap.size W W') :
 W'.cell? ⟨p, 0, none⟩ = some v0 ∧ W'.cell? ⟨p, 1, none⟩ = some v1 ∧ W'.cell? ⟨p, 2, none⟩ = some v2 ∧ W'.cell? ⟨p, 3, none⟩ = some v3 ∧ W'.cell? ⟨p, 4, none⟩ = some v4 :=
 ⟨(hb.cell (cell_lt h.1)).trans h.1, (hb.cell (cell_lt h.2.1)).trans h.2.1, (hb.cell (cell_lt h.2.2.1)).trans h.2.2.1, (hb.cell (cell_lt h.2.2.2.1)).trans h.2.2.2.1, (hb.cell (cell_lt h.2.2.2.2)).trans h.2.2.2.2⟩
theorem cos_May (o : Ob) (vs : List Value) (w : World) (h : ObAt w o vs) (hbk : o.bulk ≤ 1048576) : Calls Tryz.prog 75 #[.agg vs.toArray] w fun e w' => e = .returned (.bool (o.may 28)) ∧ Below w.heap.size w w' := by
 obtain ⟨en, E1, E2, E3, en1, ec1, en2, ec2, en3, ec3, hys⟩ := ob_five2 h
 subst hys
 obtain ⟨k, hk⟩ : ∃ k, k = o.kind := ⟨_, rfl⟩
 rw [← hk] at h ⊢
 obtain ⟨W1, hW1, hb1⟩ := newA w 32 #[.int .i64 k, .int .i64 en, .slice E1 en1 ec1, .slice E2 en2 ec2, .slice E3 en3 ec3]
 have c : Calls Tryz.prog 101 #[.agg #[.int .i64 k, .int .i64 en, .slice E1 en1 ec1, .slice E2 en2 ec2, .slice E3 en3 ec3], .int .i64 28] W1 fun e w' => e = .returned (.bool (o.may 28)) ∧ Below W1.heap.size W1 w' := cos_mayC 28 (by omega) o _ W1 (h.kept hb1) hbk
 obtain ⟨f0, f1, f2, f3, f4⟩ := five_cells hW1
 replace hb1 := hi_ hb1
 clear h hk
 go_enter Tryz.func75, Tryz.ntmps75
 go_upto_region 1 with (fail)
 rw [← hW1]
 replace hW1 := hi_ hW1
 go_wp2_with (go_at_call 101; (with_reducible refine c.mono ?_); rintro e w2 ⟨rfl, hB⟩; replace hB := hi_ hB)
 go_ret
 exact ⟨rfl, bthen hb1.out hB.out⟩
def VR (w : World) (o : Ob) (e : Ending) (w' : World) : Prop := Below w.heap.size w w' ∧ ∃ A c n z, e = .returned (.tuple #[.slice A n c, .int .i64 z]) ∧ (A = none → c = 0) ∧
 ((o.kind ≠ 8 ∧ o.may 28 = true ∧ n = o.show.length ∧ Byt w' A o.show ∧ z = 0) ∨ (¬ (o.kind ≠ 8 ∧ o.may 28 = true) ∧ A = none ∧ n = 0 ∧ z = 1))
theorem prt_Value (o : Ob) (vs : List Value) (w : World) (h : ObAt w o vs) (hbk : o.bulk ≤ 1048576) (ht : Tab w) : Calls Tryz.prog 42 #[.agg vs.toArray] w (VR w o) := by
 obtain ⟨en, E1, E2, E3, en1, ec1, en2, ec2, en3, ec3, hys⟩ := ob_five2 h
 obtain ⟨k, hk⟩ : ∃ k, k = o.kind := ⟨_, rfl⟩
 rw [← hk] at hys
 subst hys
 obtain ⟨W1, hW1, hb1⟩ := newA w 32 #[.int .i64 k, .int .i64 en, .slice E1 en1 ec1, .slice E2 en2 ec2, .slice E3 en3 ec3]
 have c := cos_May o _ W1 (h.kept hb1) hbk
 have c31 := fun W (hW : Below W1.heap.size W1 W) => prt_show_all o _ W (h.kept (bthen hb1 hW)) hbk (ht.below (bthen hb1 hW))
 have f := five_cells hW1
 obtain ⟨f0, f1, f2, f3, f4⟩ := id f
 refine h3_ hb1 c31 f ?_; clear hb1 c31 f; intro hb1 c31 f
 obtain ⟨m, hm⟩ : ∃ m, m = o.may 28 := ⟨_, rfl⟩
 rw [← hm] at c
 clear h
 have hP : ∀ e w', (Below w.heap.size w w' ∧ ∃ A c n z, e = .returned (.tuple #[.slice A n c, .int .i64 z]) ∧ (A = none → c = 0) ∧ ((k ≠ 8 ∧ m = true ∧ n = o.show.length ∧ Byt w' A o.show ∧ z = 0) ∨ (¬ (k ≠ 8 ∧ m = true) ∧ A = none ∧ n = 0 ∧ z = 1))) → VR w o e w' := fun _ _ hh => by unfold VR; rw [← hk, ← hm]; exact hh
 replace hP := hi_ hP
 clear hk hm
 go_enter Tryz.func42, Tryz.ntmps42
 go_upto_region 1 with (fail)
 rw [← hW1]
 replace hW1 := hi_ hW1
 by_cases k8 : k = 8
 ·subst k8
  go_wp2
  go_ret2
  exact hP.out _ _ ⟨hb1.out, none, 0, 0, 1, rfl, fun _ => rfl, .inr ⟨by simp, rfl, rfl, rfl⟩⟩
 ·have q8 : (k == 8) = false := by simpa using k8
  cases m with
  | false =>
   go_wp2_with (go_at_call 75; (with_reducible refine c.mono ?_); rintro e w2 ⟨rfl, hB⟩; replace hB := hi_ hB)
   go_ret2
   exact hP.out _ _ ⟨bthen hb1.out hB.out, none, 0, 0, 1, rfl, fun _ => rfl, .inr ⟨by simp, rfl, rfl, rfl⟩⟩
  | true =>
   go_wp2_with (first
    | (go_at_call 75; (with_reducible refine c.mono ?_); rintro e w2 ⟨rfl, hB⟩; have g := five_kept f.out hB; obtain ⟨g0, g1, g2, g3, g4⟩ := g; have c' := c31.out w2 hB; replace hB := hi_ hB)
    | (go_at_call 76; (with_reducible refine c'.mono ?_); rintro e w3 ⟨A2, c2, rfl, hb2, hA2, hB2⟩; replace hb2 := hi_ hb2; replace hB2 := hi_ hB2; replace hA2 := hi_ hA2))
   go_ret2
   exact hP.out _ _ ⟨bthen hb1.out (bthen hB.out hB2.out), A2, c2, _, 0, rfl, hA2.out, .inl ⟨k8, by trivial, rfl, hb2.out, rfl⟩⟩
theorem addr_addL (b o i : Nat) : (⟨b, o, none⟩ : Addr).add i = ⟨b, o + i, none⟩ := by simp [Addr.add]
theorem ob_info : ∃ i, Tryz.prog.info? 32 = some i ∧ i.zero = some (.agg #[.int .i64 0, .int .i64 0, .slice none 0 0, .slice none 0 0, .slice none 0 0]) ∧ i.size = 5 ∧ i.bytes = 88 := ⟨Tryz.t32, by kernel_rfl, by kernel_rfl, by kernel_rfl, by kernel_rfl⟩
theorem en_info : ∃ i, Tryz.prog.info? 91 = some i ∧ i.zero = some (.agg #[.string ⟨#[]⟩, .int .i64 0, .int .i64 0, .slice none 0 0, .slice none 0 0, .slice none 0 0]) ∧ i.size = 6 ∧ i.bytes = 104 := ⟨Tryz.t91, by kernel_rfl, by kernel_rfl, by kernel_rfl, by kernel_rfl⟩
theorem one_five {us : List Value} {w : World} {o : Ob} (h : ObAt w o us) : ∀ u ∈ us, u.oneCell' = true := by
 cases h
 intro u hu
 simp at hu
 rcases hu with rfl | rfl | rfl | rfl | rfl <;> rfl
theorem app_ob {w : World} {ops : Array Oper} {rest : List Oper} {o : Oper} {a : Act} {Q : Exit → Act → World → Prop} (hgd : o.guard = none) (s x : Operand)
 (ho : o.op = .call { callee := .builtin .append, args := #[s, x], argTypes := #[29, 29] }) (B : Nat) (v : Value) (l : List Ob) (rss : List (List Value)) (hs : a.eval s = v) (hR : RowG ObI 32 5 B w v l rss)
 (g lo hi : Nat) (ob : Ob) (us : List Value) (hx : a.eval x = .slice (some ⟨g, 0, none⟩) 1 1) (hob : ObI lo hi w ob us) (hlo : B ≤ lo) (hne : ∀ g, v.ownBlock = some g → g < lo ∨ hi ≤ g)
 (hc : ∀ j u, us[j]? = some u → w.cell? ⟨g, j, none⟩ = some u) (hl : l.length ≤ 1000000000) (hB : B ≤ w.heap.size)
 (h : ∀ v' w', RowG ObI 32 5 B w' v' (l ++ [ob]) (rss ++ [us]) → w.grownBy w' v.ownBlock → (v'.ownBlock = v.ownBlock ∨ v'.ownBlock = some w.heap.size) → wpList Tryz.prog ops Q rest (a.put o.dst v') w') : wpList Tryz.prog ops Q (o :: rest) a w := by
 obtain ⟨i0, hi0, hz0, hz1, hz2⟩ := ob_info
 refine wpList_append_own_at w hgd s x 29 ho B 32 i0 _ 5 88 Tryz.underlying29 hi0 hz0 hz1 hz2 rfl (by decide) v l.length rss.flatten hs hR.row ⟨g, 0, none⟩ 1 1 us hx (by rw [hob.ob.five]) ?_ (one_five hob.ob) (by unfold maxLen; omega) (by omega) hB ?_
 ·intro j u hu; rw [addr_addL, Nat.zero_add]; exact hc j u hu
 ·intro v' w' h1 h2 _ h3
  exact h v' w' (hR.more ob_law hob hlo hne h1 h2 h3) h2 h3
theorem one_six {rs : List Value} {w : World} {lo hi : Nat} {e : List UInt8 × Ob} (h : EnI lo hi w e rs) : ∀ u ∈ rs, u.oneCell' = true := by
 obtain ⟨us, rfl, _, h3⟩ := h
 intro u hu
 rcases List.mem_cons.1 hu with rfl | hu
 ·rfl
 ·exact one_five h3.ob u hu
theorem app_en {w : World} {ops : Array Oper} {rest : List Oper} {o : Oper} {a : Act} {Q : Exit → Act → World → Prop} (hgd : o.guard = none) (s x : Operand)
 (ho : o.op = .call { callee := .builtin .append, args := #[s, x], argTypes := #[30, 30] }) (B : Nat) (v : Value) (l : List (List UInt8 × Ob)) (rss : List (List Value)) (hs : a.eval s = v) (hR : RowG EnI 91 6 B w v l rss)
 (g lo hi : Nat) (e : List UInt8 × Ob) (us : List Value) (hx : a.eval x = .slice (some ⟨g, 0, none⟩) 1 1) (hob : EnI lo hi w e us) (hlo : B ≤ lo) (hne : ∀ g, v.ownBlock = some g → g < lo ∨ hi ≤ g)
 (hc : ∀ j u, us[j]? = some u → w.cell? ⟨g, j, none⟩ = some u) (hl : l.length ≤ 1000000000) (hB : B ≤ w.heap.size)
 (h : ∀ v' w', RowG EnI 91 6 B w' v' (l ++ [e]) (rss ++ [us]) → w.grownBy w' v.ownBlock → (v'.ownBlock = v.ownBlock ∨ v'.ownBlock = some w.heap.size) → wpList Tryz.prog ops Q rest (a.put o.dst v') w') : wpList Tryz.prog ops Q (o :: rest) a w := by
 obtain ⟨i0, hi0, hz0, hz1, hz2⟩ := en_info
 refine wpList_append_own_at w hgd s x 30 ho B 91 i0 _ 6 104 Tryz.underlying30 hi0 hz0 hz1 hz2 rfl (by decide) v l.length rss.flatten hs hR.row ⟨g, 0, none⟩ 1 1 us hx (by rw [en_law.len hob]) ?_ (one_six hob) (by unfold maxLen; omega) (by omega) hB ?_
 ·intro j u hu; rw [addr_addL, Nat.zero_add]; exact hc j u hu
 ·intro v' w' h1 h2 _ h3
  exact h v' w' (hR.more en_law hob hlo hne h1 h2 h3) h2 h3
theorem own_empty (w : World) : Own w.heap.size (w.alloc (.cells #[] 5)) (.slice (some ⟨w.heap.size, 0, none⟩) 0 0) [] :=
 ⟨World.ownsRow_made w #[] 0 (Nat.le_refl _) (by decide) rfl⟩
theorem byt_Clone (A : Option Addr) (c : Nat) (bs : List UInt8) (w : World) (hb : Byt w A bs) (hA : A = none → c = 0) (hl : bs.length ≤ 1000000000) : Calls Tryz.prog 87 #[.slice A bs.length c] w (RO w bs) := by
 cases A with
 | none =>
  have hbs : bs = [] := by
   cases bs with
   | nil => rfl
   | cons y l => obtain ⟨b, o, e, _⟩ := hb.2 (by simp); cases e
  subst hbs
  obtain rfl := hA rfl
  have hq : (binOp .eql 22 (.slice none 0 0) (.slice none 0 0)).run Tryz.prog w = .ok (.bool true) w := Lib.run_eql_slice_nil w 22 5 none 0 0 0 0 Tryz.underlying22
  go_enter Tryz.func87, Tryz.ntmps87
  go_wp2
  go_ret
  exact ⟨_, rfl, Own.nil _ _, Below.refl _ _⟩
 | some ad =>
  have hb2 := hi_ (hb.below ((Below.refl _ _).alloc (Nat.le_refl _) (.cells #[] 5)))
  have hO := hi_ (own_empty w)
  have hB0 : Below w.heap.size w (w.alloc (.cells #[] 5)) := (Below.refl _ _).alloc (Nat.le_refl _) _
  replace hB0 := hi_ hB0
  obtain ⟨m, hm⟩ : ∃ m, m = bs.length := ⟨_, rfl⟩
  rw [← hm]
  replace hm := hi_ hm
  have hq : (binOp .eql 22 (.slice (some ad) m c) (.slice none 0 0)).run Tryz.prog w = .ok (.bool false) w := Lib.run_eql_slice_nil w 22 5 (some ad) m c 0 0 Tryz.underlying22
  clear hb hA
  go_enter Tryz.func87, Tryz.ntmps87
  go_wp2_with (at_builtin; refine app_b rfl _ _ rfl w.heap.size _ _ rfl hO.out (some ad) _ c bs rfl hm.out hb2.out (fun e => (by cases e)) (by simp only [List.length_nil]; omega) (by rw [World.size_alloc]; omega) ?_; intro v' w2 hO2 hB2; replace hO2 := hi_ hO2; replace hB2 := hi_ hB2)
  go_ret
  exact ⟨_, rfl, by simpa using hO2.out, hB0.out.trans hB2.out⟩

end Go.Proofs.YthffpbkndnhlfaaGreatDoor
namespace Go.Rd
open Go Go.Wk Go.Fx
theorem blank_len : ∀ (b : Bool) (r : Bs), (blankM b r).length ≤ r.length
 | true, [] => Nat.le_refl _
 | false, [] => Nat.le_refl _
 | true, c :: r => by
  have h1 := blank_len false r
  have h2 := blank_len true r
  rw [blankM]; split <;> simp only [List.length_cons] <;> omega
 | false, c :: r => by
  have h1 := blank_len false r
  have h2 := blank_len true r
  rw [blankM]
  split
  ·simp only [List.length_cons]; omega
  ·split <;> simp only [List.length_cons] <;> omega
theorem name_cut : ∀ (f : Nat) (out r b u : Bs), nameS f out r = .ok b u → b.length + u.length ≤ out.length + r.length
 | 0, out, r, b, u, h => by rw [nameS] at h; cases h
 | f + 1, out, [], b, u, h => by rw [nameS] at h; cases h; simp
 | f + 1, out, x :: t, b, u, h => by
  rw [nameS] at h
  repeat' split at h
  all_goals first
   | (cases h; done)
   | (cases h; simp; done)
   | (have := name_cut _ _ _ _ _ h; simp only [List.length_append, List.length_cons, List.length_nil, List.length_drop] at this ⊢; omega)
theorem eol_cut (x : UInt8) (t : Bs) : (eolS x t).length ≤ t.length := by unfold eolS; split <;> simp
theorem oct_cut : ∀ (k n : Nat) (r : Bs), (octS k n r).2.length ≤ r.length
 | 0, n, r => Nat.le_refl _
 | k + 1, n, [] => Nat.le_refl _
 | k + 1, n, c :: r => by
  rw [octS]
  split
  ·have := oct_cut k (8 * n + (c.toNat - 48)) r
   simp only [List.length_cons]; omega
  ·exact Nat.le_refl _
theorem esc_cut (d : UInt8) (t : Bs) : (escS d t).2.length ≤ t.length := by
 unfold escS
 split
 ·exact eol_cut d t
 split
 ·exact oct_cut _ _ _
 ·exact Nat.le_refl _
theorem text_cut : ∀ (f op : Nat) (out r b u : Bs), textS f op out r = .ok b u → b.length + u.length ≤ out.length + r.length
 | 0, op, out, r, b, u, h => by rw [textS] at h; cases h
 | f + 1, op, out, [], b, u, h => by rw [textS] at h; cases h
 | f + 1, op, out, x :: t, b, u, h => by
  rw [textS.eq_def] at h
  simp only [] at h
  split at h
  ·split at h
   ·cases h
   ·rename_i d v
    have he := esc_cut d v
    cases hE : escS d v with
    | mk o w =>
     rw [hE] at h he
     cases o with
     | none => have := text_cut _ _ _ _ _ _ h; simp only [List.length_cons] at this he ⊢; omega
     | some y =>
      simp only [] at h
      split at h
      ·cases h
      ·have := text_cut _ _ _ _ _ _ h
       simp only [List.length_append, List.length_cons, List.length_nil] at this he ⊢
       omega
  ·split at h
   ·cases h; simp
   ·split at h
    ·cases h
    ·split at h
     ·have := text_cut _ _ _ _ _ _ h
      have h9 := eol_cut x t
      simp only [List.length_append, List.length_cons, List.length_nil] at this ⊢
      omega
     ·have := text_cut _ _ _ _ _ _ h
      simp only [List.length_append, List.length_cons, List.length_nil] at this ⊢
      omega
theorem hex_cut : ∀ (f : Nat) (g : Int) (out r b u : Bs), hexR f g out r = .ok b u → b.length + u.length ≤ out.length + r.length
 | 0, g, out, r, b, u, h => by rw [hexR] at h; cases h
 | f + 1, g, out, [], b, u, h => by rw [hexR] at h; cases h
 | f + 1, g, out, x :: t, b, u, h => by
  rw [hexR] at h
  repeat' split at h
  all_goals first
   | (cases h; done)
   | (cases h; simp; done)
   | (cases h; simp only [List.length_append, List.length_cons, List.length_nil]; omega)
   | (have := hex_cut _ _ _ _ _ _ h; simp only [List.length_append, List.length_cons, List.length_nil] at this ⊢; omega)
theorem num_reg {c : UInt8} (h : numC c = true) : regB c = true := by
 unfold numC at h
 simp only [Bool.or_eq_true, beq_iff_eq] at h
 rcases h with ((h | h) | h) | h
 ·rw [h]; decide
 ·rw [h]; decide
 ·rw [h]; decide
 ·exact (dig_ok (by unfold isD; exact h)).1
theorem run_pos {c : UInt8} {t : Bs} (h : regB c = true) : 1 ≤ (runS (c :: t)).length ∧ (runS (c :: t)).length ≤ (c :: t).length := by
 refine ⟨?_, (List.takeWhile_prefix (p := regB) (l := c :: t)).length_le⟩
 unfold runS
 rw [List.takeWhile_cons, if_pos h]; simp
def tokW (k : Tok) : Nat := if k.k = 0 then 0 else if k.k = 9 then 1 else k.b.length + 1
theorem tokA_len : ∀ {r u : Bs} {k : Tok}, tokA r = .ok k u → tokW k + u.length ≤ r.length
 | [], u, k, h => by rw [tokA] at h; cases h; simp [tokW]
 | c :: t, u, k, h => by
  rw [tokA] at h
  have hw0 : ∀ n, tokW ⟨n, 0, []⟩ ≤ 1 := fun n => by unfold tokW; split <;> (try split) <;> simp
  have ht : ∀ n R, tokOf n (c :: t) R = .ok k u → (∀ b v, R = .ok b v → b.length + v.length ≤ t.length) → tokW k + u.length ≤ (c :: t).length := fun n R h hR => by
   cases R with
   | err e v => cases h
   | ok b w =>
    have hq := hR b w rfl
    simp only [tokOf] at h
    cases h
    have : tokW ⟨n, 0, b⟩ ≤ b.length + 1 := by unfold tokW; split <;> (try split) <;> simp
    simp only [List.length_cons]; omega
  split at h
  ·cases h; have := hw0 5; simp only [List.length_cons]; omega
  split at h
  ·cases h; have := hw0 6; simp only [List.length_cons]; omega
  split at h
  ·cases h; have := hw0 7; simp only [List.length_cons, List.length_drop]; omega
  split at h
  ·cases h; have := hw0 8; simp only [List.length_cons, List.length_drop]; omega
  split at h
  ·exact ht _ _ h fun b v e => by simpa using name_cut _ _ _ _ _ e
  split at h
  ·exact ht _ _ h fun b v e => by simpa using text_cut _ _ _ _ _ _ e
  split at h
  ·exact ht _ _ h fun b v e => by simpa using hex_cut _ _ _ _ _ _ e
  split at h
  ·rename_i hn
   have hp := run_pos (t := t) (num_reg hn)
   unfold numS at h
   split at h
   ·cases h
    have : ∀ n m, tokW ⟨n, m, []⟩ ≤ 1 := fun n m => by unfold tokW; split <;> (try split) <;> simp
    have := this (if (parseS (runS (c :: t))).2.1 = true then 1 else 2) (parseS (runS (c :: t))).1
    rw [List.length_drop]; omega
   ·cases h
  split at h
  ·rename_i hr
   have hp := run_pos (t := t) hr
   split at h
   ·cases h
   ·cases h
    have : tokW ⟨9, 0, runS (c :: t)⟩ = 1 := rfl
    rw [List.length_drop]; omega
  ·cases h
theorem tok_len {r u : Bs} {k : Tok} (h : tokS r = .ok k u) : tokW k + u.length ≤ r.length := by
 have h1 := tokA_len (show tokA (blankM false r) = .ok k u from h)
 have h2 := blank_len false r
 omega
theorem whole_len (pl : Bool) (n : Int) (r : Bs) : (wholeS pl n r).1.bulk = 1 ∧ (wholeS pl n r).2.length ≤ r.length := by
 have hb : ∀ k : Int, (Ob.mk k n [] [] []).bulk = 1 := fun k => by simp [Ob.bulk, bulkL, bulkD]
 unfold wholeS
 split
 ·cases ht : tokS r with
  | err e u => exact ⟨hb 2, Nat.le_refl _⟩
  | ok t u =>
   have h1 := tok_len ht
   simp only []
   split
   ·cases ht2 : tokS u with
    | err e v => exact ⟨hb 2, Nat.le_refl _⟩
    | ok s v =>
     have h2 := tok_len ht2
     simp only []
     split
     ·exact ⟨hb 9, by show v.length ≤ r.length; omega⟩
     ·exact ⟨hb 2, Nat.le_refl _⟩
   ·exact ⟨hb 2, Nat.le_refl _⟩
 ·exact ⟨hb 2, Nat.le_refl _⟩
theorem bulkL_app2 : ∀ (a b : List Ob), bulkL (a ++ b) = bulkL a + bulkL b
 | [], b => by simp [bulkL]
 | x :: a, b => by simp only [List.cons_append, bulkL, bulkL_app2 a b]; omega
theorem bulkD_app2 : ∀ (a b : List (Bs × Ob)), bulkD (a ++ b) = bulkD a + bulkD b
 | [], b => by simp [bulkD]
 | x :: a, b => by simp only [List.cons_append, bulkD, bulkD_app2 a b]; omega
theorem with_bulk (K : Bs) (X : Ob) : ∀ (d : List (Bs × Ob)) (pb : Bool), bulkD (withL K X pb d) ≤ bulkD d + (if pb then 0 else K.length + X.bulk + 1)
 | [], pb => by cases pb <;> simp [withL, bulkD]
 | e :: r, pb => by
  have h0 := with_bulk K X r (pb || !ltB e.1 K)
  have h1 : bulkD (if e.1 = K then ([] : List (Bs × Ob)) else [e]) ≤ e.1.length + e.2.bulk + 1 := by split <;> simp [bulkD]
  rw [withL, bulkD_app2, bulkD_app2, bulkD]
  generalize bulkD (if e.1 = K then ([] : List (Bs × Ob)) else [e]) = E at h1 ⊢
  obtain ⟨lt, hlt⟩ : ∃ b, b = ltB e.1 K := ⟨_, rfl⟩
  rw [← hlt] at h0 ⊢
  generalize bulkD (withL K X (pb || !lt) r) = G at h0 ⊢
  clear hlt
  cases pb <;> cases lt <;> simp only [Bool.not_true, Bool.not_false, Bool.and_true, Bool.and_false, Bool.or_true, Bool.or_false, Bool.false_eq_true, if_true, if_false, bulkD] at h0 ⊢ <;> omega
def Cut (val : Bs → Res Ob) : Prop := ∀ r o u, val r = .ok o u → o.bulk + u.length ≤ r.length
theorem arr_cut {val : Bs → Res Ob} (hv : Cut val) : ∀ (f : Nat) (acc : List Ob) (r : Bs) (l : List Ob) (u : Bs), arrS val f acc r = .ok l u → bulkL l + u.length + 1 ≤ bulkL acc + r.length
 | 0, acc, r, l, u, h => by rw [arrS] at h; cases h
 | f + 1, acc, r, l, u, h => by
  rw [arrS] at h
  cases ht : tokS r with
  | err e v => rw [ht] at h; cases h
  | ok k v =>
   have h1 := tok_len ht
   rw [ht] at h
   simp only [] at h
   split at h
   ·rename_i hk
    cases h
    have : 1 ≤ tokW k := by unfold tokW; rw [hk]; simp
    omega
   ·cases hV : val r with
    | err e v => rw [hV] at h; cases h
    | ok o v =>
     rw [hV] at h
     have h2 := hv r o v hV
     have h3 := arr_cut hv f _ v l u h
     rw [bulkL_app2] at h3
     simp only [bulkL] at h3
     omega
theorem dict_cut {val : Bs → Res Ob} (hv : Cut val) : ∀ (f : Nat) (keys : List Bs) (acc : List (Bs × Ob)) (r : Bs) (l : List (Bs × Ob)) (u : Bs), dictS val f keys acc r = .ok l u → bulkD l + u.length + 1 ≤ bulkD acc + r.length
 | 0, keys, acc, r, l, u, h => by rw [dictS] at h; cases h
 | f + 1, keys, acc, r, l, u, h => by
  rw [dictS] at h
  cases ht : tokS r with
  | err e v => rw [ht] at h; cases h
  | ok k v =>
   have h1 := tok_len ht
   rw [ht] at h
   simp only [] at h
   split at h
   ·rename_i hk
    cases h
    have : 1 ≤ tokW k := by unfold tokW; rw [hk]; simp
    omega
   split at h
   ·cases h
   split at h
   ·cases h
   rename_i hk4
   have hk4 : k.k = 4 := by simpa using hk4
   split at h
   ·cases h
   cases hV : val v with
   | err e v => rw [hV] at h; cases h
   | ok o v2 =>
    rw [hV] at h
    have h2 := hv v o v2 hV
    have h3 := dict_cut hv f _ _ v2 l u h
    have h4 := with_bulk k.b o acc (o.kind == 0)
    have h5 : tokW k = k.b.length + 1 := by unfold tokW; rw [hk4]; simp
    have h6 : bulkD (putE k.b o acc) ≤ bulkD acc + (k.b.length + o.bulk + 1) := by unfold putE; split at h4 <;> omega
    omega
theorem val_cut (pl : Bool) : ∀ d, Cut (valS pl d) := by
 intro d
 induction d using Nat.strongRecOn with
 | _ d IH =>
  intro r o u h
  rw [valS.eq_def] at h
  cases ht : tokS r with
  | err e v => rw [ht] at h; cases h
  | ok k v =>
   have h1 := tok_len ht
   have hb0 : ∀ (m n : Int) (b : Bs), (Ob.mk m n b [] []).bulk = b.length + 1 := fun m n b => by simp [Ob.bulk, bulkL, bulkD]
   rw [ht] at h
   simp only [] at h
   split at h
   ·cases h
   rename_i hk0
   have hw : 1 ≤ tokW k := by unfold tokW; rw [if_neg hk0]; split <;> omega
   split at h
   ·cases h; have := whole_len pl k.n v; omega
   split at h
   ·cases h; rw [hb0]; simp only [List.length_nil]; omega
   split at h
   ·rename_i hk; cases h; rw [hb0]
    have : tokW k = k.b.length + 1 := by unfold tokW; rw [hk]; simp
    omega
   split at h
   ·rename_i hk; cases h; rw [hb0]
    have : tokW k = k.b.length + 1 := by unfold tokW; rw [hk]; simp
    omega
   split at h
   ·unfold wordS at h
    repeat' split at h
    all_goals first
     | (cases h; done)
     | (rename_i e; repeat' split at e
        all_goals first
         | (cases e; done)
         | (cases e; cases h; rw [hb0]; simp only [List.length_nil]; omega))
   split at h
   ·cases d with
    | zero => cases h
    | succ d =>
     simp only [] at h
     cases hA : arrS (valS pl d) (v.length + 1) [] v with
     | err e w => rw [hA] at h; cases h
     | ok l w =>
      rw [hA] at h
      cases h
      have := arr_cut (IH d (by omega)) _ _ _ _ _ hA
      simp only [bulkL] at this
      simp only [Ob.bulk, List.length_nil, bulkD]
      omega
   split at h
   ·cases d with
    | zero => cases h
    | succ d =>
     simp only [] at h
     cases hA : dictS (valS pl d) (v.length + 1) [] [] v with
     | err e w => rw [hA] at h; cases h
     | ok l w =>
      rw [hA] at h
      cases h
      have := dict_cut (IH d (by omega)) _ _ _ _ _ _ hA
      simp only [bulkD] at this
      simp only [Ob.bulk, List.length_nil, bulkL]
      omega
   ·cases h
end Go.Rd
namespace Go.Proofs.YthffpbkndnhlfaaGreatDoor
open Go Go.RowKit Go.Wk Go.Rd Go.Fx
def ValP (P L R : Nat) (A : Option Addr) (c : Nat) (bs : Bs) (d : Nat) (pl : Bool) (w : World) (res : Res Ob) (e : Ending) (w' : World) : Prop := match res with
 | .ok o u => ∃ us, e = .returned (.tuple #[.agg (List.toArray us), .int .i64 0]) ∧ ObI w.heap.size w'.heap.size w' o us ∧ PS P L R A c bs d pl w' u ∧ Fr L R w w'
 | .err n u => n ≠ 0 ∧ e = .returned (.tuple #[.agg #[.int .i64 0, .int .i64 0, .slice none 0 0, .slice none 0 0, .slice none 0 0], .int .i64 n]) ∧ PS P L R A c bs d pl w' u ∧ Fr L R w w'
def ValCP (pl : Bool) (dd : Nat) : Prop := ∀ (P L R : Nat) (A : Option Addr) (c : Nat) (bs : Bs) (d : Nat) (w : World) (r : Bs), bs.length ≤ 100000000 → PS P L R A c bs d pl w r → Calls Tryz.prog 64 #[.pointer (some ⟨P, 0, none⟩), .int .i64 (dd : Nat)] w (ValP P L R A c bs d pl w (valS pl dd r))
structure AS (W : World) (P L R : Nat) (A : Option Addr) (c : Nat) (bs : Bs) (d : Nat) (pl : Bool) (acc : List Ob) (vL : Value) (rl : List (List Value)) (X : World) (r : Bs) : Prop where
 ps : PS P L R A c bs d pl X r
 fr : Fr L R W X
 bT : Blk X W.heap.size 32 #[.int .i64 0, .int .i64 0, .slice none 0 0, .slice none 0 0, .slice none 0 0]
 bO : Blk X (W.heap.size + 1) 32 #[.int .i64 6, .int .i64 0, .slice none 0 0, vL, .slice none 0 0]
 rows : RowG ObI 32 5 (W.heap.size + 2) X vL acc rl
 lL : L < W.heap.size
 lR : R < W.heap.size
 lP : P < W.heap.size
 off : 0 < bs.length → ∀ x, A = some x → x.block < W.heap.size
 sz : W.heap.size + 2 ≤ X.heap.size
section
variable {P L R : Nat} {A : Option Addr} {c : Nat} {bs : Bs} {d dd : Nat} {pl : Bool} {W X X' w w' : World} {r r' u v : Bs} {k s : Tok} {acc : List Ob} {vL : Value} {rl : List (List Value)}
theorem RowG.baseL {α : Type} {I : Nat → Nat → World → α → List Value → Prop} {e : TypeId} {sz B B' : Nat} {w : World} {v : Value} {l : List α} {rss : List (List Value)} (h : RowG I e sz B w v l rss) (hB : B' ≤ B) : RowG I e sz B' w v l rss := by
 refine ⟨h.len, ⟨h.row.1, ?_⟩, fun i hi => ?_⟩
 ·rcases h.row.2 with h2 | ⟨g, cap, cur, e', hg, rest⟩
  ·exact .inl h2
  ·exact .inr ⟨g, cap, cur, e', Nat.le_trans hB hg, rest⟩
 ·obtain ⟨lo, hi', h1, h2, h3⟩ := h.it i hi
  exact ⟨lo, hi', Nat.le_trans hB h1, h2, h3⟩
theorem new_cellsL (w : World) (us : List Value) (t : TypeId) : ∀ j u, us[j]? = some u → (w.alloc (.cells us.toArray t)).cell? ⟨w.heap.size, j, none⟩ = some u := fun j u hu => by
 have h0 := alloc_cell (w := w) (vs := us.toArray) (e := t) (i := j)
 rw [Nat.zero_add] at h0
 rw [h0]
 simpa using hu
theorem five_exL {w : World} {o : Ob} {vs : List Value} (h : ObAt w o vs) : ∃ (k n : Int) (A1 A2 A3 : Option Addr) (n1 c1 n2 c2 n3 c3 : Nat), vs = [.int .i64 k, .int .i64 n, .slice A1 n1 c1, .slice A2 n2 c2, .slice A3 n3 c3] := by
 cases h
 exact ⟨_, _, _, _, _, _, _, _, _, _, _, rfl⟩
theorem AS.to (h : AS W P L R A c bs d pl acc vL rl X r) (hP : PS P L R A c bs d pl X' r') (hF : Fr L R X X') : AS W P L R A c bs d pl acc vL rl X' r' :=
 ⟨hP, h.fr.trans hF, hF.blk (by have := h.lL; omega) (by have := h.lR; omega) h.bT, hF.blk (by have := h.lL; omega) (by have := h.lR; omega) h.bO,
  h.rows.far ob_law (fun k h1 h2 => hF.block k h2 (by have := h.lL; omega) (by have := h.lR; omega)) hF.size, h.lL, h.lR, h.lP, h.off, Nat.le_trans h.sz hF.size⟩
theorem AS.belowW (h : AS W P L R A c bs d pl acc vL rl X r) (hb : Below X.heap.size X X') : AS W P L R A c bs d pl acc vL rl X' r := h.to (h.ps.belowW hb) (Fr.of_below hb)
theorem px_array (hv : ValCP pl dd) (hsm6 : bs.length ≤ 100000000) (W : World) (h : PS P L R A c bs d pl W r) : Calls Tryz.prog 94 #[.pointer (some ⟨P, 0, none⟩), .int .i64 (dd : Nat)] W (ValP P L R A c bs d pl W (match arrS (valS pl dd) (r.length + 1) [] r with | .ok l v => .ok (.mk 6 0 [] l []) v | .err e v => .err e v)) := by
 obtain ⟨W1, hW1⟩ : ∃ W1, W1 = (W.alloc (.cells #[.int .i64 0, .int .i64 0, .slice none 0 0, .slice none 0 0, .slice none 0 0] 32)).alloc (.cells #[.int .i64 6, .int .i64 0, .slice none 0 0, .slice none 0 0, .slice none 0 0] 32) := ⟨_, rfl⟩
 have b1 : Below W.heap.size W W1 := by rw [hW1]; exact ((Below.refl _ _).alloc (Nat.le_refl _) _).alloc (by rw [World.size_alloc]; omega) _
 have z1 : W1.heap.size = W.heap.size + 2 := by rw [hW1, World.size_alloc, World.size_alloc]
 have hR1 : Blk W1 W.heap.size 32 #[.int .i64 0, .int .i64 0, .slice none 0 0, .slice none 0 0, .slice none 0 0] := by rw [hW1]; exact (Blk.new W _ _).alloc _
 have hO1 : Blk W1 (W.heap.size + 1) 32 #[.int .i64 6, .int .i64 0, .slice none 0 0, .slice none 0 0, .slice none 0 0] := by
  rw [hW1, show W.heap.size + 1 = (W.alloc (.cells #[.int .i64 0, .int .i64 0, .slice none 0 0, .slice none 0 0, .slice none 0 0] 32)).heap.size from (World.size_alloc _ _).symm]; exact Blk.new _ _ _
 have hA : AS W P L R A c bs d pl [] (.slice none 0 0) [] W1 r := ⟨h.belowW b1, Fr.of_below b1, hR1, hO1, RowG.nil _ _ _ _ _, h.L_lt, h.R_lt, h.P_lt, h.a_lt, by omega⟩
 obtain ⟨K, hK⟩ : ∃ K, K = arrS (valS pl dd) (r.length + 1) [] r := ⟨_, rfl⟩
 rw [← hK]
 have hsm := h.small
 have hrb := suf_len h.suf
 refine h6_ hK hA hv hsm6 hsm hrb ?_; clear hK hA hv hsm6 hsm hrb; intro hK hA hv hsm6 hsm hrb
 clear h b1 z1 hR1 hO1
 go_enter Tryz.func94, Tryz.ntmps94
 go_upto_region 2 with fail
 rw [← hW1]
 replace hW1 := hi_ hW1
 go_loopw [] (fun wr => ∃ (f : Nat) (acc : List Ob) (vL : Value) (rl : List (List Value)) (r1 : Bs), AS W P L R A c bs d pl acc vL rl wr r1 ∧ arrS (valS pl dd) f acc r1 = K ∧ r1.length < f ∧ acc.length + r1.length ≤ r.length) (fun wr => bs.length + 1 - posOf L wr)
 case atStart => exact ⟨_, [], _, [], r, hA.out, hK.out.symm, Nat.lt_succ_self _, by simp⟩
 case round =>
  clear hA hK
  obtain ⟨f, acc, vL, rl, r1, hA, hE, hf, hacc⟩ := hrel
  obtain ⟨f, rfl⟩ : ∃ g, f = g + 1 := ⟨f - 1, by omega⟩
  have hbw : bs.length + 1 - posOf L wr = r1.length + 1 := by rw [hA.ps.posOf]; have := pos_len hA.ps.suf; have := pos_le bs r1; omega
  obtain ⟨AL, cL, gL, rfl, hgc, hgn, hga, hgm, _⟩ := hA.rows.out ob_law (by omega)
  have hltG : ∀ g, (Value.slice AL acc.length cL).ownBlock = some g → W.heap.size + 2 ≤ g ∧ g < wr.heap.size := fun g hg => ⟨(hA.rows.row.lt g hg).1, (hA.rows.row.lt g hg).2⟩
  have p0 := hA.ps.p0
  have q0 := hA.ps.q0
  have t0 := hA.bT.cell 0
  have f0 := hA.bT.frozen 0
  have o0 := hA.bO.cell 0
  have t1 := hA.bT.cell 1
  have f1 := hA.bT.frozen 1
  have o1 := hA.bO.cell 1
  have t2 := hA.bT.cell 2
  have f2 := hA.bT.frozen 2
  have o2 := hA.bO.cell 2
  have t3 := hA.bT.cell 3
  have f3 := hA.bT.frozen 3
  have o3 := hA.bO.cell 3
  have t4 := hA.bT.cell 4
  have f4 := hA.bT.frozen 4
  have o4 := hA.bO.cell 4
  have cps := hi_ fun W h => ps_pos (P := P) (L := L) (R := R) (A := A) (c := c) (bs := bs) (d := d) (pl := pl) (r := r1) W h
  have hsuf := hA.ps.suf
  have csk := hi_ fun (r2 : Bs) W h => ps_seek (P := P) (L := L) (R := R) (A := A) (c := c) (bs := bs) (d := d) (pl := pl) (r := r2) hsuf rfl W h
  obtain ⟨p, hp⟩ : ∃ p : Int, p = (pos bs r1 : Nat) := ⟨_, rfl⟩
  rw [← hp] at cps csk
  obtain ⟨at1, ha1⟩ : ∃ a : Int, a = (pos bs (blankM false r1) : Nat) := ⟨_, rfl⟩
  refine h8_ hp hsuf hA hf hacc hbw hltG hE ?_; clear hp hsuf hA hf hacc hbw hltG hE; intro hp hsuf hA hf hacc hbw hltG hE
  clear hgc hgn hga hgm
  cases ht : tokS r1 with
  | err n u =>
   have ct := hi_ fun W h => px_err (P := P) (L := L) (R := R) (A := A) (c := c) (bs := bs) (d := d) (pl := pl) ht ha1 W h
   obtain rfl : K = .err n u := by rw [← hE.out, arrS, ht]
   clear hE ht
   replace ha1 := hi_ ha1
   go_upto_region 4 with (first | (go_at_call 14; (with_reducible refine (cps.out _ hA.out.ps).mono ?_); rintro e w2 ⟨rfl, rfl⟩) | (go_at_call 82; (with_reducible refine (ct.out _ hA.out.ps).mono ?_); rintro e w4 ⟨hn0, rfl, hP2, hF2⟩; replace hA := hi_ (hA.out.to hP2 hF2); replace p0 := hA.out.ps.p0; replace q0 := hA.out.ps.q0; replace t0 := hA.out.bT.cell 0; replace f0 := hA.out.bT.frozen 0; replace o0 := hA.out.bO.cell 0; replace t1 := hA.out.bT.cell 1; replace f1 := hA.out.bT.frozen 1; replace o1 := hA.out.bO.cell 1; replace t2 := hA.out.bT.cell 2; replace f2 := hA.out.bT.frozen 2; replace o2 := hA.out.bO.cell 2; replace t3 := hA.out.bT.cell 3; replace f3 := hA.out.bT.frozen 3; replace o3 := hA.out.bO.cell 3; replace t4 := hA.out.bT.cell 4; replace f4 := hA.out.bT.frozen 4; replace o4 := hA.out.bO.cell 4; have hnb := bne_iff_ne.2 hn0; replace hn0 := hi_ hn0; clear hP2 hF2))
   obtain ⟨W5, hW5, b5, hU5⟩ := newB w4 108 #[.int .i64 0, .int .i64 at1, .int .i64 0, .slice none 0 0]
   rw [← hW5]
   have k50 := hU5.cell 0
   have k51 := hU5.cell 1
   replace hA := hi_ (hA.out.belowW b5)
   replace p0 := hA.out.ps.p0; replace q0 := hA.out.ps.q0; replace t0 := hA.out.bT.cell 0; replace f0 := hA.out.bT.frozen 0; replace o0 := hA.out.bO.cell 0; replace t1 := hA.out.bT.cell 1; replace f1 := hA.out.bT.frozen 1; replace o1 := hA.out.bO.cell 1; replace t2 := hA.out.bT.cell 2; replace f2 := hA.out.bT.frozen 2; replace o2 := hA.out.bO.cell 2; replace t3 := hA.out.bT.cell 3; replace f3 := hA.out.bT.frozen 3; replace o3 := hA.out.bO.cell 3; replace t4 := hA.out.bT.cell 4; replace f4 := hA.out.bT.frozen 4; replace o4 := hA.out.bO.cell 4
   refine h3_ hU5 b5 hW5 ?_; clear hU5 b5 hW5; intro hU5 b5 hW5
   go_wp2
   generalize hWf : World.setCell _ _ _ = Wf
   replace hWf := hWf.symm
   obtain ⟨hb, hg⟩ := set5L hA.out.bT hWf
   obtain ⟨u0, u1, u2, u3, u4, -⟩ := hb.b5
   have hPf := hi_ (hA.out.ps.grownL hg (by have := hA.out.lL; omega) (by have := hA.out.lR; omega) (by have := hA.out.lP; omega) (fun h0 x hx => by have := hA.out.off h0 x hx; omega))
   have hFf := hi_ (hA.out.fr.grownL hg (Nat.le_refl _))
   replace hg := hi_ hg
   replace hWf := hi_ hWf
   clear hb t0 t1 t2 t3 t4 f0 f1 f2 f3 f4 o0 o1 o2 o3 o4
   refine bodyPost_ret (by simp [results, Tryz.results94, go_sem, u0, u1, u2, u3, u4]; try rfl) rfl ?_
   exact ⟨hn0.out, rfl, hPf.out, hFf.out⟩
  | ok k u =>
   have ct := hi_ fun W h => px_ok (P := P) (L := L) (R := R) (A := A) (c := c) (bs := bs) (d := d) (pl := pl) ht ha1 W h
   replace ha1 := hi_ ha1
   obtain ⟨kk, hkk⟩ : ∃ x, x = k.k := ⟨_, rfl⟩
   rw [← hkk] at ct
   by_cases hk6 : kk = 6
   ·have hE2 : K = .ok acc u := by rw [← hE.out, arrS, ht]; simp only [if_pos (hkk.symm.trans hk6)]
    subst hE2
    replace hkk := hi_ hkk
    subst hk6
    clear hE ht
    go_upto_region 4 with (first | (go_at_call 14; (with_reducible refine (cps.out _ hA.out.ps).mono ?_); rintro e w2 ⟨rfl, rfl⟩) | (go_at_call 82; (with_reducible refine (ct.out _ hA.out.ps).mono ?_); rintro e w4 ⟨a2, c2, rfl, hO, hP2, hF2⟩; replace hA := hi_ (hA.out.to hP2 hF2); replace p0 := hA.out.ps.p0; replace q0 := hA.out.ps.q0; replace t0 := hA.out.bT.cell 0; replace f0 := hA.out.bT.frozen 0; replace o0 := hA.out.bO.cell 0; replace t1 := hA.out.bT.cell 1; replace f1 := hA.out.bT.frozen 1; replace o1 := hA.out.bO.cell 1; replace t2 := hA.out.bT.cell 2; replace f2 := hA.out.bT.frozen 2; replace o2 := hA.out.bO.cell 2; replace t3 := hA.out.bT.cell 3; replace f3 := hA.out.bT.frozen 3; replace o3 := hA.out.bO.cell 3; replace t4 := hA.out.bT.cell 4; replace f4 := hA.out.bT.frozen 4; replace o4 := hA.out.bO.cell 4; clear hP2 hF2 hO))
    obtain ⟨W5, hW5, b5, hU5⟩ := newB w4 108 #[.int .i64 6, .int .i64 at1, .int .i64 k.n, .slice a2 k.b.length c2]
    rw [← hW5]
    have k50 := hU5.cell 0
    have k51 := hU5.cell 1
    replace hA := hi_ (hA.out.belowW b5)
    replace p0 := hA.out.ps.p0; replace q0 := hA.out.ps.q0; replace t0 := hA.out.bT.cell 0; replace f0 := hA.out.bT.frozen 0; replace o0 := hA.out.bO.cell 0; replace t1 := hA.out.bT.cell 1; replace f1 := hA.out.bT.frozen 1; replace o1 := hA.out.bO.cell 1; replace t2 := hA.out.bT.cell 2; replace f2 := hA.out.bT.frozen 2; replace o2 := hA.out.bO.cell 2; replace t3 := hA.out.bT.cell 3; replace f3 := hA.out.bT.frozen 3; replace o3 := hA.out.bO.cell 3; replace t4 := hA.out.bT.cell 4; replace f4 := hA.out.bT.frozen 4; replace o4 := hA.out.bO.cell 4
    refine h3_ hU5 b5 hW5 ?_; clear hU5 b5 hW5; intro hU5 b5 hW5
    go_wp2
    generalize hWf : World.setCell _ _ _ = Wf
    replace hWf := hWf.symm
    obtain ⟨hb, hg⟩ := set5L hA.out.bT hWf
    obtain ⟨u0, u1, u2, u3, u4, -⟩ := hb.b5
    have hPf := hi_ (hA.out.ps.grownL hg (by have := hA.out.lL; omega) (by have := hA.out.lR; omega) (by have := hA.out.lP; omega) (fun h0 x hx => by have := hA.out.off h0 x hx; omega))
    have hFf := hi_ (hA.out.fr.grownL hg (Nat.le_refl _))
    replace hg := hi_ hg
    replace hWf := hi_ hWf
    clear hb t0 t1 t2 t3 t4 f0 f1 f2 f3 f4 o0 o1 o2 o3 o4
    refine bodyPost_ret (by simp [results, Tryz.results94, go_sem, u0, u1, u2, u3, u4]; try rfl) rfl ?_
    have hG := hi_ (RowG.baseL (B' := W.heap.size) (hA.out.rows.far ob_law (fun k h1 h2 => hg.out.block k h2 (by intro e; injection e with e; omega)) hg.out.size) (by omega))
    have hI : ObI W.heap.size Wf.heap.size Wf (.mk 6 0 [] acc []) [.int .i64 6, .int .i64 0, .slice none 0 0, .slice AL acc.length cL, .slice none 0 0] :=
     built (tO := 32) (tE := 91) (tb := 5) (by omega) (by omega) (by omega) (by omega) (Own.nil _ _).row (by simp [maxLen]) hG.out (RowG.nil _ _ _ _ _)
    exact ⟨_, rfl, hI, hPf.out, hFf.out⟩
   ·have hk1 : (kk == 6) = false := beq_eq_false_iff_ne.2 hk6
    have hE2 := hE.out
    rw [arrS, ht] at hE2
    simp only [if_neg (fun e => hk6 (hkk.trans e))] at hE2
    have htl := tok_len ht
    refine h3_ hkk htl hk6 ?_; clear hkk htl hk6; intro hkk htl hk6
    clear hE ht
    have cv := hi_ fun W h => hv.out P L R A c bs d W r1 hsm6.out h
    have hcut := val_cut pl dd
    obtain ⟨V, hV⟩ : ∃ V, V = valS pl dd r1 := ⟨_, rfl⟩
    rw [← hV] at cv hE2
    replace hV := hi_ hV
    go_upto_region 4 with (first | (go_at_call 14; (with_reducible refine (cps.out _ hA.out.ps).mono ?_); rintro e w2 ⟨rfl, rfl⟩) | (go_at_call 82; (with_reducible refine (ct.out _ hA.out.ps).mono ?_); rintro e w4 ⟨a2, c2, rfl, hO, hP2, hF2⟩; replace hA := hi_ (hA.out.to hP2 hF2); replace p0 := hA.out.ps.p0; replace q0 := hA.out.ps.q0; replace t0 := hA.out.bT.cell 0; replace f0 := hA.out.bT.frozen 0; replace o0 := hA.out.bO.cell 0; replace t1 := hA.out.bT.cell 1; replace f1 := hA.out.bT.frozen 1; replace o1 := hA.out.bO.cell 1; replace t2 := hA.out.bT.cell 2; replace f2 := hA.out.bT.frozen 2; replace o2 := hA.out.bO.cell 2; replace t3 := hA.out.bT.cell 3; replace f3 := hA.out.bT.frozen 3; replace o3 := hA.out.bO.cell 3; replace t4 := hA.out.bT.cell 4; replace f4 := hA.out.bT.frozen 4; replace o4 := hA.out.bO.cell 4; clear hP2 hF2 hO))
    obtain ⟨W5, hW5, b5, hU5⟩ := newB w4 108 #[.int .i64 kk, .int .i64 at1, .int .i64 k.n, .slice a2 k.b.length c2]
    rw [← hW5]
    have k50 := hU5.cell 0
    have k51 := hU5.cell 1
    replace hA := hi_ (hA.out.belowW b5)
    replace p0 := hA.out.ps.p0; replace q0 := hA.out.ps.q0; replace t0 := hA.out.bT.cell 0; replace f0 := hA.out.bT.frozen 0; replace o0 := hA.out.bO.cell 0; replace t1 := hA.out.bT.cell 1; replace f1 := hA.out.bT.frozen 1; replace o1 := hA.out.bO.cell 1; replace t2 := hA.out.bT.cell 2; replace f2 := hA.out.bT.frozen 2; replace o2 := hA.out.bO.cell 2; replace t3 := hA.out.bT.cell 3; replace f3 := hA.out.bT.frozen 3; replace o3 := hA.out.bO.cell 3; replace t4 := hA.out.bT.cell 4; replace f4 := hA.out.bT.frozen 4; replace o4 := hA.out.bO.cell 4
    refine h3_ hU5 b5 hW5 ?_; clear hU5 b5 hW5; intro hU5 b5 hW5
    cases V with
    | err n v =>
     have hE3 : K = .err n v := by rw [← hE2]
     subst hE3
     clear hE2 hcut
     go_upto_region 10 with (first | (go_at_call 30; (with_reducible refine ((csk.out _) _ hA.out.ps).mono ?_); rintro e w4 ⟨rfl, hP2, hF2⟩; replace hA := hi_ (hA.out.to hP2 hF2); replace p0 := hA.out.ps.p0; replace q0 := hA.out.ps.q0; replace t0 := hA.out.bT.cell 0; replace f0 := hA.out.bT.frozen 0; replace o0 := hA.out.bO.cell 0; replace t1 := hA.out.bT.cell 1; replace f1 := hA.out.bT.frozen 1; replace o1 := hA.out.bO.cell 1; replace t2 := hA.out.bT.cell 2; replace f2 := hA.out.bT.frozen 2; replace o2 := hA.out.bO.cell 2; replace t3 := hA.out.bT.cell 3; replace f3 := hA.out.bT.frozen 3; replace o3 := hA.out.bO.cell 3; replace t4 := hA.out.bT.cell 4; replace f4 := hA.out.bT.frozen 4; replace o4 := hA.out.bO.cell 4; clear hP2 hF2) | (go_at_call 64; (with_reducible refine (cv.out _ hA.out.ps).mono ?_); rintro e w4 ⟨hn0, rfl, hP2, hF2⟩; replace hA := hi_ (hA.out.to hP2 hF2); replace p0 := hA.out.ps.p0; replace q0 := hA.out.ps.q0; replace t0 := hA.out.bT.cell 0; replace f0 := hA.out.bT.frozen 0; replace o0 := hA.out.bO.cell 0; replace t1 := hA.out.bT.cell 1; replace f1 := hA.out.bT.frozen 1; replace o1 := hA.out.bO.cell 1; replace t2 := hA.out.bT.cell 2; replace f2 := hA.out.bT.frozen 2; replace o2 := hA.out.bO.cell 2; replace t3 := hA.out.bT.cell 3; replace f3 := hA.out.bT.frozen 3; replace o3 := hA.out.bO.cell 3; replace t4 := hA.out.bT.cell 4; replace f4 := hA.out.bT.frozen 4; replace o4 := hA.out.bO.cell 4; have hnb := bne_iff_ne.2 hn0; replace hn0 := hi_ hn0; clear hP2 hF2))
     obtain ⟨W8, hW8, b8⟩ := newA w4 32 #[.int .i64 0, .int .i64 0, .slice none 0 0, .slice none 0 0, .slice none 0 0]
     rw [← hW8]
     replace hA := hi_ (hA.out.belowW b8)
     replace p0 := hA.out.ps.p0; replace q0 := hA.out.ps.q0; replace t0 := hA.out.bT.cell 0; replace f0 := hA.out.bT.frozen 0; replace o0 := hA.out.bO.cell 0; replace t1 := hA.out.bT.cell 1; replace f1 := hA.out.bT.frozen 1; replace o1 := hA.out.bO.cell 1; replace t2 := hA.out.bT.cell 2; replace f2 := hA.out.bT.frozen 2; replace o2 := hA.out.bO.cell 2; replace t3 := hA.out.bT.cell 3; replace f3 := hA.out.bT.frozen 3; replace o3 := hA.out.bO.cell 3; replace t4 := hA.out.bT.cell 4; replace f4 := hA.out.bT.frozen 4; replace o4 := hA.out.bO.cell 4
     replace hW8 := hi_ hW8
     replace b8 := hi_ b8
     go_wp2
     generalize hWf : World.setCell _ _ _ = Wf
     replace hWf := hWf.symm
     obtain ⟨hb, hg⟩ := set5L hA.out.bT hWf
     obtain ⟨u0, u1, u2, u3, u4, -⟩ := hb.b5
     have hPf := hi_ (hA.out.ps.grownL hg (by have := hA.out.lL; omega) (by have := hA.out.lR; omega) (by have := hA.out.lP; omega) (fun h0 x hx => by have := hA.out.off h0 x hx; omega))
     have hFf := hi_ (hA.out.fr.grownL hg (Nat.le_refl _))
     replace hg := hi_ hg
     replace hWf := hi_ hWf
     clear hb t0 t1 t2 t3 t4 f0 f1 f2 f3 f4 o0 o1 o2 o3 o4
     refine bodyPost_ret (by simp [results, Tryz.results94, go_sem, u0, u1, u2, u3, u4]; try rfl) rfl ?_
     exact ⟨hn0.out, rfl, hPf.out, hFf.out⟩
    | ok o v =>
     have hE3 := hi_ (show arrS (valS pl dd) f (acc ++ [o]) v = K from hE2)
     clear hE2
     replace hcut := hi_ hcut
     go_upto_region 10 with (first | (go_at_call 30; (with_reducible refine ((csk.out _) _ hA.out.ps).mono ?_); rintro e w4 ⟨rfl, hP2, hF2⟩; replace hA := hi_ (hA.out.to hP2 hF2); replace p0 := hA.out.ps.p0; replace q0 := hA.out.ps.q0; replace t0 := hA.out.bT.cell 0; replace f0 := hA.out.bT.frozen 0; replace o0 := hA.out.bO.cell 0; replace t1 := hA.out.bT.cell 1; replace f1 := hA.out.bT.frozen 1; replace o1 := hA.out.bO.cell 1; replace t2 := hA.out.bT.cell 2; replace f2 := hA.out.bT.frozen 2; replace o2 := hA.out.bO.cell 2; replace t3 := hA.out.bT.cell 3; replace f3 := hA.out.bT.frozen 3; replace o3 := hA.out.bO.cell 3; replace t4 := hA.out.bT.cell 4; replace f4 := hA.out.bT.frozen 4; replace o4 := hA.out.bO.cell 4; clear hP2 hF2) | (go_at_call 64; (with_reducible refine (cv.out _ hA.out.ps).mono ?_); rintro e w6 ⟨us, rfl, hI, hP2, hF2⟩; obtain ⟨xk, xn, F1, F2, F3, fn1, fc1, fn2, fc2, fn3, fc3, rfl⟩ := five_exL hI.ob; have hltV := hi_ hA.out.rows.row.lt; have hszV := hi_ hA.out.sz; have hA6 := hA.out.to hP2 hF2; replace hA := hi_ hA6; replace p0 := hA.out.ps.p0; replace q0 := hA.out.ps.q0; replace t0 := hA.out.bT.cell 0; replace f0 := hA.out.bT.frozen 0; replace o0 := hA.out.bO.cell 0; replace t1 := hA.out.bT.cell 1; replace f1 := hA.out.bT.frozen 1; replace o1 := hA.out.bO.cell 1; replace t2 := hA.out.bT.cell 2; replace f2 := hA.out.bT.frozen 2; replace o2 := hA.out.bO.cell 2; replace t3 := hA.out.bT.cell 3; replace f3 := hA.out.bT.frozen 3; replace o3 := hA.out.bO.cell 3; replace t4 := hA.out.bT.cell 4; replace f4 := hA.out.bT.frozen 4; replace o4 := hA.out.bO.cell 4; replace hI := hi_ hI; clear hP2 hF2 hA6))
     obtain ⟨W8, hW8, b8, hX8⟩ := newB w6 32 #[.int .i64 xk, .int .i64 xn, .slice F1 fn1 fc1, .slice F2 fn2 fc2, .slice F3 fn3 fc3]
     rw [← hW8]
     obtain ⟨x0, x1, x2, x3, x4, -⟩ := hX8.b5
     replace hA := hi_ (hA.out.belowW b8)
     have hI8 := hI.out.keep (fun b _ hb => b8.block b (by have := hI.out.1; omega)) (Nat.le_trans hI.out.1 b8.size)
     replace p0 := hA.out.ps.p0; replace q0 := hA.out.ps.q0; replace t0 := hA.out.bT.cell 0; replace f0 := hA.out.bT.frozen 0; replace o0 := hA.out.bO.cell 0; replace t1 := hA.out.bT.cell 1; replace f1 := hA.out.bT.frozen 1; replace o1 := hA.out.bO.cell 1; replace t2 := hA.out.bT.cell 2; replace f2 := hA.out.bT.frozen 2; replace o2 := hA.out.bO.cell 2; replace t3 := hA.out.bT.cell 3; replace f3 := hA.out.bT.frozen 3; replace o3 := hA.out.bO.cell 3; replace t4 := hA.out.bT.cell 4; replace f4 := hA.out.bT.frozen 4; replace o4 := hA.out.bO.cell 4
     refine h4_ hW8 b8 hX8 hI8 ?_; clear hW8 b8 hX8 hI8; intro hW8 b8 hX8 hI8
     go_upto_region 12 with fail
     obtain ⟨wA, hwA, bA⟩ := newA W8 32 #[.int .i64 xk, .int .i64 xn, .slice F1 fn1 fc1, .slice F2 fn2 fc2, .slice F3 fn3 fc3]
     have hIA := hI8.out.keep (fun b _ hb => bA.block b (by have := hI8.out.1; omega)) (Nat.le_trans hI8.out.1 bA.size)
     have hAA := hA.out.belowW bA
     have hcA : ∀ j u, ([.int .i64 xk, .int .i64 xn, .slice F1 fn1 fc1, .slice F2 fn2 fc2, .slice F3 fn3 fc3] : List Value)[j]? = some u → wA.cell? ⟨W8.heap.size, j, none⟩ = some u := fun j u hu => by rw [hwA]; exact new_cellsL W8 _ _ j u hu
     have hapA : ∀ g, (Value.slice AL acc.length cL).ownBlock = some g → g < w4.heap.size ∨ w6.heap.size ≤ g := fun g hg => .inl (hltV.out g hg).2
     have hAL : acc.length ≤ 1000000000 := by have := hacc.out; have := hrb.out; have := hsm.out; omega
     have oA3 := hAA.bO.cell 3
     have gA3 := hAA.bO.frozen 3
     refine h7_ hwA bA hIA hAA hcA hapA hAL ?_; clear hwA bA hIA hAA hcA hapA hAL; intro hwA bA hIA hAA hcA hapA hAL
     go_wp2_with (at_builtin; rw [← hwA.out]; refine app_ob rfl _ _ rfl (W.heap.size + 2) _ acc rl rfl hAA.out.rows W8.heap.size w4.heap.size w6.heap.size o _ rfl hIA.out hszV.out hapA.out hcA.out hAL.out hAA.out.sz ?_; intro v8 w8 hG8 hg8 hat8; obtain ⟨A8, c8, rfl⟩ : ∃ A c, v8 = .slice A (acc ++ [o]).length c := (by obtain ⟨A, c, g, e, _⟩ := hG8.out ob_law (by omega); exact ⟨A, c, e⟩); obtain ⟨n8, hn8⟩ : ∃ n, n = (acc ++ [o]).length := ⟨_, rfl⟩; rw [← hn8] at hG8 ⊢; have hB8 : Below (W.heap.size + 2) wA w8 := (Below.refl _ _ |>.mono hAA.out.sz).grown hg8 hAA.out.sz (fun k hk => (hAA.out.rows.row.lt k hk).1); have hO8 := hAA.out.bO.below hB8 (by omega); have o83 := hO8.cell 3; have g83 := hO8.frozen 3; replace hO8 := hi_ hO8; replace hB8 := hi_ hB8; replace hG8 := hi_ hG8; replace hn8 := hi_ hn8; clear hg8 hat8)
     obtain ⟨w9, hw9⟩ : ∃ Wx, Wx = w8.setCell ⟨W.heap.size + 1, 3, none⟩ (.slice A8 n8 c8) := ⟨_, rfl⟩
     rw [← hw9]
     have g9 : w8.grownBy w9 (some (W.heap.size + 1)) := by rw [hw9]; exact set_grownL _ _ _ _
     have hA9 := hAA.out
     have hP9 := (hA9.ps.below hB8.out (by have := hA9.lL; omega) (by have := hA9.lR; omega) (by have := hA9.lP; omega) (fun h0 x hx => by have := hA9.off h0 x hx; omega)).grownL g9 (by have := hA9.lL; omega) (by have := hA9.lR; omega) (by have := hA9.lP; omega) (fun h0 x hx => by have := hA9.off h0 x hx; omega)
     have hF9 : Fr L R W w9 := (hA9.fr.thenB (hB8.out.mono (by omega))).grownL g9 (by omega)
     have hT9 : Blk w9 W.heap.size 32 #[.int .i64 0, .int .i64 0, .slice none 0 0, .slice none 0 0, .slice none 0 0] := by rw [hw9]; exact (hA9.bT.below hB8.out (by omega)).far (p := ⟨W.heap.size + 1, 3, none⟩) (by show W.heap.size ≠ W.heap.size + 1; omega) _
     have hO9 : Blk w9 (W.heap.size + 1) 32 #[.int .i64 6, .int .i64 0, .slice none 0 0, .slice A8 n8 c8, .slice none 0 0] := by rw [hw9]; exact hO8.out.set_ 3 _
     have hG9 := hG8.out.far ob_law (fun k h1 h2 => g9.block k h2 (by intro e; injection e with e; omega)) g9.size
     have hsz9 : W.heap.size + 2 ≤ w9.heap.size := Nat.le_trans hA9.sz (Nat.le_trans hB8.out.size g9.size)
     have hN : AS W P L R A c bs d pl (acc ++ [o]) (.slice A8 n8 c8) _ w9 v := ⟨hP9, hF9, hT9, hO9, hG9, hA9.lL, hA9.lR, hA9.lP, hA9.off, hsz9⟩
     have e1 := hN.ps.posOf
     have e2 := hbw.out
     have e3 := pos_len hN.ps.suf
     have e5 := hcut.out r1 o v hV.out.symm
     have e6 := hf.out
     have e7 := hacc.out
     have e8 := pos_le bs v
     have e9 := bulk_pos o
     exact ⟨⟨f, _, _, _, v, hN, hE3.out, by omega, by simp only [List.length_append, List.length_cons, List.length_nil]; omega⟩, by rw [e1]; omega⟩
end
end Go.Proofs.YthffpbkndnhlfaaGreatDoor

/- Walks and laws, joined: part C. No condition. -/
import Derived.Test.YthacnnmlephkhaaDoorPrJB
import Derived.Test.YthacnnmlephkhaaDoorPrJA
set_option linter.unusedSimpArgs false
set_option linter.unusedVariables false
/- Parts as one: cursor.Of. No condition. -/
namespace Go.Proofs.YthacnnmlephkhaaDoor
open Go Go.RowKit Go.Wk
theorem addr_add (b o i : Nat) : (⟨b, o, none⟩ : Addr).add i = ⟨b, o + i, none⟩ := by simp [Addr.add]
theorem byt_holds {w : World} {A : Option Addr} {l : List UInt8} (h : Byt w A l) (c : Nat) : Lib.HoldsBytes w (.slice A l.length c) l := by
  refine ⟨A, c, rfl, ?_, ?_⟩
  · rintro rfl
    cases l with
    | nil => rfl
    | cons x r => obtain ⟨b, o, e, _⟩ := h.2 (by simp); cases e
  · rintro a rfl i x hx
    obtain ⟨hi, rfl⟩ := List.getElem?_eq_some_iff.1 hx
    obtain ⟨b, o, e, hc⟩ := h.2 (by omega)
    cases e
    rw [addr_add]
    exact hc i hi
theorem fresh_byt {B : Nat} {w : World} {v : Value} {l : List UInt8} (h : Lib.FreshBytes B w v l) : ∃ A c, v = .slice A l.length c ∧ Byt w A l ∧ (A = none → c = 0) := by
  obtain ⟨g, cap, zs, rfl, hB, hl, hm, hz, hr, hb, hc, _⟩ := h
  refine ⟨_, _, rfl, ⟨by omega, fun _ => ⟨g, 0, rfl, fun i hi => ?_⟩⟩, fun e => (by cases e)⟩
  have h0 := hc i (by omega)
  rw [Nat.zero_add, h0]
  have hzi : i < zs.length := by omega
  have he : l[i]? = some (zs[i].toNat.toUInt8) := by
    have h1 := congrArg (fun L => L[i]?) hb
    simp only [Lib.bytesOf, List.getElem?_map, List.getElem?_take] at h1
    rw [if_pos hi, List.getElem?_eq_getElem hzi] at h1
    exact h1.symm
  rw [List.getElem?_eq_getElem hi] at he
  injection he with he
  obtain ⟨q1, q2⟩ := hr zs[i] (List.getElem_mem hzi)
  rw [he, List.getD_eq_getElem?_getD, List.getElem?_eq_getElem hzi]
  have : (zs[i].toNat.toUInt8).toNat = zs[i].toNat := by
    show zs[i].toNat % 256 = _
    omega
  rw [this]
  simp only [Option.getD_some]
  congr 2
  omega
theorem join_flat (ls : List (List UInt8)) : Lib.join ls [] = ls.flatten := by
  cases ls with
  | nil => rfl
  | cons x r => rw [Lib.join_cons]; simp [Lib.joinTail]
theorem cur_Of (w : World) (g c n : Nat) (ls : List (List UInt8)) (vs : List Value) (hP : Lib.PartsAt w ⟨g, 0, none⟩ vs ls) (hn : ls.length = n) (h2 : 2 ≤ n) (hc : n ≤ c) (hn2 : n ≤ 100) (hl : Lib.lens ls ≤ 70368744177664) :
    Calls Tryd.prog 43 #[.slice (some ⟨g, 0, none⟩) n c] w (RB w ls.flatten) := by
  have cj := Tryd.bytes_Join_many g 0 n c vs ls (.slice none 0 0) [] w hn h2 hP hc ⟨none, 0, rfl, fun _ => rfl, fun a e => (by cases e)⟩ (by omega) (by simp; omega)
  rw [join_flat] at cj
  clear hP
  go_enter Tryd.func43, Tryd.ntmps43
  go_wp2_with (go_at_call 59; (with_reducible refine cj.mono ?_); rintro e w1 ⟨v, rfl, hF, hB⟩; replace hF := Lib.hid hF; replace hB := Lib.hid hB)
  go_ret
  obtain ⟨A, c', rfl, h3, h4⟩ := fresh_byt hF.out
  exact ⟨A, c', rfl, h3, h4, hB.out⟩
theorem cur_Of2 (W : World) (A1 A2 : Option Addr) (c1 c2 : Nat) (l1 l2 : List UInt8) (h1 : Byt W A1 l1) (h2 : Byt W A2 l2) (hl : l1.length + l2.length ≤ 1000000000) :
    Calls Tryd.prog 43 #[.slice (some ⟨W.heap.size, 0, none⟩) 2 2] (W.alloc (.cells #[.slice A1 l1.length c1, .slice A2 l2.length c2] 22)) (RB (W.alloc (.cells #[.slice A1 l1.length c1, .slice A2 l2.length c2] 22)) (l1 ++ l2)) := by
  have hb : Below W.heap.size W (W.alloc (.cells #[.slice A1 l1.length c1, .slice A2 l2.length c2] 22)) := (Below.refl _ _).alloc (Nat.le_refl _) _
  have h := cur_Of (W.alloc (.cells #[.slice A1 l1.length c1, .slice A2 l2.length c2] 22)) W.heap.size 2 2 [l1, l2] [.slice A1 l1.length c1, .slice A2 l2.length c2] ⟨rfl, fun i v hv => by
    have h0 := alloc_cell (w := W) (vs := #[.slice A1 l1.length c1, .slice A2 l2.length c2]) (e := 22) (i := i)
    rw [addr_add]
    refine h0.trans ?_
    rw [← hv]
    match i with
    | 0 => rfl
    | 1 => rfl
    | k + 2 => rfl, fun i v l hv hl => by
    match i with
    | 0 => cases hv; cases hl; exact byt_holds (h1.below hb) c1
    | 1 => cases hv; cases hl; exact byt_holds (h2.below hb) c2
    | k + 2 => cases hv⟩ rfl (by omega) (by omega) (by omega) (by simp [Lib.lens]; omega)
  simpa using h
theorem cur_Of4 (W : World) (A1 A2 A3 A4 : Option Addr) (c1 c2 c3 c4 : Nat) (l1 l2 l3 l4 : List UInt8) (h1 : Byt W A1 l1) (h2 : Byt W A2 l2) (h3 : Byt W A3 l3) (h4 : Byt W A4 l4) (hl : l1.length + l2.length + l3.length + l4.length ≤ 1000000000) :
    Calls Tryd.prog 43 #[.slice (some ⟨W.heap.size, 0, none⟩) 4 4] (W.alloc (.cells #[.slice A1 l1.length c1, .slice A2 l2.length c2, .slice A3 l3.length c3, .slice A4 l4.length c4] 22)) (RB (W.alloc (.cells #[.slice A1 l1.length c1, .slice A2 l2.length c2, .slice A3 l3.length c3, .slice A4 l4.length c4] 22)) (l1 ++ (l2 ++ (l3 ++ l4)))) := by
  have hb : Below W.heap.size W (W.alloc (.cells #[.slice A1 l1.length c1, .slice A2 l2.length c2, .slice A3 l3.length c3, .slice A4 l4.length c4] 22)) := (Below.refl _ _).alloc (Nat.le_refl _) _
  have h := cur_Of (W.alloc (.cells #[.slice A1 l1.length c1, .slice A2 l2.length c2, .slice A3 l3.length c3, .slice A4 l4.length c4] 22)) W.heap.size 4 4 [l1, l2, l3, l4] [.slice A1 l1.length c1, .slice A2 l2.length c2, .slice A3 l3.length c3, .slice A4 l4.length c4] ⟨rfl, fun i v hv => by
    have h0 := alloc_cell (w := W) (vs := #[.slice A1 l1.length c1, .slice A2 l2.length c2, .slice A3 l3.length c3, .slice A4 l4.length c4]) (e := 22) (i := i)
    rw [addr_add]
    refine h0.trans ?_
    rw [← hv]
    match i with
    | 0 => rfl
    | 1 => rfl
    | 2 => rfl
    | 3 => rfl
    | k + 4 => rfl, fun i v l hv hl => by
    match i with
    | 0 => cases hv; cases hl; exact byt_holds (h1.below hb) c1
    | 1 => cases hv; cases hl; exact byt_holds (h2.below hb) c2
    | 2 => cases hv; cases hl; exact byt_holds (h3.below hb) c3
    | 3 => cases hv; cases hl; exact byt_holds (h4.below hb) c4
    | k + 4 => cases hv⟩ rfl (by omega) (by omega) (by omega) (by simp [Lib.lens]; omega)
  simpa using h
end Go.Proofs.YthacnnmlephkhaaDoor

/- Bytes of entries, by the program. No condition. -/
namespace Go.Proofs.YthacnnmlephkhaaDoor
open Go Go.RowKit Go.Wk
theorem rowAny (g : Nat) (W : World) (h : W.cell? ⟨g, 0, none⟩ = some (.string ⟨#[32]⟩)) : Calls Tryd.prog 21 #[.slice (some ⟨g, 0, none⟩) 1 1] W (RB W [32]) := by
  have h := prt_row g 0 1 [⟨#[32]⟩] W (fun i hi => by
    match i, hi with
    | 0, _ => exact h) (by decide) (by decide)
  exact h.mono fun e w' hr => hr.rb (by decide)
theorem bulkD_take : ∀ (l : List (List UInt8 × Ob)) (k : Nat), bulkD (l.take k) ≤ bulkD l
  | [], k => by simp [bulkD]
  | o :: r, 0 => by simp [bulkD]
  | o :: r, k + 1 => by have := bulkD_take r k; simp only [List.take_succ_cons, bulkD]; omega
theorem one_cell (w : World) (v : Value) (t : TypeId) : (w.alloc (.cells #[v] t)).cell? ⟨w.heap.size, 0, none⟩ = some v := by
  simp
/-- what the operations of a round yield -/
def GD (p : Nat) (A : Option Addr) (n c : Nat) (K : ByteArray) (ag : Array Value) (nt sh : List UInt8) : Nat → Value → World → Prop := fun j v w => match j with
  | 0 => v = .slice A n c
  | 1 => v = .pointer (some ⟨p, 0, none⟩)
  | 2 => v = .string K
  | 3 => ∃ A c, v = .slice A nt.length c ∧ Byt w A nt
  | 4 => ∃ g, v = .slice (some ⟨g, 0, none⟩) 1 1 ∧ w.cell? ⟨g, 0, none⟩ = some (.string ⟨#[32]⟩)
  | 5 => ∃ A c, v = .slice A 1 c ∧ Byt w A [32]
  | 6 => v = .pointer (some ⟨p, 1, none⟩)
  | 7 => v = .agg ag
  | _ => ∃ A c, v = .slice A sh.length c ∧ Byt w A sh
theorem GD_mono {p : Nat} {A : Option Addr} {n c : Nat} {K : ByteArray} {ag : Array Value} {nt sh : List UInt8} (j : Nat) (v : Value) (w w' : World) (hG : GD p A n c K ag nt sh j v w) (hk : Below w.heap.size w w') : GD p A n c K ag nt sh j v w' := by
  unfold GD at hG ⊢
  split at hG <;> first
    | exact hG
    | (obtain ⟨A, c, e, hb⟩ := hG; exact ⟨A, c, e, hb.below hk⟩)
    | (obtain ⟨g, e, hb⟩ := hG; exact ⟨g, e, (hk.cell (cell_lt hb)).trans hb⟩)
set_option maxHeartbeats 8000000 in
set_option maxRecDepth 100000 in
theorem prt_dict (N : Nat) (hN : N ≤ 1048576) (hs : ShowC N) : DictC N := by
  intro w AD gD oD cD d vd htab hA hl hk hlv hbk
  have zl := bulkD_len d
  have hfit : ∀ e ∈ d, Fits e.2 := fun e he => by obtain ⟨i, hi, rfl⟩ := List.getElem_of_mem he; exact (hl i hi).fits
  have hsl := showD_len d hfit
  obtain ⟨m, hm⟩ : ∃ m, m = d.length := ⟨_, rfl⟩
  rw [← hm] at zl ⊢
  have zm : m ≤ 1048576 := by omega
  have hsl2 : (showD d).length ≤ 41943040 := by omega
  have e41 : 41943050 ≤ maxLen := by unfold maxLen; omega
  have cr : Calls Tryd.prog 21 #[.slice (some ⟨w.heap.size, 0, none⟩) 1 1] (w.alloc (.cells #[.string ⟨#[60, 60]⟩] 9)) (RB w [60, 60]) := row1b w _ (by decide)
  replace hm := Lib.hid hm
  replace hA := Lib.hid hA
  replace hl := Lib.hid hl
  replace hk := Lib.hid hk
  replace hlv := Lib.hid hlv
  replace hs := Lib.hid hs
  replace hfit := Lib.hid hfit
  replace hsl2 := Lib.hid hsl2
  replace htab := Lib.hid htab
  clear hsl
  go_enter Tryd.func26, Tryd.ntmps26
  go_wp2_with (go_at_call 21; (with_reducible refine cr.mono ?_); rintro e w1 ⟨A1, c1, rfl, hb1, hA1, hB1⟩; replace hb1 := Lib.hid hb1; replace hB1 := Lib.hid hB1; replace hA1 := Lib.hid hA1)
  go_loopw [3, 5, 10] (fun s3 _ s10 wr => ∃ (k : Nat) (A : Option Addr) (c : Nat), k ≤ m ∧ s10 = .int .i64 k ∧ s3 = .slice A (60 :: 60 :: showD (d.take k)).length c ∧ Byt wr A (60 :: 60 :: showD (d.take k)) ∧ (A = none → c = 0) ∧ Below w.heap.size w wr) (fun _ _ s10 _ => m - (RowKit.intOf s10).toNat)
  case atStart => exact ⟨0, A1, c1, by omega, rfl, rfl, hb1.out, hA1.out, hB1.out⟩
  case round =>
    obtain ⟨k, A, c, hk0, rfl, rfl, hb, hAc, hB⟩ := hrel
    have lB := hB.size
    by_cases hkm : k < m
    · have hkl : k < d.length := by rw [← hm.out]; exact hkm
      have hAe := hA.out (by omega)
      subst hAe
      obtain ⟨e, he⟩ : ∃ e, e = d[k] := ⟨_, rfl⟩
      have hob0 := hl.out k hkl
      have hkk0 := (hk.out k hkl).2
      have hcv := hlv.out k hkl
      rw [← he] at hob0 hkk0
      have hz0 := bulkD_at d k hkl
      rw [← he] at hz0
      have hob := hob0.kept hB
      have hsh := show_len e.2 hob.fits
      obtain ⟨us, hus⟩ : ∃ us, us = vd k := ⟨_, rfl⟩
      rw [← hus] at hob hob0 hcv
      obtain ⟨en, E1, E2, E3, en1, ec1, en2, ec2, en3, ec3, hys⟩ := ob_five2 hob
      subst hys
      obtain ⟨kk, hkk⟩ : ∃ k, k = e.2.kind := ⟨_, rfl⟩
      rw [← hkk] at hob hob0 hcv
      obtain ⟨K, hK⟩ : ∃ K, K = bytes e.1 := ⟨_, rfl⟩
      have zK : K.size ≤ 1048576 := by rw [hK, bytes_size]; omega
      have x0 : wr.cell? ⟨gD, oD + k * 6, none⟩ = some (.string K) := by
        have h1 := (hB.cell (cell_lt hkk0)).trans hkk0
        rw [Nat.mul_comm] at h1
        rw [h1, hK]; rfl
      have five : ∀ j u, [Value.int .i64 kk, .int .i64 en, .slice E1 en1 ec1, .slice E2 en2 ec2, .slice E3 en3 ec3][j]? = some u → wr.cell? ⟨gD, oD + k * 6 + 1 + j, none⟩ = some u := fun j u hj => by
        have h0 := hcv j (by have := (List.getElem?_eq_some_iff.1 hj).1; simpa using this)
        rw [hj] at h0
        have h1 := (hB.cell (cell_lt h0)).trans h0
        rw [show oD + (6 * k + 1 + j) = oD + k * 6 + 1 + j by omega] at h1
        exact h1
      have x1 : wr.cell? ⟨gD, oD + k * 6 + 1, none⟩ = some (.int .i64 kk) := five 0 _ rfl
      have x2 : wr.cell? ⟨gD, oD + k * 6 + 2, none⟩ = some (.int .i64 en) := five 1 _ rfl
      have x3 : wr.cell? ⟨gD, oD + k * 6 + 3, none⟩ = some (.slice E1 en1 ec1) := five 2 _ rfl
      have x4 : wr.cell? ⟨gD, oD + k * 6 + 4, none⟩ = some (.slice E2 en2 ec2) := five 3 _ rfl
      have x5 : wr.cell? ⟨gD, oD + k * 6 + 5, none⟩ = some (.slice E3 en3 ec3) := five 4 _ rfl
      clear five hcv hob hus
      replace he := Lib.hid he
      replace hkk := Lib.hid hkk
      replace hK := Lib.hid hK
      replace hob0 := Lib.hid hob0
      replace hb := Lib.hid hb
      replace hB := Lib.hid hB
      replace hAc := Lib.hid hAc
      replace hsh := Lib.hid hsh
      clear hkk0
      obtain ⟨S, hS⟩ : ∃ S, S = 60 :: 60 :: showD (d.take k) := ⟨_, rfl⟩
      obtain ⟨R, hR⟩ : ∃ R, R = S ++ (nameT e.1 ++ ([32] ++ e.2.show)) := ⟨_, rfl⟩
      have hR2' : 60 :: 60 :: showD (d.take (k + 1)) = R := by
        rw [hR, hS, List.take_succ_eq_append_getElem hkl, showD_snoc, ← he.out]; rfl
      have hzS : S.length + (nameT e.1).length + 1 + e.2.show.length ≤ 1000000000 := by
        have q1 := showD_len (d.take k) (fun x hx => hfit.out x (List.mem_of_mem_take hx))
        have q2 := bulkD_take d k
        have q3 := nameT_len e.1
        have q4 := hsh.out
        rw [hS]; simp only [List.length_cons]; omega
      replace hR := Lib.hid hR
      replace hR2' := Lib.hid hR2'
      replace hzS := Lib.hid hzS
      rw [← hS] at hb ⊢
      replace hS := Lib.hid hS
      go_upto_region 5 with (fail)
      obtain ⟨W3, hW3⟩ : ∃ W, W = wr.alloc (.cells #[.string K, .int .i64 kk, .int .i64 en, .slice E1 en1 ec1, .slice E2 en2 ec2, .slice E3 en3 ec3] 36) := ⟨_, rfl⟩
      have hb3 : Below wr.heap.size wr W3 := by rw [hW3]; exact (Below.refl _ _).alloc (Nat.le_refl _) _
      have z3 : W3.heap.size = wr.heap.size + 1 := by rw [hW3, World.size_alloc]
      have ecell : ∀ i v, #[Value.string K, .int .i64 kk, .int .i64 en, .slice E1 en1 ec1, .slice E2 en2 ec2, .slice E3 en3 ec3][i]? = some v → W3.cell? ⟨wr.heap.size, i, none⟩ = some v := by
        intro i v hv
        have h0 := alloc_cell (w := wr) (vs := #[Value.string K, .int .i64 kk, .int .i64 en, .slice E1 en1 ec1, .slice E2 en2 ec2, .slice E3 en3 ec3]) (e := 36) (i := i)
        rw [Nat.zero_add, hv] at h0
        rw [hW3]; exact h0
      rw [← hW3]
      clear x0 x1 x2 x3 x4 x5
      have f0 : W3.cell? ⟨wr.heap.size, 0, none⟩ = some (.string K) := ecell 0 _ rfl
      have f1 : W3.cell? ⟨wr.heap.size, 1, none⟩ = some (.int .i64 kk) := ecell 1 _ rfl
      have f2 : W3.cell? ⟨wr.heap.size, 2, none⟩ = some (.int .i64 en) := ecell 2 _ rfl
      have f3 : W3.cell? ⟨wr.heap.size, 3, none⟩ = some (.slice E1 en1 ec1) := ecell 3 _ rfl
      have f4 : W3.cell? ⟨wr.heap.size, 4, none⟩ = some (.slice E2 en2 ec2) := ecell 4 _ rfl
      have f5 : W3.cell? ⟨wr.heap.size, 5, none⟩ = some (.slice E3 en3 ec3) := ecell 5 _ rfl
      have c12 : ∀ W, Calls Tryd.prog 24 #[.string K] W (RB W (nameT e.1)) := fun W => by
        have h0 := prt_Name K W (by omega)
        rw [hK.out, bytes_list] at h0
        rw [hK.out]
        exact h0.mono fun e' w' hr => hr.rb (by have := nameT_len e.1; unfold maxLen; omega)
      have c31 : ∀ W, Below wr.heap.size wr W → Calls Tryd.prog 16 #[.agg #[.int .i64 kk, .int .i64 en, .slice E1 en1 ec1, .slice E2 en2 ec2, .slice E3 en3 ec3]] W (RB W e.2.show) := fun W hW => hs.out e.2 _ W ((hob0.out.kept hB.out).kept hW) (by omega) (htab.out.below (hB.out.trans (hW.mono lB)))
      clear ecell
      replace c31 := Lib.hid c31
      have hb3' := Lib.hid hb3
      clear hb3
      replace hW3 := Lib.hid hW3
      have c34 : ∀ W : World, Calls Tryd.prog 21 #[.slice (some ⟨W.heap.size, 0, none⟩) 1 1] (W.alloc (.cells #[.string ⟨#[32]⟩] 9)) (RB W [32]) := fun W => row1b W _ (by decide)
      refine wp_lin_tail (by kernel_rfl) [none, none, none, none, none, none, none, none, none, none, none, none, none, none, some 0, some 1, some 2, some 3, some 4, some 5, some 6, some 7, some 8, none, none, none, none, none, none, none, none] (fun w' => Below W3.heap.size W3 w') (fun w' w'' => Below w'.heap.size w' w'') (GD wr.heap.size A S.length c K #[.int .i64 kk, .int .i64 en, .slice E1 en1 ec1, .slice E2 en2 ec2, .slice E3 en3 ec3] (nameT e.1) e.2.show) (by rfl) (by kernel_rfl) 9 _ rfl (by decide) (by kernel_rfl) [9, 2, 3, 9, 5, 9, 7, 8, 9, 0] (by kernel_rfl) ?hR ?mono (.cons 8 (step_of [7, 5] rfl (by kernel_rfl) ?s8) (.cons 7 (step_of [6] rfl (by kernel_rfl) ?s7) (.cons 6 (step_of [] rfl (by kernel_rfl) ?s6) (.cons 5 (step_of [4, 3] rfl (by kernel_rfl) ?s5) (.cons 4 (step_of [] rfl (by kernel_rfl) ?s4) (.cons 3 (step_of [2] rfl (by kernel_rfl) ?s3) (.cons 2 (step_of [1] rfl (by kernel_rfl) ?s2) (.cons 1 (step_of [] rfl (by kernel_rfl) ?s1) (.cons 0 (step_of [] rfl (by kernel_rfl) ?s0) (.nil)))))))))) ?done
      case hR => exact (Below.refl _ _).drew
      case mono => exact GD_mono
      case s0 =>
        intro x w' hRw hd K' hK
        simp only [All, GD] at hd
        simp (config := {decide := true}) only [upd, GD, fillL, if_true, if_false] at hK ⊢
        try simp only [hd.1] at hK ⊢
        go_simp
        have hK2 := hK _ _ ⟨hRw, Below.refl _ _, rfl⟩
        exact hK2
      case s1 =>
        intro x w' hRw hd K' hK
        simp only [All, GD] at hd
        simp (config := {decide := true}) only [upd, GD, fillL, if_true, if_false] at hK ⊢
        try simp only [hd.1] at hK ⊢
        go_simp
        have hK2 := hK _ _ ⟨hRw, Below.refl _ _, rfl⟩
        exact hK2
      case s2 =>
        intro x w' hRw hd K' hK
        simp only [All, GD] at hd
        have z0 := (hRw.cell (cell_lt f0)).trans f0
        simp (config := {decide := true}) only [upd, GD, fillL, if_true, if_false] at hK ⊢
        try simp only [hd.1] at hK ⊢
        go_simp
        have hK2 := hK _ _ ⟨hRw, Below.refl _ _, rfl⟩
        exact hK2
      case s3 =>
        intro x w' hRw hd K' hK
        simp only [All, GD] at hd
        simp (config := {decide := true}) only [upd, GD, fillL, if_true, if_false] at hK ⊢
        try simp only [hd.1] at hK ⊢
        go_simp
        refine (c12 w').mono ?_
        rintro e' w2 ⟨A2, c2, rfl, hb2, hA2, hB2⟩
        have hK2 := hK _ _ ⟨bthen hRw hB2, hB2, A2, c2, rfl, hb2⟩
        exact hK2
      case s4 =>
        intro x w' hRw hd K' hK
        simp only [All, GD] at hd
        simp (config := {decide := true}) only [upd, GD, fillL, if_true, if_false] at hK ⊢
        try simp only [hd.1] at hK ⊢
        go_simp
        have hK2 := hK _ _ ⟨hRw.alloc hRw.size (.cells #[.string ⟨#[32]⟩] 9), (Below.refl _ _).alloc (Nat.le_refl _) _, _, rfl, one_cell w' _ 9⟩
        exact hK2
      case s5 =>
        intro x w' hRw hd K' hK
        simp only [All, GD] at hd
        obtain ⟨⟨g, e4, hg⟩, _⟩ := hd
        simp (config := {decide := true}) only [upd, GD, fillL, if_true, if_false] at hK ⊢
        try simp only [e4] at hK ⊢
        go_simp
        refine (rowAny g w' hg).mono ?_
        rintro e' w2 ⟨A2, c2, rfl, hb2, hA2, hB2⟩
        have hK2 := hK _ _ ⟨bthen hRw hB2, hB2, A2, c2, rfl, hb2⟩
        exact hK2
      case s6 =>
        intro x w' hRw hd K' hK
        simp only [All, GD] at hd
        simp (config := {decide := true}) only [upd, GD, fillL, if_true, if_false] at hK ⊢
        try simp only [hd.1] at hK ⊢
        go_simp
        have hK2 := hK _ _ ⟨hRw, Below.refl _ _, rfl⟩
        exact hK2
      case s7 =>
        intro x w' hRw hd K' hK
        simp only [All, GD] at hd
        have z1 := (hRw.cell (cell_lt f1)).trans f1
        have z2 := (hRw.cell (cell_lt f2)).trans f2
        have z3 := (hRw.cell (cell_lt f3)).trans f3
        have z4 := (hRw.cell (cell_lt f4)).trans f4
        have z5 := (hRw.cell (cell_lt f5)).trans f5
        simp (config := {decide := true}) only [upd, GD, fillL, if_true, if_false] at hK ⊢
        try simp only [hd.1] at hK ⊢
        go_simp
        have hK2 := hK _ _ ⟨hRw, Below.refl _ _, rfl⟩
        exact hK2
      case s8 =>
        intro x w' hRw hd K' hK
        simp only [All, GD] at hd
        simp (config := {decide := true}) only [upd, GD, fillL, if_true, if_false] at hK ⊢
        try simp only [hd.1] at hK ⊢
        go_simp
        refine (c31.out w' (bthen hb3'.out hRw)).mono ?_
        rintro e' w2 ⟨A2, c2, rfl, hb2, hA2, hB2⟩
        have hK2 := hK _ _ ⟨bthen hRw hB2, hB2, A2, c2, rfl, hb2⟩
        exact hK2
      case done =>
        intro x w4 hR2 hG fr hfr
        have g0 := hG 0 (by omega)
        have g3 := hG 3 (by omega)
        have g5 := hG 5 (by omega)
        have g8 := hG 8 (by omega)
        simp only [GD] at g0 g3 g5 g8
        clear hG
        obtain ⟨A2, c2, e3, hb2⟩ := g3
        obtain ⟨A3, c3, e5, hb3⟩ := g5
        obtain ⟨A4, c4, e8, hb4⟩ := g8
        simp only [fillL] at hfr
        rw [g0, e3, e5, e8] at hfr
        subst hfr
        have hD4 : Below wr.heap.size wr w4 := bthen hb3'.out hR2
        have c42 : Calls Tryd.prog 43 #[.slice (some ⟨w4.heap.size, 0, none⟩) 4 4] (w4.alloc (.cells #[.slice A S.length c, .slice A2 (nameT e.1).length c2, .slice A3 1 c3, .slice A4 e.2.show.length c4] 22)) (RB (w4.alloc (.cells #[.slice A S.length c, .slice A2 (nameT e.1).length c2, .slice A3 1 c3, .slice A4 e.2.show.length c4] 22)) R) := (by rw [hR.out]; exact cur_Of4 w4 A A2 A3 A4 c c2 c3 c4 S (nameT e.1) [32] e.2.show (hb.out.below hD4) hb2 hb3 hb4 (by have := hzS.out; simp only [List.length_cons, List.length_nil]; omega))
        replace hD4 := Lib.hid hD4
        replace hR2 := Lib.hid hR2
        clear hb2 hb3 hb4
        go_wp2_with (go_at_call 43; (with_reducible refine c42.mono ?_); rintro e' w5 ⟨A5, c5, rfl, hb5, hA5, hB5⟩; have hD5 : Below wr.heap.size wr w5 := bthen hD4.out (bthen ((Below.refl _ _).alloc (Nat.le_refl _) _) hB5); replace hb5 := Lib.hid hb5; replace hB5 := Lib.hid hB5; replace hA5 := Lib.hid hA5; replace hD5 := Lib.hid hD5)
        go_roundw
        case rel => exact ⟨k + 1, A5, c5, by omega, by go_num, by rw [hR2'.out], by rw [hR2'.out]; exact hb5.out, hA5.out, hB.out.trans (hD5.out.mono lB)⟩
        case measure => simp [RowKit.intOf]; omega
    · obtain rfl : k = m := by omega
      have hT : d.take k = d := by rw [hm.out, List.take_length]
      rw [hT] at hb ⊢
      obtain ⟨S, hS⟩ : ∃ S, S = 60 :: 60 :: showD d := ⟨_, rfl⟩
      obtain ⟨R, hR⟩ : ∃ R, R = S ++ [62, 62] := ⟨_, rfl⟩
      have hR2 : 60 :: 60 :: (showD d ++ [62, 62]) = R := by rw [hR, hS]; rfl
      have hzS : S.length ≤ 41943042 := by rw [hS]; have := hsl2.out; simp only [List.length_cons]; omega
      rw [← hS] at hb ⊢
      rw [hR2]
      have c34 : Calls Tryd.prog 21 #[.slice (some ⟨wr.heap.size, 0, none⟩) 1 1] (wr.alloc (.cells #[.string ⟨#[62, 62]⟩] 9)) (RB wr [62, 62]) := row1b wr _ (by decide)
      replace hS := Lib.hid hS
      replace hR := Lib.hid hR
      replace hR2 := Lib.hid hR2
      replace hT := Lib.hid hT
      replace hb := Lib.hid hb
      replace hB := Lib.hid hB
      replace hAc := Lib.hid hAc
      go_wp2_with (first
        | (go_at_call 21; (with_reducible refine c34.mono ?_); rintro e w2 ⟨A2, c2, rfl, hb2, hA2, hB2⟩; have c42 : Calls Tryd.prog 43 #[.slice (some ⟨w2.heap.size, 0, none⟩) 2 2] (w2.alloc (.cells #[.slice A S.length c, .slice A2 2 c2] 22)) (RB (w2.alloc (.cells #[.slice A S.length c, .slice A2 2 c2] 22)) R) := (by rw [hR.out]; exact cur_Of2 w2 A A2 c c2 S [62, 62] (hb.out.below hB2) hb2 (by simp only [List.length_cons, List.length_nil]; omega)); replace hb2 := Lib.hid hb2; replace hB2 := Lib.hid hB2; replace hA2 := Lib.hid hA2)
        | (go_at_call 43; (with_reducible refine c42.mono ?_); rintro e w3 ⟨A3, c3, rfl, hb3, hA3, hB3⟩; replace hb3 := Lib.hid hb3; replace hB3 := Lib.hid hB3; replace hA3 := Lib.hid hA3))
      go_ret
      rw [hR2.out]
      exact ⟨A3, c3, rfl, hb3.out, hA3.out, bthen hB.out (bthen hB2.out (bthen ((Below.refl _ _).alloc (Nat.le_refl _) _) hB3.out))⟩
end Go.Proofs.YthacnnmlephkhaaDoor

/- Bytes of an object, by the program; whether it may be. No condition. -/
namespace Go.Proofs.YthacnnmlephkhaaDoor
open Go Go.RowKit Go.Wk
theorem show_zero : ShowC 0 := fun o vs w _ h _ => by have := bulk_pos o; omega
theorem showC_up : ∀ N, N ≤ 1048576 → ShowC N
  | 0, _ => show_zero
  | N + 1, h => prt_show N h (showC_up N (by omega)) (prt_dict N (by omega) (showC_up N (by omega)))
theorem prt_show_all (o : Ob) (vs : List Value) (w : World) (h : ObAt w o vs) (hb : o.bulk ≤ 1048576) (ht : Tab w) : Calls Tryd.prog 16 #[.agg vs.toArray] w (RB w o.show) :=
  showC_up 1048576 (Nat.le_refl _) o vs w h hb ht
/-- an object laid in a block of its own, and read from there -/
theorem five_cells {w : World} {v0 v1 v2 v3 v4 : Value} {W : World} (hW : W = w.alloc (.cells #[v0, v1, v2, v3, v4] 26)) :
    W.cell? ⟨w.heap.size, 0, none⟩ = some v0 ∧ W.cell? ⟨w.heap.size, 1, none⟩ = some v1 ∧ W.cell? ⟨w.heap.size, 2, none⟩ = some v2 ∧ W.cell? ⟨w.heap.size, 3, none⟩ = some v3 ∧ W.cell? ⟨w.heap.size, 4, none⟩ = some v4 := by
  subst hW
  refine ⟨?_, ?_, ?_, ?_, ?_⟩ <;> simp
theorem five_kept {p : Nat} {v0 v1 v2 v3 v4 : Value} {W W' : World} (h : W.cell? ⟨p, 0, none⟩ = some v0 ∧ W.cell? ⟨p, 1, none⟩ = some v1 ∧ W.cell? ⟨p, 2, none⟩ = some v2 ∧ W.cell? ⟨p, 3, none⟩ = some v3 ∧ W.cell? ⟨p, 4, none⟩ = some v4) (hb : Below W.heap.size W W') :
    W'.cell? ⟨p, 0, none⟩ = some v0 ∧ W'.cell? ⟨p, 1, none⟩ = some v1 ∧ W'.cell? ⟨p, 2, none⟩ = some v2 ∧ W'.cell? ⟨p, 3, none⟩ = some v3 ∧ W'.cell? ⟨p, 4, none⟩ = some v4 :=
  ⟨(hb.cell (cell_lt h.1)).trans h.1, (hb.cell (cell_lt h.2.1)).trans h.2.1, (hb.cell (cell_lt h.2.2.1)).trans h.2.2.1, (hb.cell (cell_lt h.2.2.2.1)).trans h.2.2.2.1, (hb.cell (cell_lt h.2.2.2.2)).trans h.2.2.2.2⟩
set_option maxHeartbeats 4000000 in
set_option maxRecDepth 100000 in
theorem cos_May (o : Ob) (vs : List Value) (w : World) (h : ObAt w o vs) (hbk : o.bulk ≤ 1048576) : Calls Tryd.prog 15 #[.agg vs.toArray] w fun e w' => e = .returned (.bool (o.may 28)) ∧ Below w.heap.size w w' := by
  obtain ⟨en, E1, E2, E3, en1, ec1, en2, ec2, en3, ec3, hys⟩ := ob_five2 h
  subst hys
  obtain ⟨k, hk⟩ : ∃ k, k = o.kind := ⟨_, rfl⟩
  rw [← hk] at h ⊢
  obtain ⟨W1, hW1⟩ : ∃ W, W = w.alloc (.cells #[.int .i64 k, .int .i64 en, .slice E1 en1 ec1, .slice E2 en2 ec2, .slice E3 en3 ec3] 26) := ⟨_, rfl⟩
  have hb1 : Below w.heap.size w W1 := by rw [hW1]; exact (Below.refl _ _).alloc (Nat.le_refl _) _
  have c : Calls Tryd.prog 20 #[.agg #[.int .i64 k, .int .i64 en, .slice E1 en1 ec1, .slice E2 en2 ec2, .slice E3 en3 ec3], .int .i64 28] W1 fun e w' => e = .returned (.bool (o.may 28)) ∧ Below W1.heap.size W1 w' := cos_mayC 28 (by omega) o _ W1 (h.kept hb1) hbk
  obtain ⟨f0, f1, f2, f3, f4⟩ := five_cells hW1
  replace hb1 := Lib.hid hb1
  clear h hk
  go_enter Tryd.func15, Tryd.ntmps15
  go_upto_region 1 with (fail)
  rw [← hW1]
  replace hW1 := Lib.hid hW1
  go_wp2_with (go_at_call 20; (with_reducible refine c.mono ?_); rintro e w2 ⟨rfl, hB⟩; replace hB := Lib.hid hB)
  go_ret
  exact ⟨rfl, bthen hb1.out hB.out⟩
/-- what 'Value' and 'Print' answer: the bytes, or that there are none -/
def VR (w : World) (o : Ob) (e : Ending) (w' : World) : Prop := Below w.heap.size w w' ∧ ∃ A c n z, e = .returned (.tuple #[.slice A n c, .int .i64 z]) ∧ (A = none → c = 0) ∧
  ((o.kind ≠ 8 ∧ o.may 28 = true ∧ n = o.show.length ∧ Byt w' A o.show ∧ z = 0) ∨ (¬ (o.kind ≠ 8 ∧ o.may 28 = true) ∧ A = none ∧ n = 0 ∧ z = 1))
set_option maxHeartbeats 4000000 in
set_option maxRecDepth 100000 in
theorem prt_Value (o : Ob) (vs : List Value) (w : World) (h : ObAt w o vs) (hbk : o.bulk ≤ 1048576) (ht : Tab w) : Calls Tryd.prog 6 #[.agg vs.toArray] w (VR w o) := by
  obtain ⟨en, E1, E2, E3, en1, ec1, en2, ec2, en3, ec3, hys⟩ := ob_five2 h
  obtain ⟨k, hk⟩ : ∃ k, k = o.kind := ⟨_, rfl⟩
  rw [← hk] at hys
  subst hys
  obtain ⟨W1, hW1⟩ : ∃ W, W = w.alloc (.cells #[.int .i64 k, .int .i64 en, .slice E1 en1 ec1, .slice E2 en2 ec2, .slice E3 en3 ec3] 26) := ⟨_, rfl⟩
  have hb1 : Below w.heap.size w W1 := by rw [hW1]; exact (Below.refl _ _).alloc (Nat.le_refl _) _
  have c := cos_May o _ W1 (h.kept hb1) hbk
  have c31 := fun W (hW : Below W1.heap.size W1 W) => prt_show_all o _ W (h.kept (bthen hb1 hW)) hbk (ht.below (bthen hb1 hW))
  have f := five_cells hW1
  obtain ⟨f0, f1, f2, f3, f4⟩ := id f
  replace hb1 := Lib.hid hb1
  replace c31 := Lib.hid c31
  replace f := Lib.hid f
  obtain ⟨m, hm⟩ : ∃ m, m = o.may 28 := ⟨_, rfl⟩
  rw [← hm] at c
  clear h
  have hP : ∀ e w', (Below w.heap.size w w' ∧ ∃ A c n z, e = .returned (.tuple #[.slice A n c, .int .i64 z]) ∧ (A = none → c = 0) ∧ ((k ≠ 8 ∧ m = true ∧ n = o.show.length ∧ Byt w' A o.show ∧ z = 0) ∨ (¬ (k ≠ 8 ∧ m = true) ∧ A = none ∧ n = 0 ∧ z = 1))) → VR w o e w' := fun _ _ hh => by unfold VR; rw [← hk, ← hm]; exact hh
  replace hP := Lib.hid hP
  clear hk hm
  go_enter Tryd.func6, Tryd.ntmps6
  go_upto_region 1 with (fail)
  rw [← hW1]
  replace hW1 := Lib.hid hW1
  by_cases k8 : k = 8
  · subst k8
    go_wp2
    go_ret2
    exact hP.out _ _ ⟨hb1.out, none, 0, 0, 1, rfl, fun _ => rfl, .inr ⟨by simp, rfl, rfl, rfl⟩⟩
  · have q8 : (k == 8) = false := by simpa using k8
    cases m with
    | false =>
      go_wp2_with (go_at_call 15; (with_reducible refine c.mono ?_); rintro e w2 ⟨rfl, hB⟩; replace hB := Lib.hid hB)
      go_ret2
      exact hP.out _ _ ⟨bthen hb1.out hB.out, none, 0, 0, 1, rfl, fun _ => rfl, .inr ⟨by simp, rfl, rfl, rfl⟩⟩
    | true =>
      go_wp2_with (first
        | (go_at_call 15; (with_reducible refine c.mono ?_); rintro e w2 ⟨rfl, hB⟩; have g := five_kept f.out hB; obtain ⟨g0, g1, g2, g3, g4⟩ := g; have c' := c31.out w2 hB; replace hB := Lib.hid hB)
        | (go_at_call 16; (with_reducible refine c'.mono ?_); rintro e w3 ⟨A2, c2, rfl, hb2, hA2, hB2⟩; replace hb2 := Lib.hid hb2; replace hB2 := Lib.hid hB2; replace hA2 := Lib.hid hA2))
      go_ret2
      exact hP.out _ _ ⟨bthen hb1.out (bthen hB.out hB2.out), A2, c2, _, 0, rfl, hA2.out, .inl ⟨k8, by trivial, rfl, hb2.out, rfl⟩⟩
end Go.Proofs.YthacnnmlephkhaaDoor

/- Objects that may be have the same bytes just if they are the same: plain. No condition. -/
namespace Go.Wk
open Go
mutual
/-- are two the same? -/
def sameB : Ob → Ob → Bool
  | .mk k n b l d, .mk k' n' b' l' d' => k == k' && (
    if k = 1 ∨ k = 2 ∨ k = 3 ∨ k = 9 then n == n'
    else if k = 4 ∨ k = 5 then b == b'
    else if k = 6 then sameL l l'
    else if k = 7 ∨ k = 8 then (k == 7 || b == b') && sameD d d'
    else true)
def sameL : List Ob → List Ob → Bool
  | [], [] => true
  | o :: r, o' :: r' => sameB o o' && sameL r r'
  | [], _ :: _ => false
  | _ :: _, [] => false
def sameD : List (List UInt8 × Ob) → List (List UInt8 × Ob) → Bool
  | [], [] => true
  | e :: r, e' :: r' => (e.1 == e'.1 && sameB e.2 e'.2) && sameD r r'
  | [], _ :: _ => false
  | _ :: _, [] => false
end
/-! ### The same, the same bytes -/
mutual
theorem show_same : ∀ (a b : Ob), sameB a b = true → a.show = b.show
  | .mk k n b l d, .mk k' n' b' l' d', h => by
    simp only [sameB, Bool.and_eq_true, beq_iff_eq] at h
    obtain ⟨rfl, h⟩ := h
    have h6 := showL_same l l'
    have h7 := showD_same d d'
    simp only [Ob.show]
    by_cases k1 : k = 1
    · subst k1; simp at h; simp [h]
    by_cases k2 : k = 2
    · subst k2; simp at h; simp [h]
    by_cases k3 : k = 3
    · subst k3; simp at h; simp [h]
    by_cases k4 : k = 4
    · subst k4; simp at h; simp [h]
    by_cases k5 : k = 5
    · subst k5; simp at h; simp [h]
    by_cases k9 : k = 9
    · subst k9; simp at h; simp [h]
    by_cases k6 : k = 6
    · subst k6; simp at h; simp [h6 h]
    by_cases k78 : k = 7 ∨ k = 8
    · simp only [k1, k2, k3, k4, k5, k9, k6, k78, or_self, if_false, if_true] at h ⊢
      simp at h
      rw [h7 h.2]
    · simp only [k1, k2, k3, k4, k5, k9, k6, k78, if_false]
theorem showL_same : ∀ (l l' : List Ob), sameL l l' = true → ∀ f, showL f l = showL f l'
  | [], [], _, _ => rfl
  | [], _ :: _, h, _ => by simp [sameL] at h
  | _ :: _, [], h, _ => by simp [sameL] at h
  | o :: r, o' :: r', h, f => by
    simp only [sameL, Bool.and_eq_true] at h
    simp only [showL, show_same o o' h.1, showL_same r r' h.2 false]
theorem showD_same : ∀ (l l' : List (List UInt8 × Ob)), sameD l l' = true → showD l = showD l'
  | [], [], _ => rfl
  | [], _ :: _, h => by simp [sameD] at h
  | _ :: _, [], h => by simp [sameD] at h
  | e :: r, e' :: r', h => by
    simp only [sameD, Bool.and_eq_true, beq_iff_eq] at h
    simp only [showD, h.1.1, show_same e.2 e'.2 h.1.2, showD_same r r' h.2]
end
/-! ### Cut where signs end -/
theorem cut_while {p : UInt8 → Bool} : ∀ {a b s t : List UInt8}, a.all p = true → b.all p = true → (∀ c r, s = c :: r → p c = false) → (∀ c r, t = c :: r → p c = false) → a ++ s = b ++ t → a = b ∧ s = t := by
  intro a
  induction a with
  | nil =>
    intro b s t _ hb hs _ e
    cases b with
    | nil => exact ⟨rfl, e⟩
    | cons y b =>
      have := hs y (b ++ t) (by simpa using e)
      simp at hb
      rw [hb.1] at this; cases this
  | cons x a ih =>
    intro b s t ha hb hs ht e
    cases b with
    | nil =>
      have := ht x (a ++ s) (by simpa using e.symm)
      simp at ha
      rw [ha.1] at this; cases this
    | cons y b =>
      simp only [List.all_cons, Bool.and_eq_true] at ha hb
      simp only [List.cons_append] at e
      injection e with e1 e2
      obtain ⟨h1, h2⟩ := ih ha.2 hb.2 hs ht e2
      exact ⟨by rw [e1, h1], h2⟩
/-! ### Digits -/
def digB (c : UInt8) : Bool := decide (48 ≤ c.toNat ∧ c.toNat ≤ 57)
def dval (l : List UInt8) : Nat := l.foldl (fun n c => 10 * n + (c.toNat - 48)) 0
theorem dig_nat (u : Nat) (h : u < 10) : (UInt8.ofNat (48 + u)).toNat = 48 + u := UInt8.toNat_ofNat_of_lt' (by show _ < 256; omega)
theorem dec_digs : ∀ u, (Lib.decDigits u).all digB = true := by
  intro u
  induction u using Nat.strongRecOn with
  | _ u ih =>
    rw [Lib.decDigits]
    split
    · rename_i h
      simp only [List.all_cons, List.all_nil, Bool.and_true, digB, dig_nat u h, decide_eq_true_eq]; omega
    · rename_i h
      simp only [List.all_append, ih (u / 10) (by omega), List.all_cons, List.all_nil, Bool.and_true, Bool.true_and, digB, dig_nat (u % 10) (by omega), decide_eq_true_eq]; omega
theorem dval_dec : ∀ u, dval (Lib.decDigits u) = u := by
  intro u
  induction u using Nat.strongRecOn with
  | _ u ih =>
    rw [Lib.decDigits]
    split
    · rename_i h; unfold dval; simp only [List.foldl_cons, List.foldl_nil, dig_nat u h]; omega
    · rename_i h
      have := ih (u / 10) (by omega)
      unfold dval at this ⊢
      rw [List.foldl_append, this]
      simp only [List.foldl_cons, List.foldl_nil, dig_nat (u % 10) (by omega)]
      omega
theorem dec_inj {u v : Nat} (h : Lib.decDigits u = Lib.decDigits v) : u = v := by rw [← dval_dec u, ← dval_dec v, h]
theorem dec_head (u : Nat) : ∃ c r, Lib.decDigits u = c :: r ∧ digB c = true := by
  have h := dec_digs u
  cases e : Lib.decDigits u with
  | nil =>
    exfalso
    rw [Lib.decDigits] at e
    split at e
    · cases e
    · simp at e
  | cons c r => rw [e] at h; simp at h; exact ⟨c, r, rfl, h.1⟩
theorem trim_more (l : List UInt8) (c : UInt8) : ∃ k, l = Lib.trimRightB l c ++ List.replicate k c := by
  unfold Lib.trimRightB
  have key : ∀ m : List UInt8, ∃ k, m = List.replicate k c ++ m.dropWhile (· == c) := by
    intro m
    induction m with
    | nil => exact ⟨0, rfl⟩
    | cons x m ih =>
      by_cases hx : x = c
      · subst hx
        obtain ⟨k, hk⟩ := ih
        refine ⟨k + 1, ?_⟩
        simp only [List.dropWhile_cons, beq_self_eq_true, if_true, List.replicate_succ, List.cons_append]
        rw [← hk]
      · refine ⟨0, ?_⟩
        simp [List.dropWhile_cons, hx]
  obtain ⟨k, hk⟩ := key l.reverse
  refine ⟨k, ?_⟩
  have := congrArg List.reverse hk
  simpa using this
theorem trim_inj {l m : List UInt8} {c : UInt8} (hl : l.length = m.length) (h : Lib.trimRightB l c = Lib.trimRightB m c) : l = m := by
  obtain ⟨k, hk⟩ := trim_more l c
  obtain ⟨j, hj⟩ := trim_more m c
  rw [h] at hk
  have : k = j := by
    have h1 := congrArg List.length hk
    have h2 := congrArg List.length hj
    simp at h1 h2
    omega
  subst this
  exact hk.trans hj.symm
theorem six_dig (r : Nat) (h : r < 100000) : (Lib.decDigits (100000 + r)).length = 6 := by
  have ten : ∀ u, 10 ≤ u → (Lib.decDigits u).length = (Lib.decDigits (u / 10)).length + 1 := fun u hu => by
    rw [Lib.decDigits, dif_neg (by omega)]; simp
  rw [ten _ (by omega), ten _ (by omega), ten _ (by omega), ten _ (by omega), ten _ (by omega), Lib.decDigits, dif_pos (by omega)]
  rfl
theorem one_dig (r : Nat) (h : r < 100000) : ∃ p, Lib.decDigits (100000 + r) = 49 :: p ∧ p.length = 5 := by
  have ten : ∀ u, 10 ≤ u → Lib.decDigits u = Lib.decDigits (u / 10) ++ [UInt8.ofNat (48 + u % 10)] := fun u hu => by
    rw [Lib.decDigits, dif_neg (by omega)]
  have h6 := six_dig r h
  rw [ten _ (by omega), ten _ (by omega), ten _ (by omega), ten _ (by omega), ten _ (by omega), Lib.decDigits, dif_pos (by omega)] at h6 ⊢
  have e : (100000 + r) / 10 / 10 / 10 / 10 / 10 = 1 := by omega
  rw [e]
  refine ⟨_, rfl, ?_⟩
  rfl
theorem frac_inj {r s : Nat} (hr : r < 100000) (hs : s < 100000) (h : fracL r = fracL s) : r = s := by
  obtain ⟨p, hp, lp⟩ := one_dig r hr
  obtain ⟨q, hq, lq⟩ := one_dig s hs
  unfold fracL at h
  simp only [hp, hq, List.drop_succ_cons, List.drop_zero] at h
  cases p with
  | nil => simp at lp
  | cons x p =>
    cases q with
    | nil => simp at lq
    | cons y q =>
      simp only [List.take_succ_cons, List.take_zero, List.drop_succ_cons, List.drop_zero, List.cons_append, List.nil_append] at h
      injection h with h1 h2
      have := trim_inj (by simp at lp lq; omega) h2
      have e : Lib.decDigits (100000 + r) = Lib.decDigits (100000 + s) := by rw [hp, hq, h1, this]
      have := dec_inj e
      omega
/-- signs of numbers -/
def numB (c : UInt8) : Bool := digB c || c == 45 || c == 46
theorem dig_num {l : List UInt8} (h : l.all digB = true) : l.all numB = true := by
  rw [List.all_eq_true] at h ⊢
  intro x hx; simp [numB, h x hx]
theorem frac_digs (r : Nat) : (fracL r).all digB = true := by
  have h := dec_digs (100000 + r)
  rw [List.all_eq_true] at h ⊢
  intro x hx
  unfold fracL at hx
  refine h x ?_
  rcases List.mem_append.1 hx with h1 | h1
  · exact List.mem_of_mem_drop (List.mem_of_mem_take h1)
  · obtain ⟨k, hk⟩ := trim_more (((Lib.decDigits (100000 + r)).drop 1).drop 1) 48
    have : x ∈ ((Lib.decDigits (100000 + r)).drop 1).drop 1 := by rw [hk]; exact List.mem_append_left _ h1
    exact List.mem_of_mem_drop (List.mem_of_mem_drop this)
theorem num_all (n : Int) (w : Bool) : (numT n w).all numB = true := by
  unfold numT
  split
  · unfold Lib.itoa
    split
    · rw [List.all_cons, dig_num (dec_digs _)]; rfl
    · exact dig_num (dec_digs _)
  · rw [List.all_append, List.all_append, List.all_cons, dig_num (dec_digs _), dig_num (frac_digs _)]
    split <;> rfl
theorem dig_ne {c : UInt8} (h : digB c = true) : c ≠ 45 ∧ c ≠ 46 := by
  constructor <;> (rintro rfl; revert h; decide)
theorem num_inj {n m : Int} {w v : Bool} (h : numT n w = numT m v) : n = m ∧ w = v := by
  have nodot : ∀ k, (46 : UInt8) ∉ numT k true := by
    intro k hk
    unfold numT Lib.itoa at hk
    simp only [if_true] at hk
    have d := fun u => List.all_eq_true.1 (dec_digs u) 46
    split at hk
    · rcases List.mem_cons.1 hk with e | e
      · cases e
      · exact absurd (d _ e) (by decide)
    · exact absurd (d _ hk) (by decide)
  have dot : ∀ k, (46 : UInt8) ∈ numT k false := by intro k; unfold numT; simp
  have wv : w = v := by
    cases w <;> cases v
    · rfl
    · exact absurd (h ▸ dot n) (nodot m)
    · exact absurd (h ▸ dot m) (nodot n)
    · rfl
  subst wv
  refine ⟨?_, rfl⟩
  -- signs
  have first : ∀ k w, ∃ c r, numT k w = c :: r ∧ (c = 45 ↔ k < 0) := by
    intro k w
    unfold numT Lib.itoa
    have hd := fun u => dec_head u
    cases w with
    | true =>
      simp only [if_true]
      split
      · rename_i hk; exact ⟨45, _, rfl, by simp [hk]⟩
      · rename_i hk
        obtain ⟨c, r, e, hc⟩ := hd k.toNat
        exact ⟨c, r, e, ⟨fun e2 => absurd e2 (dig_ne hc).1, fun h2 => absurd h2 hk⟩⟩
    | false =>
      simp only [Bool.false_eq_true, if_false]
      split
      · rename_i hk; exact ⟨45, _, rfl, by simp [hk]⟩
      · rename_i hk
        obtain ⟨c, r, e, hc⟩ := hd (k.natAbs / 100000)
        rw [e]
        exact ⟨c, _, rfl, ⟨fun e2 => absurd e2 (dig_ne hc).1, fun h2 => absurd h2 hk⟩⟩
  have sg : n < 0 ↔ m < 0 := by
    obtain ⟨c, r, e, hc⟩ := first n w
    obtain ⟨c', r', e', hc'⟩ := first m w
    rw [e, e'] at h
    injection h with h1 _
    rw [← hc, ← hc', h1]
  cases w with
  | true =>
    unfold numT Lib.itoa at h
    simp only [if_true] at h
    by_cases hn : n < 0
    · rw [if_pos hn, if_pos (sg.1 hn)] at h
      injection h with _ h
      have := dec_inj h
      have := sg.1 hn
      omega
    · have hm : ¬ m < 0 := fun h => hn (sg.2 h)
      rw [if_neg hn, if_neg hm] at h
      have := dec_inj h
      omega
  | false =>
    unfold numT at h
    simp only [Bool.false_eq_true, if_false] at h
    have h2 : Lib.decDigits (n.natAbs / 100000) ++ (46 :: fracL (n.natAbs % 100000)) = Lib.decDigits (m.natAbs / 100000) ++ (46 :: fracL (m.natAbs % 100000)) := by
      by_cases hn : n < 0
      · rw [if_pos hn, if_pos (sg.1 hn)] at h
        simpa using h
      · have hm : ¬ m < 0 := fun h => hn (sg.2 h)
        rw [if_neg hn, if_neg hm] at h
        simpa using h
    obtain ⟨h3, h4⟩ := cut_while (p := digB) (dec_digs _) (dec_digs _) (fun c r e => by injection e with e _; subst e; rfl) (fun c r e => by injection e with e _; subst e; rfl) h2
    injection h4 with _ h4
    have e1 := dec_inj h3
    have e2 := frac_inj (Nat.mod_lt _ (by omega)) (Nat.mod_lt _ (by omega)) h4
    have e3 : n.natAbs = m.natAbs := by omega
    omega
/-! ### Names, texts -/
theorem hexD_inj {a b : Nat} (ha : a < 16) (hb : b < 16) (h : hexD a = hexD b) : a = b := by
  have key : ∀ a : Fin 16, ∀ b : Fin 16, hexD a.val = hexD b.val → a = b := by decide +kernel
  have := key ⟨a, ha⟩ ⟨b, hb⟩ h
  exact congrArg Fin.val this
theorem hexD_reg (a : Nat) (h : a < 16) : regB (hexD a) = true ∧ hexD a ≠ 62 ∧ hexD a ≠ 60 := by
  have key : ∀ a : Fin 16, regB (hexD a.val) = true ∧ hexD a.val ≠ 62 ∧ hexD a.val ≠ 60 := by decide +kernel
  exact key ⟨a, h⟩
theorem hex_two (c : UInt8) : hexS [c] = [hexD (c.toNat / 16), hexD (c.toNat % 16)] := by simp [hexS]
theorem hex_inj1 {a b : UInt8} (h1 : hexD (a.toNat / 16) = hexD (b.toNat / 16)) (h2 : hexD (a.toNat % 16) = hexD (b.toNat % 16)) : a = b := by
  have ha := a.toNat_lt
  have hb := b.toNat_lt
  have e1 := hexD_inj (by omega) (by omega) h1
  have e2 := hexD_inj (by omega) (by omega) h2
  exact UInt8.toNat_inj.1 (by omega)
theorem hexS_inj : ∀ {a b : List UInt8}, hexS a = hexS b → a = b := by
  intro a
  induction a with
  | nil =>
    intro b h
    cases b with
    | nil => rfl
    | cons y b => simp [hexS] at h
  | cons x a ih =>
    intro b h
    cases b with
    | nil => simp [hexS] at h
    | cons y b =>
      simp only [hexS, List.flatMap_cons, List.cons_append, List.nil_append] at h
      injection h with h1 h
      injection h with h2 h
      rw [hex_inj1 h1 h2, ih h]
theorem nameC_all (c : UInt8) : (nameC c).all regB = true := by
  unfold nameC
  split
  · rename_i h; simp [h.2.2.2]
  · have := c.toNat_lt
    rw [hex_two]
    simp [(hexD_reg (c.toNat / 16) (by omega)).1, (hexD_reg (c.toNat % 16) (by omega)).1]
    decide
theorem names_all : ∀ s : List UInt8, (s.flatMap nameC).all regB = true := by
  intro s
  induction s with
  | nil => rfl
  | cons x s ih => rw [List.flatMap_cons, List.all_append, nameC_all, ih]; rfl
theorem names_inj : ∀ {a b : List UInt8}, a.flatMap nameC = b.flatMap nameC → a = b := by
  have pos : ∀ c, ∃ x r, nameC c = x :: r := fun c => by unfold nameC; split <;> exact ⟨_, _, rfl⟩
  intro a
  induction a with
  | nil =>
    intro b h
    cases b with
    | nil => rfl
    | cons y b => obtain ⟨x, r, e⟩ := pos y; simp [e] at h
  | cons x a ih =>
    intro b h
    cases b with
    | nil => obtain ⟨y, r, e⟩ := pos x; simp [e] at h
    | cons y b =>
      simp only [List.flatMap_cons] at h
      have key : x = y ∧ a.flatMap nameC = b.flatMap nameC := by
        unfold nameC at h
        rw [hex_two, hex_two] at h
        split at h <;> split at h
        · simp only [List.cons_append, List.nil_append] at h
          injection h with h1 h2
          exact ⟨h1, h2⟩
        · rename_i hx hy
          simp only [List.cons_append, List.nil_append] at h
          injection h with h1 _
          exact absurd h1 hx.2.2.1
        · rename_i hx hy
          simp only [List.cons_append, List.nil_append] at h
          injection h with h1 _
          exact absurd h1.symm hy.2.2.1
        · simp only [List.cons_append, List.nil_append] at h
          injection h with _ h
          injection h with h1 h
          injection h with h2 h
          exact ⟨hex_inj1 h1 h2, h⟩
      rw [key.1, ih key.2]
/-- what ends a name, a number -/
def Stop (s : List UInt8) : Prop := ∀ c r, s = c :: r → c = 32 ∨ c = 93 ∨ c = 47 ∨ c = 62
theorem Stop.reg {s : List UInt8} (h : Stop s) : ∀ c r, s = c :: r → regB c = false := by
  intro c r e
  rcases h c r e with rfl | rfl | rfl | rfl <;> decide
theorem Stop.num {s : List UInt8} (h : Stop s) : ∀ c r, s = c :: r → numB c = false := by
  intro c r e
  rcases h c r e with rfl | rfl | rfl | rfl <;> decide
theorem nameT_cut {a b s t : List UInt8} (hs : Stop s) (ht : Stop t) (h : nameT a ++ s = nameT b ++ t) : a = b ∧ s = t := by
  unfold nameT at h
  simp only [List.cons_append] at h
  injection h with _ h
  obtain ⟨h1, h2⟩ := cut_while (names_all a) (names_all b) hs.reg ht.reg h
  exact ⟨names_inj h1, h2⟩
theorem textT_cut {a b s t : List UInt8} (h : textT a ++ s = textT b ++ t) : a = b ∧ s = t := by
  have hexa : ∀ b : List UInt8, (hexS b).all (fun c => c != 62) = true := by
    intro b
    unfold hexS
    induction b with
    | nil => rfl
    | cons x b ih =>
      have := x.toNat_lt
      rw [List.flatMap_cons, List.all_append, ih]
      simp [(hexD_reg (x.toNat / 16) (by omega)).2.1, (hexD_reg (x.toNat % 16) (by omega)).2.1]
  have pl : ∀ b : List UInt8, b.all plainB = true → b.all (fun c => c != 41) = true := by
    intro b hb
    rw [List.all_eq_true] at hb ⊢
    intro x hx
    have := hb x hx
    unfold plainB at this
    simp at this
    simp [this]
  unfold textT at h
  split at h <;> split at h
  · rename_i ha hb
    simp only [List.cons_append, List.append_assoc, List.nil_append] at h
    injection h with _ h
    obtain ⟨h1, h2⟩ := cut_while (pl a ha) (pl b hb) (fun c r e => by injection e with e _; subst e; rfl) (fun c r e => by injection e with e _; subst e; rfl) h
    injection h2 with _ h2
    exact ⟨h1, h2⟩
  · simp only [List.cons_append] at h
    injection h with h _
    cases h
  · simp only [List.cons_append] at h
    injection h with h _
    cases h
  · simp only [List.cons_append, List.append_assoc, List.nil_append] at h
    injection h with _ h
    obtain ⟨h1, h2⟩ := cut_while (hexa a) (hexa b) (fun c r e => by injection e with e _; subst e; rfl) (fun c r e => by injection e with e _; subst e; rfl) h
    injection h2 with _ h2
    exact ⟨hexS_inj h1, h2⟩
end Go.Wk

/- Objects that may be have the same bytes just if they are the same: plain, whole. No condition. -/
namespace Go.Wk
open Go
theorem may_kind {dep : Nat} {k n : Int} {b : List UInt8} {l : List Ob} {d : List (List UInt8 × Ob)} (h : (Ob.mk k n b l d).may dep = true) : k = 0 ∨ k = 1 ∨ k = 2 ∨ k = 3 ∨ k = 4 ∨ k = 5 ∨ k = 6 ∨ k = 7 ∨ k = 8 ∨ k = 9 := by
  simp only [Ob.may, Bool.and_eq_true] at h
  have h := h.2
  by_cases k0 : k = 0
  · simp [k0]
  by_cases k1 : k = 1
  · simp [k1]
  by_cases k2 : k = 2
  · simp [k2]
  by_cases k3 : k = 3
  · simp [k3]
  by_cases k4 : k = 4
  · simp [k4]
  by_cases k5 : k = 5
  · simp [k5]
  by_cases k6 : k = 6
  · simp [k6]
  by_cases k7 : k = 7
  · simp [k7]
  by_cases k8 : k = 8
  · simp [k8]
  by_cases k9 : k = 9
  · simp [k9]
  simp [k0, k1, k2, k3, k4, k5, k6, k7, k8, k9] at h
/-- what a text begins as -/
def cls : List UInt8 → Nat
  | [] => 20
  | c :: r => if c = 110 then 0 else if c = 116 ∨ c = 102 then 1 else if c = 40 then 4 else if c = 47 then 5 else if c = 91 then 6 else if c = 60 then (if r.head? = some 60 then 7 else 4) else if numB c = true then 2 else 20
def kc (k : Int) : Nat := if k = 0 then 0 else if k = 1 then 1 else if k = 4 then 4 else if k = 5 then 5 else if k = 6 then 6 else if k = 7 then 7 else 2
theorem num_head (n : Int) (w : Bool) : ∃ c r, numT n w = c :: r ∧ numB c = true := by
  have h := num_all n w
  cases e : numT n w with
  | nil =>
    exfalso
    obtain ⟨c, r, e1, _⟩ := dec_head n.toNat
    unfold numT Lib.itoa at e
    cases w with
    | true =>
      simp only [if_true] at e
      split at e
      · cases e
      · rw [e1] at e; cases e
    | false => simp at e
  | cons c r => rw [e] at h; simp only [List.all_cons, Bool.and_eq_true] at h; exact ⟨c, r, rfl, h.1⟩
theorem cls_num {c : UInt8} (r : List UInt8) (h : numB c = true) : cls (c :: r) = 2 := by
  have key : ∀ c : UInt8, numB c = true → c ≠ 110 ∧ c ≠ 116 ∧ c ≠ 102 ∧ c ≠ 40 ∧ c ≠ 47 ∧ c ≠ 91 ∧ c ≠ 60 := by
    intro c hc
    refine ⟨?_, ?_, ?_, ?_, ?_, ?_, ?_⟩ <;> (rintro rfl; revert hc; decide)
  have := key c h
  unfold cls
  simp [this, h]
theorem cls_show {dep : Nat} {k n : Int} {b : List UInt8} {l : List Ob} {d : List (List UInt8 × Ob)} (h : (Ob.mk k n b l d).may dep = true) (h8 : k ≠ 8) (s : List UInt8) : cls ((Ob.mk k n b l d).show ++ s) = kc k := by
  obtain ⟨c1, r1, e1, n1⟩ := num_head n true
  obtain ⟨c2, r2, e2, n2⟩ := num_head n false
  rcases may_kind h with rfl | rfl | rfl | rfl | rfl | rfl | rfl | rfl | rfl | rfl
  · simp [Ob.show, cls, kc]
  · by_cases hn : n = 1 <;> simp [Ob.show, cls, kc, hn]
  · simp only [Ob.show]; simp [e1, cls_num _ n1, kc]
  · simp only [Ob.show]; simp [e2, cls_num _ n2, kc]
  · simp only [Ob.show]
    unfold textT
    by_cases hb : b.all plainB = true
    · simp [hb, cls, kc]
    · simp only [hb]
      have : ((hexS b ++ [62]) ++ s).head? ≠ some 60 := by
        cases b with
        | nil => simp [hexS]
        | cons x b =>
          have := x.toNat_lt
          simp [hexS, (hexD_reg (x.toNat / 16) (by omega)).2.2]
      simp at this
      simp [cls, kc, this]
  · simp [Ob.show, nameT, cls, kc]
  · simp [Ob.show, cls, kc]
  · simp [Ob.show, cls, kc]
  · exact absurd rfl h8
  · simp only [Ob.show]; simp [e1, cls_num _ n1, kc]
/-- what may follow an object -/
def Fol (s : List UInt8) : Prop := Stop s ∧ ∀ r, s ≠ 32 :: 48 :: 32 :: 82 :: r
theorem kc_two {k : Int} (h : kc k = 2) (hk : k = 0 ∨ k = 1 ∨ k = 2 ∨ k = 3 ∨ k = 4 ∨ k = 5 ∨ k = 6 ∨ k = 7 ∨ k = 8 ∨ k = 9) (h8 : k ≠ 8) : k = 2 ∨ k = 3 ∨ k = 9 := by
  rcases hk with rfl | rfl | rfl | rfl | rfl | rfl | rfl | rfl | rfl | rfl <;> simp [kc] at h h8 ⊢
theorem kc_eq {k k' : Int} (h : kc k = kc k') (hk : k = 0 ∨ k = 1 ∨ k = 2 ∨ k = 3 ∨ k = 4 ∨ k = 5 ∨ k = 6 ∨ k = 7 ∨ k = 8 ∨ k = 9) (hk' : k' = 0 ∨ k' = 1 ∨ k' = 2 ∨ k' = 3 ∨ k' = 4 ∨ k' = 5 ∨ k' = 6 ∨ k' = 7 ∨ k' = 8 ∨ k' = 9) (h8 : k ≠ 8) (h8' : k' ≠ 8) : k = k' ∨ kc k = 2 := by
  rcases hk with rfl | rfl | rfl | rfl | rfl | rfl | rfl | rfl | rfl | rfl <;> rcases hk' with rfl | rfl | rfl | rfl | rfl | rfl | rfl | rfl | rfl | rfl <;> simp [kc] at h h8 h8' ⊢
/-- a number's text, and what is behind it -/
theorem num_show {dep : Nat} {k n : Int} {b : List UInt8} {l : List Ob} {d : List (List UInt8 × Ob)} (hk : k = 2 ∨ k = 3 ∨ k = 9) (s : List UInt8) :
    (Ob.mk k n b l d).show ++ s = numT n (k != 3) ++ (if k = 9 then 32 :: 48 :: 32 :: 82 :: s else s) := by
  rcases hk with rfl | rfl | rfl <;> simp [Ob.show]
theorem stop_if {k : Int} {s : List UInt8} (h : Stop s) : Stop (if k = 9 then 32 :: 48 :: 32 :: 82 :: s else s) := by
  split
  · intro c r e; injection e with e _; exact .inl e.symm
  · exact h
theorem not_zero_R {dep : Nat} {o : Ob} (h : o.may dep = true) (h8 : o.kind ≠ 8) {Y : List UInt8} (hY : Stop Y) (hR : ∀ r, Y ≠ 32 :: 82 :: r) (r : List UInt8) : o.show ++ Y ≠ 48 :: 32 :: 82 :: r := by
  intro e
  obtain ⟨k, n, b, l, d⟩ := o
  have h8 : k ≠ 8 := h8
  have hc := cls_show h h8 Y
  rw [e, cls_num _ (by decide)] at hc
  have hk := kc_two hc.symm (may_kind h) h8
  rw [num_show (dep := dep) hk] at e
  have e' : numT n (k != 3) ++ (if k = 9 then 32 :: 48 :: 32 :: 82 :: Y else Y) = [48] ++ (32 :: 82 :: r) := e
  obtain ⟨_, e2⟩ := cut_while (num_all n _) (by decide) (stop_if hY).num (fun c r e => by injection e with e _; subst e; decide) e'
  split at e2
  · injection e2 with _ e2
    injection e2 with e2 _
    cases e2
  · exact hR r e2
theorem head_R {dep : Nat} {o : Ob} (h : o.may dep = true) (h8 : o.kind ≠ 8) (Y r : List UInt8) : o.show ++ Y ≠ 82 :: r := by
  intro e
  obtain ⟨k, n, b, l, d⟩ := o
  have h8 : k ≠ 8 := h8
  have hc := cls_show h h8 Y
  rw [e] at hc
  have : cls (82 :: r) = 20 := by unfold cls; simp; decide
  rw [this] at hc
  unfold kc at hc
  split at hc
  · cases hc
  repeat (first | cases hc | split at hc)
theorem fol_L {dep : Nat} : ∀ (l : List Ob), mayL dep l = true → ∀ s, Fol (showL false l ++ 93 :: s) ∧ ∀ r, showL false l ++ 93 :: s ≠ 32 :: 82 :: r := by
  intro l
  induction l with
  | nil =>
    intro _ s
    refine ⟨⟨fun c r e => ?_, fun r e => ?_⟩, fun r e => ?_⟩
    · simp [showL] at e; exact .inr (.inl e.1.symm)
    · simp [showL] at e
    · simp [showL] at e
  | cons o l ih =>
    intro h s
    simp only [mayL, Bool.and_eq_true, bne_iff_ne, ne_eq] at h
    obtain ⟨⟨h8, ho⟩, hl⟩ := h
    obtain ⟨f1, f2⟩ := ih hl s
    have e0 : showL false (o :: l) ++ 93 :: s = 32 :: (o.show ++ (showL false l ++ 93 :: s)) := by simp [showL]
    rw [e0]
    refine ⟨⟨fun c r e => ?_, fun r e => ?_⟩, fun r e => ?_⟩
    · injection e with e _; exact .inl e.symm
    · injection e with _ e; exact not_zero_R ho h8 f1.1 f2 r e
    · injection e with _ e; exact head_R ho h8 _ r e
theorem fol_D : ∀ (d : List (List UInt8 × Ob)) (s : List UInt8), Fol (showD d ++ 62 :: 62 :: s) := by
  intro d s
  cases d with
  | nil => refine ⟨fun c r e => ?_, fun r e => ?_⟩ <;> simp [showD] at e; exact .inr (.inr (.inr e.1.symm))
  | cons e d => refine ⟨fun c r e => ?_, fun r e => ?_⟩ <;> simp [showD, nameT] at e; exact .inr (.inr (.inl e.1.symm))
mutual
theorem show_cut : ∀ (a b : Ob) (dep dep' : Nat), a.may dep = true → b.may dep' = true → a.kind ≠ 8 → b.kind ≠ 8 → ∀ s t, Fol s → Fol t → a.show ++ s = b.show ++ t → sameB a b = true ∧ s = t
  | .mk k n b l d, .mk k' n' b' l' d', dep, dep', ha, hb, h8, h8', s, t, hs, ht, e => by
    have h8 : k ≠ 8 := h8
    have h8' : k' ≠ 8 := h8'
    have hka := may_kind ha
    have hkb := may_kind hb
    have hc : kc k = kc k' := by rw [← cls_show ha h8 s, ← cls_show hb h8' t, e]
    by_cases h2 : kc k = 2
    · have q1 := kc_two h2 hka h8
      have q2 := kc_two (hc ▸ h2) hkb h8'
      rw [num_show (dep := dep) q1, num_show (dep := dep') q2] at e
      obtain ⟨e1, e2⟩ := cut_while (num_all _ _) (num_all _ _) (stop_if hs.1).num (stop_if ht.1).num e
      obtain ⟨rfl, ew⟩ := num_inj e1
      have key : k = k' ∧ s = t := by
        rcases q1 with rfl | rfl | rfl <;> rcases q2 with rfl | rfl | rfl <;> simp at ew e2
        · exact ⟨rfl, e2⟩
        · exact absurd e2 (hs.2 t)
        · exact ⟨rfl, e2⟩
        · exact absurd e2.symm (ht.2 s)
        · exact ⟨rfl, e2⟩
      obtain ⟨rfl, rfl⟩ := key
      refine ⟨?_, rfl⟩
      rcases q1 with rfl | rfl | rfl <;> simp [sameB]
    · obtain rfl : k = k' := (kc_eq hc hka hkb h8 h8').resolve_right h2
      rcases hka with rfl | rfl | rfl | rfl | rfl | rfl | rfl | rfl | rfl | rfl
      · simp [Ob.show] at e; exact ⟨by simp [sameB], e⟩
      · have hn := ha
        have hm := hb
        simp [Ob.may] at hn hm
        have hn : n = 0 ∨ n = 1 := by omega
        have hm : n' = 0 ∨ n' = 1 := by omega
        rcases hn with rfl | rfl <;> rcases hm with rfl | rfl <;> simp [Ob.show] at e
        · exact ⟨by simp [sameB], e⟩
        · exact ⟨by simp [sameB], e⟩
      · exact absurd rfl h2
      · exact absurd rfl h2
      · have e : textT b ++ s = textT b' ++ t := by simpa [Ob.show] using e
        obtain ⟨rfl, rfl⟩ := textT_cut e
        exact ⟨by simp [sameB], rfl⟩
      · have e : nameT b ++ s = nameT b' ++ t := by simpa [Ob.show] using e
        obtain ⟨rfl, rfl⟩ := nameT_cut hs.1 ht.1 e
        exact ⟨by simp [sameB], rfl⟩
      · have e : showL true l ++ 93 :: s = showL true l' ++ 93 :: t := by simpa [Ob.show] using e
        have m1 : mayL (dep - 1) l = true := by simp [Ob.may] at ha; exact ha.2.2
        have m2 : mayL (dep' - 1) l' = true := by simp [Ob.may] at hb; exact hb.2.2
        obtain ⟨h1, h3⟩ := showL_cut l l' _ _ m1 m2 true s t e
        exact ⟨by simp [sameB, h1], h3⟩
      · have e : showD d ++ 62 :: 62 :: s = showD d' ++ 62 :: 62 :: t := by simpa [Ob.show] using e
        have m1 : mayD (dep - 1) d = true := by simp [Ob.may] at ha; exact ha.2.2
        have m2 : mayD (dep' - 1) d' = true := by simp [Ob.may] at hb; exact hb.2.2
        obtain ⟨h1, h3⟩ := showD_cut d d' _ _ m1 m2 s t e
        exact ⟨by simp [sameB, h1], h3⟩
      · exact absurd rfl h8
      · exact absurd rfl h2
theorem showL_cut : ∀ (l l' : List Ob) (dep dep' : Nat), mayL dep l = true → mayL dep' l' = true → ∀ f s t, showL f l ++ 93 :: s = showL f l' ++ 93 :: t → sameL l l' = true ∧ s = t
  | [], [], _, _, _, _, f, s, t, e => by simp [showL] at e; exact ⟨rfl, e⟩
  | [], o :: r, dep, dep', _, h, f, s, t, e => by
    exfalso
    simp only [mayL, Bool.and_eq_true, bne_iff_ne, ne_eq] at h
    cases f with
    | false => simp [showL] at e
    | true =>
      obtain ⟨k, n, b, l, d⟩ := o
      have h8 : k ≠ 8 := h.1.1
      have e : (93 : UInt8) :: s = (Ob.mk k n b l d).show ++ (showL false r ++ 93 :: t) := by simpa [showL] using e
      have hc := cls_show h.1.2 h8 (showL false r ++ 93 :: t)
      rw [← e] at hc
      have : cls (93 :: s) = 20 := by unfold cls; simp; decide
      rw [this] at hc
      unfold kc at hc
      repeat (first | cases hc | split at hc)
  | o :: r, [], dep, dep', h, _, f, s, t, e => by
    exfalso
    simp only [mayL, Bool.and_eq_true, bne_iff_ne, ne_eq] at h
    cases f with
    | false => simp [showL] at e
    | true =>
      obtain ⟨k, n, b, l, d⟩ := o
      have h8 : k ≠ 8 := h.1.1
      have e : (Ob.mk k n b l d).show ++ (showL false r ++ 93 :: s) = (93 : UInt8) :: t := by simpa [showL] using e
      have hc := cls_show h.1.2 h8 (showL false r ++ 93 :: s)
      rw [e] at hc
      have : cls (93 :: t) = 20 := by unfold cls; simp; decide
      rw [this] at hc
      unfold kc at hc
      repeat (first | cases hc | split at hc)
  | o :: r, o' :: r', dep, dep', h, h', f, s, t, e => by
    simp only [mayL, Bool.and_eq_true, bne_iff_ne, ne_eq] at h h'
    have e : o.show ++ (showL false r ++ 93 :: s) = o'.show ++ (showL false r' ++ 93 :: t) := by simpa [showL] using e
    obtain ⟨h1, h2⟩ := show_cut o o' dep dep' h.1.2 h'.1.2 h.1.1 h'.1.1 _ _ (fol_L r h.2 s).1 (fol_L r' h'.2 t).1 e
    obtain ⟨h3, h4⟩ := showL_cut r r' dep dep' h.2 h'.2 false s t h2
    exact ⟨by simp [sameL, h1, h3], h4⟩
theorem showD_cut : ∀ (l l' : List (List UInt8 × Ob)) (dep dep' : Nat), mayD dep l = true → mayD dep' l' = true → ∀ s t, showD l ++ 62 :: 62 :: s = showD l' ++ 62 :: 62 :: t → sameD l l' = true ∧ s = t
  | [], [], _, _, _, _, s, t, e => by simp [showD] at e; exact ⟨rfl, e⟩
  | [], o :: r, _, _, _, h, s, t, e => by simp [showD, nameT] at e
  | o :: r, [], _, _, h, _, s, t, e => by simp [showD, nameT] at e
  | e1 :: r, e2 :: r', dep, dep', h, h', s, t, e => by
    simp only [mayD, Bool.and_eq_true, bne_iff_ne, ne_eq] at h h'
    have e : nameT e1.1 ++ (32 :: (e1.2.show ++ (showD r ++ 62 :: 62 :: s))) = nameT e2.1 ++ (32 :: (e2.2.show ++ (showD r' ++ 62 :: 62 :: t))) := by simpa [showD] using e
    have st : ∀ X : List UInt8, Stop (32 :: X) := fun X c r e => by injection e with e _; exact .inl e.symm
    obtain ⟨k1, k2⟩ := nameT_cut (st _) (st _) e
    injection k2 with _ k2
    obtain ⟨h1, h2⟩ := show_cut e1.2 e2.2 dep dep' h.1.2 h'.1.2 h.1.1.2 h'.1.1.2 _ _ (fol_D r s) (fol_D r' t) k2
    obtain ⟨h3, h4⟩ := showD_cut r r' dep dep' h.2 h'.2 s t h2
    exact ⟨by simp [sameD, h1, h3, k1], h4⟩
end
theorem show_inj {a b : Ob} {dep dep' : Nat} (ha : a.may dep = true) (hb : b.may dep' = true) (h8 : a.kind ≠ 8) (h8' : b.kind ≠ 8) : decide (a.show = b.show) = sameB a b := by
  have f : Fol [] := ⟨fun c r e => (by cases e), fun r e => (by cases e)⟩
  cases h : sameB a b with
  | true => simp [show_same a b h]
  | false =>
    simp only [decide_eq_false_iff_not]
    intro e
    have := (show_cut a b dep dep' ha hb h8 h8' [] [] f f (by simpa using e)).1
    rw [h] at this; cases this
end Go.Wk

/- Two lists held against each other: plain. No condition. -/
namespace Go.Wk
open Go
def atS (l l' : List Ob) (i : Nat) : Bool := match l[i]?, l'[i]? with
  | some a, some b => sameB a b
  | _, _ => true
def atT (l l' : List (List UInt8 × Ob)) (i : Nat) : Bool := match l[i]?, l'[i]? with
  | some a, some b => a.1 == b.1 && sameB a.2 b.2
  | _, _ => true
theorem sameL_len : ∀ (l l' : List Ob), l.length ≠ l'.length → sameL l l' = false
  | [], [], h => absurd rfl h
  | [], _ :: _, _ => rfl
  | _ :: _, [], _ => rfl
  | o :: r, o' :: r', h => by simp only [sameL, sameL_len r r' (fun e => h (by simp [e])), Bool.and_false]
theorem sameD_len : ∀ (l l' : List (List UInt8 × Ob)), l.length ≠ l'.length → sameD l l' = false
  | [], [], h => absurd rfl h
  | [], _ :: _, _ => rfl
  | _ :: _, [], _ => rfl
  | o :: r, o' :: r', h => by simp only [sameD, sameD_len r r' (fun e => h (by simp [e])), Bool.and_false]
theorem all_succ (n : Nat) (f : Nat → Bool) : (List.range (n + 1)).all f = (f 0 && (List.range n).all fun i => f (i + 1)) := by
  rw [List.range_succ_eq_map, List.all_cons, List.all_map]; rfl
theorem sameL_all : ∀ (l l' : List Ob), l.length = l'.length → sameL l l' = (List.range l.length).all (atS l l')
  | [], [], _ => rfl
  | [], _ :: _, h => by simp at h
  | _ :: _, [], h => by simp at h
  | o :: r, o' :: r', h => by
    rw [List.length_cons, all_succ]
    simp only [sameL]
    rw [sameL_all r r' (by simpa using h)]
    rfl
theorem sameD_all : ∀ (l l' : List (List UInt8 × Ob)), l.length = l'.length → sameD l l' = (List.range l.length).all (atT l l')
  | [], [], _ => rfl
  | [], _ :: _, h => by simp at h
  | _ :: _, [], h => by simp at h
  | o :: r, o' :: r', h => by
    rw [List.length_cons, all_succ]
    simp only [sameD]
    rw [sameD_all r r' (by simpa using h)]
    rfl
end Go.Wk
namespace Go.Proofs.YthacnnmlephkhaaDoor
open Go Go.RowKit Go.Wk
/-- two objects, each in a block of its own -/
theorem ten_cells {w W1 W2 : World} {v0 v1 v2 v3 v4 u0 u1 u2 u3 u4 : Value} (h1 : W1 = w.alloc (.cells #[v0, v1, v2, v3, v4] 26)) (h2 : W2 = W1.alloc (.cells #[u0, u1, u2, u3, u4] 26)) :
    (W2.cell? ⟨w.heap.size, 0, none⟩ = some v0 ∧ W2.cell? ⟨w.heap.size, 1, none⟩ = some v1 ∧ W2.cell? ⟨w.heap.size, 2, none⟩ = some v2 ∧ W2.cell? ⟨w.heap.size, 3, none⟩ = some v3 ∧ W2.cell? ⟨w.heap.size, 4, none⟩ = some v4) ∧
    (W2.cell? ⟨w.heap.size + 1, 0, none⟩ = some u0 ∧ W2.cell? ⟨w.heap.size + 1, 1, none⟩ = some u1 ∧ W2.cell? ⟨w.heap.size + 1, 2, none⟩ = some u2 ∧ W2.cell? ⟨w.heap.size + 1, 3, none⟩ = some u3 ∧ W2.cell? ⟨w.heap.size + 1, 4, none⟩ = some u4) := by
  have f := five_kept (five_cells h1) (W' := W2) (by rw [h2]; exact (Below.refl _ _).alloc (Nat.le_refl _) _)
  have g := five_cells h2
  rw [show W1.heap.size = w.heap.size + 1 by rw [h1, World.size_alloc]] at g
  exact ⟨f, g⟩
def SameC (N : Nat) : Prop := ∀ (a b : Ob) (vs us : List Value) (w : World), ObAt w a vs → ObAt w b us → a.bulk ≤ N → b.bulk ≤ 1048576 → Calls Tryd.prog 8 #[.agg vs.toArray, .agg us.toArray] w fun e w' => e = .returned (.bool (sameB a b)) ∧ Below w.heap.size w w'
set_option maxHeartbeats 8000000 in
set_option maxRecDepth 100000 in
theorem same_arr (N : Nat) (hN : N ≤ 1048576) (hs : SameC N) (n n' : Int) (b b' : List UInt8) (l l' : List Ob) (d d' : List (List UInt8 × Ob)) (vs us : List Value) (w : World) (h : ObAt w (.mk 6 n b l d) vs) (h' : ObAt w (.mk 6 n' b' l' d') us) (hbk : bulkL l ≤ N) (hbk' : bulkL l' ≤ 1048576) :
    Calls Tryd.prog 8 #[.agg vs.toArray, .agg us.toArray] w fun e w' => e = .returned (.bool (sameL l l')) ∧ Below w.heap.size w w' := by
  have zl := bulkL_len l
  have zl' := bulkL_len l'
  cases h with
  | mk k n b l d A AL AD c cL cD gL oL gD oD vl vd h1 h2 h3 h4 h5 h6 h7 h8 h9 h10 h11 hA hl hlv h15 h16 h17 h18 =>
  cases h' with
  | mk k' n' b' l' d' A' AL' AD' c' cL' cD' gL' oL' gD' oD' vl' vd' i1 i2 i3 i4 i5 i6 i7 i8 i9 i10 i11 hA' hl' hlv' i15 i16 i17 i18 =>
  obtain ⟨m, hm⟩ : ∃ m, m = l.length := ⟨_, rfl⟩
  obtain ⟨m', hm'⟩ : ∃ m, m = l'.length := ⟨_, rfl⟩
  rw [← hm] at zl ⊢
  rw [← hm'] at zl' ⊢
  have zm : m ≤ 1048576 := by omega
  have zm' : m' ≤ 1048576 := by omega
  obtain ⟨W1, hW1⟩ : ∃ W, W = w.alloc (.cells #[.int .i64 6, .int .i64 n, .slice A b.length c, .slice AL m cL, .slice AD d.length cD] 26) := ⟨_, rfl⟩
  obtain ⟨W2, hW2⟩ : ∃ W, W = W1.alloc (.cells #[.int .i64 6, .int .i64 n', .slice A' b'.length c', .slice AL' m' cL', .slice AD' d'.length cD'] 26) := ⟨_, rfl⟩
  have hb2 : Below w.heap.size w W2 := by rw [hW2, hW1]; exact ((Below.refl _ _).alloc (Nat.le_refl _) _).alloc (by rw [World.size_alloc]; omega) _
  have ff := ten_cells hW1 hW2
  obtain ⟨⟨f0, f1, f2, f3, f4⟩, g0, g1, g2, g3, g4⟩ := id ff
  obtain ⟨E, hE⟩ : ∃ E, E = sameL l l' := ⟨_, rfl⟩
  rw [← hE]
  have hne : m ≠ m' → E = false := fun h => by rw [hE]; exact sameL_len l l' (by omega)
  have hall : m = m' → E = (List.range m).all (atS l l') := fun h => by rw [hE, hm]; exact sameL_all l l' (by omega)
  clear h1 h2 h3 h4 h5 h6 h7 h8 h9 h10 h11 h15 h16 h17 h18 i1 i2 i3 i4 i5 i6 i7 i8 i9 i10 i11 i15 i16 i17 i18
  replace hE := Lib.hid hE
  replace hm := Lib.hid hm
  replace hm' := Lib.hid hm'
  replace hA := Lib.hid hA
  replace hl := Lib.hid hl
  replace hlv := Lib.hid hlv
  replace hA' := Lib.hid hA'
  replace hl' := Lib.hid hl'
  replace hlv' := Lib.hid hlv'
  replace hs := Lib.hid hs
  replace hb2 := Lib.hid hb2
  replace ff := Lib.hid ff
  replace hne := Lib.hid hne
  replace hall := Lib.hid hall
  go_enter Tryd.func8, Tryd.ntmps8
  go_upto_region 1 with (fail)
  rw [← hW1, ← hW2]
  replace hW1 := Lib.hid hW1
  replace hW2 := Lib.hid hW2
  by_cases hmm : m = m'
  · subst hmm
    have hal2 := hall.out rfl
    replace hal2 := Lib.hid hal2
    clear hne hall
    go_wp2
    go_loopw [5] (fun s5 wr => ∃ k : Nat, k ≤ m ∧ s5 = .int .i64 k ∧ (∀ j, j < k → atS l l' j = true) ∧ Below W2.heap.size W2 wr) (fun s5 _ => m - (RowKit.intOf s5).toNat)
    case atStart => exact ⟨0, by omega, rfl, fun j hj => by omega, Below.refl _ _⟩
    case round =>
      obtain ⟨k, hk, rfl, hP, hB⟩ := hrel
      have lB := hB.size
      obtain ⟨p0, p1, p2, p3, p4⟩ := five_kept ff.out.1 hB
      obtain ⟨q0, q1, q2, q3, q4⟩ := five_kept ff.out.2 hB
      by_cases hkm : k < m
      · have hkl : k < l.length := by rw [← hm.out]; exact hkm
        have hkl' : k < l'.length := by rw [← hm'.out]; exact hkm
        have hAe := hA.out (by omega)
        have hAe' := hA'.out (by omega)
        subst hAe hAe'
        have hbw : Below w.heap.size w wr := bthen hb2.out hB
        obtain ⟨o, ho⟩ : ∃ o, o = l[k] := ⟨_, rfl⟩
        obtain ⟨o', ho'⟩ : ∃ o, o = l'[k] := ⟨_, rfl⟩
        have hob := (hl.out k hkl).kept hbw
        have hob' := (hl'.out k hkl').kept hbw
        have hcv := hlv.out k hkl
        have hcv' := hlv'.out k hkl'
        rw [← ho] at hob
        rw [← ho'] at hob'
        have hzo : o.bulk ≤ N := by have := bulkL_at l k hkl; rw [← ho] at this; omega
        have hzo' : o'.bulk ≤ 1048576 := by have := bulkL_at l' k hkl'; rw [← ho'] at this; omega
        obtain ⟨us, hus⟩ : ∃ us, us = vl k := ⟨_, rfl⟩
        obtain ⟨us', hus'⟩ : ∃ us, us = vl' k := ⟨_, rfl⟩
        rw [← hus] at hob hcv
        rw [← hus'] at hob' hcv'
        obtain ⟨en, E1, E2, E3, en1, ec1, en2, ec2, en3, ec3, hys⟩ := ob_five2 hob
        obtain ⟨en', E1', E2', E3', en1', ec1', en2', ec2', en3', ec3', hys'⟩ := ob_five2 hob'
        obtain ⟨kk, hkk⟩ : ∃ k, k = o.kind := ⟨_, rfl⟩
        obtain ⟨kk', hkk'⟩ : ∃ k, k = o'.kind := ⟨_, rfl⟩
        rw [← hkk] at hys
        rw [← hkk'] at hys'
        subst hys hys'
        have five : ∀ j u, [Value.int .i64 kk, .int .i64 en, .slice E1 en1 ec1, .slice E2 en2 ec2, .slice E3 en3 ec3][j]? = some u → wr.cell? ⟨gL, oL + k * 5 + j, none⟩ = some u := fun j u hj => by
          have h0 := hcv j (by have := (List.getElem?_eq_some_iff.1 hj).1; simpa using this)
          rw [hj] at h0
          have h1 := (hbw.cell (cell_lt h0)).trans h0
          rw [show oL + (5 * k + j) = oL + k * 5 + j by omega] at h1
          exact h1
        have five' : ∀ j u, [Value.int .i64 kk', .int .i64 en', .slice E1' en1' ec1', .slice E2' en2' ec2', .slice E3' en3' ec3'][j]? = some u → wr.cell? ⟨gL', oL' + k * 5 + j, none⟩ = some u := fun j u hj => by
          have h0 := hcv' j (by have := (List.getElem?_eq_some_iff.1 hj).1; simpa using this)
          rw [hj] at h0
          have h1 := (hbw.cell (cell_lt h0)).trans h0
          rw [show oL' + (5 * k + j) = oL' + k * 5 + j by omega] at h1
          exact h1
        have x0 : wr.cell? ⟨gL, oL + k * 5, none⟩ = some (.int .i64 kk) := five 0 _ rfl
        have x1 : wr.cell? ⟨gL, oL + k * 5 + 1, none⟩ = some (.int .i64 en) := five 1 _ rfl
        have x2 : wr.cell? ⟨gL, oL + k * 5 + 2, none⟩ = some (.slice E1 en1 ec1) := five 2 _ rfl
        have x3 : wr.cell? ⟨gL, oL + k * 5 + 3, none⟩ = some (.slice E2 en2 ec2) := five 3 _ rfl
        have x4 : wr.cell? ⟨gL, oL + k * 5 + 4, none⟩ = some (.slice E3 en3 ec3) := five 4 _ rfl
        have y0 : wr.cell? ⟨gL', oL' + k * 5, none⟩ = some (.int .i64 kk') := five' 0 _ rfl
        have y1 : wr.cell? ⟨gL', oL' + k * 5 + 1, none⟩ = some (.int .i64 en') := five' 1 _ rfl
        have y2 : wr.cell? ⟨gL', oL' + k * 5 + 2, none⟩ = some (.slice E1' en1' ec1') := five' 2 _ rfl
        have y3 : wr.cell? ⟨gL', oL' + k * 5 + 3, none⟩ = some (.slice E2' en2' ec2') := five' 3 _ rfl
        have y4 : wr.cell? ⟨gL', oL' + k * 5 + 4, none⟩ = some (.slice E3' en3' ec3') := five' 4 _ rfl
        have hat : atS l l' k = sameB o o' := by unfold atS; rw [List.getElem?_eq_getElem hkl, List.getElem?_eq_getElem hkl', ho, ho']
        have c8 := hs.out o o' _ _ wr.drew (hob.kept ((Below.refl _ _).drew)) (hob'.kept ((Below.refl _ _).drew)) hzo hzo'
        clear five five' hcv hcv' hob hob' hus hus' hkk hkk'
        obtain ⟨sb, hsb⟩ : ∃ sb, sb = sameB o o' := ⟨_, rfl⟩
        rw [← hsb] at hat c8
        replace ho := Lib.hid ho
        replace ho' := Lib.hid ho'
        replace hsb := Lib.hid hsb
        replace hB := Lib.hid hB
        replace hbw := Lib.hid hbw
        replace hP := Lib.hid hP
        replace hat := Lib.hid hat
        cases sb with
        | true =>
          have hP2 : ∀ j, j < k + 1 → atS l l' j = true := fun j hj => by
            by_cases h : j = k
            · rw [h]; exact hat.out
            · exact hP.out j (by omega)
          replace hP2 := Lib.hid hP2
          go_upto_region 18 with (fail)
          go_region_with (go_at_call 8; (with_reducible refine c8.mono ?_); rintro e w2 ⟨rfl, hB2⟩; have hB2 : Below wr.heap.size wr w2 := ((Below.refl _ _).drew : Below wr.heap.size wr wr.drew).trans hB2; replace hB2 := Lib.hid hB2)
          all_goals
            go_wp2
            go_roundw
            case rel => exact ⟨k + 1, by omega, by go_num, hP2.out, hB.out.trans (hB2.out.mono lB)⟩
            case measure => simp [RowKit.intOf]; omega
        | false =>
          have hF : E = false := by
            rw [hal2.out, List.all_eq_false]; refine ⟨k, List.mem_range.2 hkm, ?_⟩; rw [hat.out]; decide
          subst hF
          go_upto_region 18 with (fail)
          go_region_with (go_at_call 8; (with_reducible refine c8.mono ?_); rintro e w2 ⟨rfl, hB2⟩; have hB2 : Below wr.heap.size wr w2 := ((Below.refl _ _).drew : Below wr.heap.size wr wr.drew).trans hB2; replace hB2 := Lib.hid hB2)
          all_goals
            go_wp2
            go_ret
            exact ⟨rfl, bthen hbw.out hB2.out⟩
      · obtain rfl : k = m := by omega
        have hT : E = true := by
          rw [hal2.out, List.all_eq_true]; intro j hj; exact hP j (List.mem_range.1 hj)
        subst hT
        have hbw : Below w.heap.size w wr := bthen hb2.out hB
        replace hbw := Lib.hid hbw
        replace hB := Lib.hid hB
        replace hP := Lib.hid hP
        go_wp2
        go_ret
        exact ⟨rfl, hbw.out⟩
  · have hF := hne.out hmm
    subst hF
    have qm : ((m : Int) == (m' : Int)) = false := by rw [beq_eq_false_iff_ne]; omega
    clear hall
    replace hmm := Lib.hid hmm
    go_wp2
    go_ret
    exact ⟨rfl, hb2.out⟩
end Go.Proofs.YthacnnmlephkhaaDoor

/- Entries held against each other, by the document. No condition. -/
namespace Go.Proofs.YthacnnmlephkhaaDoor
open Go Go.RowKit Go.Wk
/-- what the operations of a round yield -/
def GT (p q gD oD gD' oD' m cD cD' k : Nat) (K K' : ByteArray) (ag ag' : Array Value) (kn sb : Bool) : Nat → Value → World → Prop := fun j v w => match j with
  | 0 => v = .pointer (some ⟨p, 4, none⟩)
  | 1 => v = .slice (some ⟨gD, oD, none⟩) m cD
  | 2 | 8 => v = .int .i64 (k : Int)
  | 3 | 4 => v = .pointer (some ⟨gD, oD + k * 6, none⟩)
  | 5 => v = .string K
  | 6 => v = .pointer (some ⟨q, 4, none⟩)
  | 7 => v = .slice (some ⟨gD', oD', none⟩) m cD'
  | 9 | 10 => v = .pointer (some ⟨gD', oD' + k * 6, none⟩)
  | 11 => v = .string K'
  | 12 | 13 => v = .bool kn
  | 14 => kn = false → v = .pointer (some ⟨p, 4, none⟩)
  | 15 => kn = false → v = .slice (some ⟨gD, oD, none⟩) m cD
  | 16 | 22 => kn = false → v = .int .i64 (k : Int)
  | 17 => kn = false → v = .pointer (some ⟨gD, oD + k * 6, none⟩)
  | 18 => kn = false → v = .pointer (some ⟨gD, oD + k * 6 + 1, none⟩)
  | 19 => kn = false → v = .agg ag
  | 20 => kn = false → v = .pointer (some ⟨q, 4, none⟩)
  | 21 => kn = false → v = .slice (some ⟨gD', oD', none⟩) m cD'
  | 23 => kn = false → v = .pointer (some ⟨gD', oD' + k * 6, none⟩)
  | 24 => kn = false → v = .pointer (some ⟨gD', oD' + k * 6 + 1, none⟩)
  | 25 => kn = false → v = .agg ag'
  | 26 => kn = false → v = .bool sb
  | _ => kn = false → v = .bool (!sb)
theorem GT_mono {p q gD oD gD' oD' m cD cD' k : Nat} {K K' : ByteArray} {ag ag' : Array Value} {kn sb : Bool} (j : Nat) (v : Value) (w w' : World) (hG : GT p q gD oD gD' oD' m cD cD' k K K' ag ag' kn sb j v w) (hk : Below w.heap.size w w') : GT p q gD oD gD' oD' m cD cD' k K K' ag ag' kn sb j v w' := by
  unfold GT at hG ⊢
  split at hG <;> exact hG
theorem bytes_toList (a : List UInt8) : (bytes a).toList = a := by
  rw [ByteArray.toList_eq]; rfl
theorem bytes_eq2 (a b : List UInt8) : (a == b) = !(!((bytes a).toList == (bytes b).toList)) := by
  rw [Bool.not_not, bytes_toList, bytes_toList]
set_option maxHeartbeats 8000000 in
set_option maxRecDepth 100000 in
theorem same_dict7 (N : Nat) (hN : N ≤ 1048576) (hs : SameC N) (n n' : Int) (b b' : List UInt8) (l l' : List Ob) (d d' : List (List UInt8 × Ob)) (vs us : List Value) (w : World) (h : ObAt w (.mk 7 n b l d) vs) (h' : ObAt w (.mk 7 n' b' l' d') us) (hbk : b.length + bulkD d ≤ N) (hbk' : b'.length + bulkD d' ≤ 1048576) :
    Calls Tryd.prog 8 #[.agg vs.toArray, .agg us.toArray] w fun e w' => e = .returned (.bool (sameD d d')) ∧ Below w.heap.size w w' := by
  have zl := bulkD_len d
  have zl' := bulkD_len d'
  have zb1 : b.length ≤ 1048576 := by omega
  have zb1' : b'.length ≤ 1048576 := by omega
  cases h with
  | mk k n b l d A AL AD c cL cD gL oL gD oD vl vd h1 h2 h3 h4 hB5 h6 h7 h8 h9 h10 h11 h12 h13 h14 hA hl hkey hlv =>
  cases h' with
  | mk k' n' b' l' d' A' AL' AD' c' cL' cD' gL' oL' gD' oD' vl' vd' i1 i2 i3 i4 iB5 i6 i7 i8 i9 i10 i11 i12 i13 i14 hA' hl' hkey' hlv' =>
  obtain ⟨m, hm⟩ : ∃ m, m = d.length := ⟨_, rfl⟩
  obtain ⟨m', hm'⟩ : ∃ m, m = d'.length := ⟨_, rfl⟩
  rw [← hm] at zl ⊢
  rw [← hm'] at zl' ⊢
  have zm : m ≤ 1048576 := by omega
  have zm' : m' ≤ 1048576 := by omega
  obtain ⟨W1, hW1⟩ : ∃ W, W = w.alloc (.cells #[.int .i64 7, .int .i64 n, .slice A b.length c, .slice AL l.length cL, .slice AD m cD] 26) := ⟨_, rfl⟩
  obtain ⟨W2, hW2⟩ : ∃ W, W = W1.alloc (.cells #[.int .i64 7, .int .i64 n', .slice A' b'.length c', .slice AL' l'.length cL', .slice AD' m' cD'] 26) := ⟨_, rfl⟩
  have hb2 : Below w.heap.size w W2 := by rw [hW2, hW1]; exact ((Below.refl _ _).alloc (Nat.le_refl _) _).alloc (by rw [World.size_alloc]; omega) _
  have ff := ten_cells hW1 hW2
  obtain ⟨⟨f0, f1, f2, f3, f4⟩, g0, g1, g2, g3, g4⟩ := id ff
  obtain ⟨E, hE⟩ : ∃ E, E = sameD d d' := ⟨_, rfl⟩
  rw [← hE]
  have hne : m ≠ m' → E = false := fun h => by rw [hE]; exact sameD_len d d' (by omega)
  have hall : m = m' → E = (List.range m).all (atT d d') := fun h => by rw [hE, hm]; exact sameD_all d d' (by omega)
  have c7 := ref_Same A A' c c' b b' W2 (hB5.below hb2) (iB5.below hb2) (by omega) (by omega)
  have hbe : (b == b') = decide (b = b') := by by_cases h : b = b' <;> simp [h]
  clear hbe c7
  clear h1 h2 h3 h4 hB5 h6 h7 h8 h9 h10 h11 h12 h13 h14 i1 i2 i3 i4 iB5 i6 i7 i8 i9 i10 i11 i12 i13 i14
  replace hE := Lib.hid hE
  replace hm := Lib.hid hm
  replace hm' := Lib.hid hm'
  replace hA := Lib.hid hA
  replace hl := Lib.hid hl
  replace hlv := Lib.hid hlv
  replace hkey := Lib.hid hkey
  replace hA' := Lib.hid hA'
  replace hl' := Lib.hid hl'
  replace hlv' := Lib.hid hlv'
  replace hkey' := Lib.hid hkey'
  replace hs := Lib.hid hs
  replace hb2 := Lib.hid hb2
  replace ff := Lib.hid ff
  replace hne := Lib.hid hne
  replace hall := Lib.hid hall
  go_enter Tryd.func8, Tryd.ntmps8
  go_upto_region 1 with (fail)
  rw [← hW1, ← hW2]
  replace hW1 := Lib.hid hW1
  replace hW2 := Lib.hid hW2
  by_cases hmm : m = m'
  · subst hmm
    have hal2 := hall.out rfl
    replace hal2 := Lib.hid hal2
    clear hne hall
    go_wp2
    go_loopw [6] (fun s6 wr => ∃ k : Nat, k ≤ m ∧ s6 = .int .i64 k ∧ (∀ j, j < k → atT d d' j = true) ∧ Below W2.heap.size W2 wr) (fun s6 _ => m - (RowKit.intOf s6).toNat)
    case atStart => exact ⟨0, by omega, rfl, fun j hj => by omega, Below.refl _ _⟩
    case round =>
      obtain ⟨k, hk, rfl, hP, hB⟩ := hrel
      have lB := hB.size
      obtain ⟨p0, p1, p2, p3, p4⟩ := five_kept ff.out.1 hB
      obtain ⟨q0, q1, q2, q3, q4⟩ := five_kept ff.out.2 hB
      by_cases hkm : k < m
      · have hkl : k < d.length := by rw [← hm.out]; exact hkm
        have hkl' : k < d'.length := by rw [← hm'.out]; exact hkm
        have hAe := hA.out (by omega)
        have hAe' := hA'.out (by omega)
        subst hAe hAe'
        have hbw : Below w.heap.size w wr := bthen hb2.out hB
        obtain ⟨o, ho⟩ : ∃ o, o = d[k] := ⟨_, rfl⟩
        obtain ⟨o', ho'⟩ : ∃ o, o = d'[k] := ⟨_, rfl⟩
        have hob := (hl.out k hkl).kept hbw
        have hob' := (hl'.out k hkl').kept hbw
        have hcv := hlv.out k hkl
        have hcv' := hlv'.out k hkl'
        have hky := (hkey.out k hkl).2
        have hky' := (hkey'.out k hkl').2
        rw [← ho] at hob hky
        rw [← ho'] at hob' hky'
        have hzo : o.2.bulk ≤ N := by have := bulkD_at d k hkl; rw [← ho] at this; omega
        have hzo' : o'.2.bulk ≤ 1048576 := by have := bulkD_at d' k hkl'; rw [← ho'] at this; omega
        obtain ⟨us, hus⟩ : ∃ us, us = vd k := ⟨_, rfl⟩
        obtain ⟨us', hus'⟩ : ∃ us, us = vd' k := ⟨_, rfl⟩
        rw [← hus] at hob hcv
        rw [← hus'] at hob' hcv'
        obtain ⟨en, E1, E2, E3, en1, ec1, en2, ec2, en3, ec3, hys⟩ := ob_five2 hob
        obtain ⟨en', E1', E2', E3', en1', ec1', en2', ec2', en3', ec3', hys'⟩ := ob_five2 hob'
        obtain ⟨kk, hkk⟩ : ∃ k, k = o.2.kind := ⟨_, rfl⟩
        obtain ⟨kk', hkk'⟩ : ∃ k, k = o'.2.kind := ⟨_, rfl⟩
        rw [← hkk] at hys
        rw [← hkk'] at hys'
        subst hys hys'
        obtain ⟨K, hK⟩ : ∃ K, K = bytes o.1 := ⟨_, rfl⟩
        obtain ⟨K', hK'⟩ : ∃ K, K = bytes o'.1 := ⟨_, rfl⟩
        have kp : ∀ W, Below wr.heap.size wr W → W.cell? ⟨gD, oD + k * 6, none⟩ = some (.string K) ∧ W.cell? ⟨gD', oD' + k * 6, none⟩ = some (.string K') := fun W hW => by
          have h1 := (bthen hbw hW).cell (cell_lt hky) |>.trans hky
          have h2 := (bthen hbw hW).cell (cell_lt hky') |>.trans hky'
          rw [Nat.mul_comm] at h1 h2
          rw [h1, h2, hK, hK']; exact ⟨rfl, rfl⟩
        have five : ∀ W, Below wr.heap.size wr W → ∀ j u, [Value.int .i64 kk, .int .i64 en, .slice E1 en1 ec1, .slice E2 en2 ec2, .slice E3 en3 ec3][j]? = some u → W.cell? ⟨gD, oD + k * 6 + 1 + j, none⟩ = some u := fun W hW j u hj => by
          have h0 := hcv j (by have := (List.getElem?_eq_some_iff.1 hj).1; simpa using this)
          rw [hj] at h0
          have h1 := ((bthen hbw hW).cell (cell_lt h0)).trans h0
          rw [show oD + (6 * k + 1 + j) = oD + k * 6 + 1 + j by omega] at h1
          exact h1
        have five' : ∀ W, Below wr.heap.size wr W → ∀ j u, [Value.int .i64 kk', .int .i64 en', .slice E1' en1' ec1', .slice E2' en2' ec2', .slice E3' en3' ec3'][j]? = some u → W.cell? ⟨gD', oD' + k * 6 + 1 + j, none⟩ = some u := fun W hW j u hj => by
          have h0 := hcv' j (by have := (List.getElem?_eq_some_iff.1 hj).1; simpa using this)
          rw [hj] at h0
          have h1 := ((bthen hbw hW).cell (cell_lt h0)).trans h0
          rw [show oD' + (6 * k + 1 + j) = oD' + k * 6 + 1 + j by omega] at h1
          exact h1
        have zz : ∀ W, Below wr.heap.size wr W → (W.cell? ⟨w.heap.size, 0, none⟩ = some (.int .i64 7) ∧ W.cell? ⟨w.heap.size, 1, none⟩ = some (.int .i64 n) ∧ W.cell? ⟨w.heap.size, 2, none⟩ = some (.slice A b.length c) ∧ W.cell? ⟨w.heap.size, 3, none⟩ = some (.slice AL l.length cL) ∧ W.cell? ⟨w.heap.size, 4, none⟩ = some (.slice (some ⟨gD, oD, none⟩) m cD)) ∧
            (W.cell? ⟨w.heap.size + 1, 0, none⟩ = some (.int .i64 7) ∧ W.cell? ⟨w.heap.size + 1, 1, none⟩ = some (.int .i64 n') ∧ W.cell? ⟨w.heap.size + 1, 2, none⟩ = some (.slice A' b'.length c') ∧ W.cell? ⟨w.heap.size + 1, 3, none⟩ = some (.slice AL' l'.length cL') ∧ W.cell? ⟨w.heap.size + 1, 4, none⟩ = some (.slice (some ⟨gD', oD', none⟩) m cD')) ∧
            (W.cell? ⟨gD, oD + k * 6, none⟩ = some (.string K) ∧ W.cell? ⟨gD, oD + k * 6 + 1, none⟩ = some (.int .i64 kk) ∧ W.cell? ⟨gD, oD + k * 6 + 2, none⟩ = some (.int .i64 en) ∧ W.cell? ⟨gD, oD + k * 6 + 3, none⟩ = some (.slice E1 en1 ec1) ∧ W.cell? ⟨gD, oD + k * 6 + 4, none⟩ = some (.slice E2 en2 ec2) ∧ W.cell? ⟨gD, oD + k * 6 + 5, none⟩ = some (.slice E3 en3 ec3)) ∧
            (W.cell? ⟨gD', oD' + k * 6, none⟩ = some (.string K') ∧ W.cell? ⟨gD', oD' + k * 6 + 1, none⟩ = some (.int .i64 kk') ∧ W.cell? ⟨gD', oD' + k * 6 + 2, none⟩ = some (.int .i64 en') ∧ W.cell? ⟨gD', oD' + k * 6 + 3, none⟩ = some (.slice E1' en1' ec1') ∧ W.cell? ⟨gD', oD' + k * 6 + 4, none⟩ = some (.slice E2' en2' ec2') ∧ W.cell? ⟨gD', oD' + k * 6 + 5, none⟩ = some (.slice E3' en3' ec3')) := fun W hW =>
          ⟨five_kept ff.out.1 (bthen hB hW), five_kept ff.out.2 (bthen hB hW), ⟨(kp W hW).1, five W hW 0 _ rfl, five W hW 1 _ rfl, five W hW 2 _ rfl, five W hW 3 _ rfl, five W hW 4 _ rfl⟩, (kp W hW).2, five' W hW 0 _ rfl, five' W hW 1 _ rfl, five' W hW 2 _ rfl, five' W hW 3 _ rfl, five' W hW 4 _ rfl⟩
        have hat : atT d d' k = (o.1 == o'.1 && sameB o.2 o'.2) := by unfold atT; rw [List.getElem?_eq_getElem hkl, List.getElem?_eq_getElem hkl', ho, ho']
        have c8 := fun W (hW : Below wr.heap.size wr W) => hs.out o.2 o'.2 _ _ W (hob.kept hW) (hob'.kept hW) hzo hzo'
        obtain ⟨kn, hkn⟩ : ∃ kn, (!(K.toList == K'.toList)) = kn := ⟨_, rfl⟩
        have hkn3 : (o.1 == o'.1) = !kn := by rw [← hkn, hK, hK']; exact bytes_eq2 _ _
        obtain ⟨sb, hsb⟩ : ∃ sb, sb = sameB o.2 o'.2 := ⟨_, rfl⟩
        rw [← hsb, hkn3] at hat
        rw [← hsb] at c8
        clear five five' hcv hcv' hob hob' hus hus' hkk hkk' kp hky hky' hkn3 hzo hzo'
        replace ho := Lib.hid ho
        replace ho' := Lib.hid ho'
        replace hK := Lib.hid hK
        replace hK' := Lib.hid hK'
        replace hsb := Lib.hid hsb
        replace hB := Lib.hid hB
        replace hbw := Lib.hid hbw
        replace hP := Lib.hid hP
        replace hat := Lib.hid hat
        replace zz := Lib.hid zz
        replace c8 := Lib.hid c8
        go_upto_region 27 with (fail)
        refine wp_lin_tail (by kernel_rfl) [none, none, none, none, none, none, none, none, none, none, none, none, none, none, none, none, none, none, none, none, none, none, none, none, none, none, none, none, none, none, none, none, none, none, none, none, none, none, none, none, none, none, none, none, none, none, none, none, none, none, none, none, none, none, none, none, none, none, none, none, none, none, none, none, none, none, none, none, none, none, none, none, none, none, none, none, none, none, none, none, none, none, none, none, none, none, none, none, none, none, some 0, some 1, some 2, some 3, some 4, some 5, some 6, some 7, some 8, some 9, some 10, some 11, some 12, some 13, some 14, some 15, some 16, some 17, some 18, some 19, some 20, some 21, some 22, some 23, some 24, some 25, some 26, some 27, none] (fun w' => Below wr.heap.size wr w') (fun w' w'' => Below w'.heap.size w' w'') (GT w.heap.size (w.heap.size + 1) gD oD gD' oD' m cD cD' k K K' #[.int .i64 kk, .int .i64 en, .slice E1 en1 ec1, .slice E2 en2 ec2, .slice E3 en3 ec3] #[.int .i64 kk', .int .i64 en', .slice E1' en1' ec1', .slice E2' en2' ec2', .slice E3' en3' ec3'] kn sb) (by rfl) (by kernel_rfl) 28 _ rfl (by decide) (by kernel_rfl) [1, 3, 3, 4, 5, 12, 7, 9, 9, 10, 11, 12, 13, 28, 15, 17, 17, 18, 19, 26, 21, 23, 23, 24, 25, 26, 27, 28, 0] (by kernel_rfl) ?hR ?mono (.cons 27 (step_of [26, 13] rfl (by kernel_rfl) ?s27) (.cons 26 (step_of [19, 25, 13] rfl (by kernel_rfl) ?s26) (.cons 25 (step_of [24, 13] rfl (by kernel_rfl) ?s25) (.cons 24 (step_of [23, 13] rfl (by kernel_rfl) ?s24) (.cons 23 (step_of [21, 22, 13] rfl (by kernel_rfl) ?s23) (.cons 22 (step_of [13] rfl (by kernel_rfl) ?s22) (.cons 21 (step_of [20, 13] rfl (by kernel_rfl) ?s21) (.cons 20 (step_of [13] rfl (by kernel_rfl) ?s20) (.cons 19 (step_of [18, 13] rfl (by kernel_rfl) ?s19) (.cons 18 (step_of [17, 13] rfl (by kernel_rfl) ?s18) (.cons 17 (step_of [15, 16, 13] rfl (by kernel_rfl) ?s17) (.cons 16 (step_of [13] rfl (by kernel_rfl) ?s16) (.cons 15 (step_of [14, 13] rfl (by kernel_rfl) ?s15) (.cons 14 (step_of [13] rfl (by kernel_rfl) ?s14) (.cons 13 (step_of [12] rfl (by kernel_rfl) ?s13) (.cons 12 (step_of [5, 11] rfl (by kernel_rfl) ?s12) (.cons 11 (step_of [10] rfl (by kernel_rfl) ?s11) (.cons 10 (step_of [9] rfl (by kernel_rfl) ?s10) (.cons 9 (step_of [7, 8] rfl (by kernel_rfl) ?s9) (.cons 8 (step_of [] rfl (by kernel_rfl) ?s8) (.cons 7 (step_of [6] rfl (by kernel_rfl) ?s7) (.cons 6 (step_of [] rfl (by kernel_rfl) ?s6) (.cons 5 (step_of [4] rfl (by kernel_rfl) ?s5) (.cons 4 (step_of [3] rfl (by kernel_rfl) ?s4) (.cons 3 (step_of [1, 2] rfl (by kernel_rfl) ?s3) (.cons 2 (step_of [] rfl (by kernel_rfl) ?s2) (.cons 1 (step_of [0] rfl (by kernel_rfl) ?s1) (.cons 0 (step_of [] rfl (by kernel_rfl) ?s0) (.nil))))))))))))))))))))))))))))) ?done
        case hR => exact (Below.refl _ _).drew
        case mono => exact GT_mono
        case done =>
          intro x w4 hR2 hG fr hfr
          have e13 := hG 13 (by omega)
          have e27 := hG 27 (by omega)
          simp only [GT] at e13 e27
          clear hG
          simp only [fillL] at hfr
          rw [e13] at hfr
          replace hR2 := Lib.hid hR2
          cases kn with
          | true =>
            have hF : E = false := by
              rw [hal2.out, List.all_eq_false]; refine ⟨k, List.mem_range.2 hkm, ?_⟩; rw [hat.out]; simp
            subst hfr
            clear e27
            go_wp2
            go_ret
            exact ⟨by first | rfl | (rw [hF]; rfl), bthen hbw.out hR2.out⟩
          | false =>
            rw [e27 rfl] at hfr
            subst hfr
            clear e27
            cases sb with
            | true =>
              have hP2 : ∀ j, j < k + 1 → atT d d' j = true := fun j hj => by
                by_cases h : j = k
                · rw [h]; exact hat.out
                · exact hP.out j (by omega)
              replace hP2 := Lib.hid hP2
              go_wp2
              go_roundw
              case rel => exact ⟨k + 1, by omega, by go_num, hP2.out, hB.out.trans (hR2.out.mono lB)⟩
              case measure => simp [RowKit.intOf]; omega
            | false =>
              have hF : E = false := by
                rw [hal2.out, List.all_eq_false]; refine ⟨k, List.mem_range.2 hkm, ?_⟩; rw [hat.out]; simp
              go_wp2
              go_ret
              exact ⟨by first | rfl | (rw [hF]; rfl), bthen hbw.out hR2.out⟩
        case s0 =>
          intro x w' hRw hd K9 hK
          simp only [All, GT] at hd
          obtain ⟨_⟩ := hd
          simp (config := {decide := true}) only [upd, GT, fillL, if_true, if_false] at hK ⊢
          go_simp
          have hK2 := hK _ _ ⟨hRw, Below.refl _ _, rfl⟩
          exact hK2
        case s1 =>
          intro x w' hRw hd K9 hK
          simp only [All, GT] at hd
          obtain ⟨e0, _⟩ := hd
          simp (config := {decide := true}) only [upd, GT, fillL, if_true, if_false] at hK ⊢
          obtain ⟨⟨z0, z1, z2, z3, z4⟩, ⟨t0, t1, t2, t3, t4⟩, ⟨x0, x1, x2, x3, x4, x5⟩, y0, y1, y2, y3, y4, y5⟩ := zz.out w' hRw
          simp only [e0] at hK ⊢
          go_simp
          have hK2 := hK _ _ ⟨hRw, Below.refl _ _, rfl⟩
          exact hK2
        case s2 =>
          intro x w' hRw hd K9 hK
          simp only [All, GT] at hd
          obtain ⟨_⟩ := hd
          simp (config := {decide := true}) only [upd, GT, fillL, if_true, if_false] at hK ⊢
          go_simp
          have hK2 := hK _ _ ⟨hRw, Below.refl _ _, rfl⟩
          exact hK2
        case s3 =>
          intro x w' hRw hd K9 hK
          simp only [All, GT] at hd
          obtain ⟨e1, e2, _⟩ := hd
          simp (config := {decide := true}) only [upd, GT, fillL, if_true, if_false] at hK ⊢
          simp only [e1, e2] at hK ⊢
          go_simp
          have hK2 := hK _ _ ⟨hRw, Below.refl _ _, rfl⟩
          exact hK2
        case s4 =>
          intro x w' hRw hd K9 hK
          simp only [All, GT] at hd
          obtain ⟨e3, _⟩ := hd
          simp (config := {decide := true}) only [upd, GT, fillL, if_true, if_false] at hK ⊢
          simp only [e3] at hK ⊢
          go_simp
          have hK2 := hK _ _ ⟨hRw, Below.refl _ _, rfl⟩
          exact hK2
        case s5 =>
          intro x w' hRw hd K9 hK
          simp only [All, GT] at hd
          obtain ⟨e4, _⟩ := hd
          simp (config := {decide := true}) only [upd, GT, fillL, if_true, if_false] at hK ⊢
          obtain ⟨⟨z0, z1, z2, z3, z4⟩, ⟨t0, t1, t2, t3, t4⟩, ⟨x0, x1, x2, x3, x4, x5⟩, y0, y1, y2, y3, y4, y5⟩ := zz.out w' hRw
          simp only [e4] at hK ⊢
          go_simp
          have hK2 := hK _ _ ⟨hRw, Below.refl _ _, rfl⟩
          exact hK2
        case s6 =>
          intro x w' hRw hd K9 hK
          simp only [All, GT] at hd
          obtain ⟨_⟩ := hd
          simp (config := {decide := true}) only [upd, GT, fillL, if_true, if_false] at hK ⊢
          go_simp
          have hK2 := hK _ _ ⟨hRw, Below.refl _ _, rfl⟩
          exact hK2
        case s7 =>
          intro x w' hRw hd K9 hK
          simp only [All, GT] at hd
          obtain ⟨e6, _⟩ := hd
          simp (config := {decide := true}) only [upd, GT, fillL, if_true, if_false] at hK ⊢
          obtain ⟨⟨z0, z1, z2, z3, z4⟩, ⟨t0, t1, t2, t3, t4⟩, ⟨x0, x1, x2, x3, x4, x5⟩, y0, y1, y2, y3, y4, y5⟩ := zz.out w' hRw
          simp only [e6] at hK ⊢
          go_simp
          have hK2 := hK _ _ ⟨hRw, Below.refl _ _, rfl⟩
          exact hK2
        case s8 =>
          intro x w' hRw hd K9 hK
          simp only [All, GT] at hd
          obtain ⟨_⟩ := hd
          simp (config := {decide := true}) only [upd, GT, fillL, if_true, if_false] at hK ⊢
          go_simp
          have hK2 := hK _ _ ⟨hRw, Below.refl _ _, rfl⟩
          exact hK2
        case s9 =>
          intro x w' hRw hd K9 hK
          simp only [All, GT] at hd
          obtain ⟨e7, e8, _⟩ := hd
          simp (config := {decide := true}) only [upd, GT, fillL, if_true, if_false] at hK ⊢
          simp only [e7, e8] at hK ⊢
          go_simp
          have hK2 := hK _ _ ⟨hRw, Below.refl _ _, rfl⟩
          exact hK2
        case s10 =>
          intro x w' hRw hd K9 hK
          simp only [All, GT] at hd
          obtain ⟨e9, _⟩ := hd
          simp (config := {decide := true}) only [upd, GT, fillL, if_true, if_false] at hK ⊢
          simp only [e9] at hK ⊢
          go_simp
          have hK2 := hK _ _ ⟨hRw, Below.refl _ _, rfl⟩
          exact hK2
        case s11 =>
          intro x w' hRw hd K9 hK
          simp only [All, GT] at hd
          obtain ⟨e10, _⟩ := hd
          simp (config := {decide := true}) only [upd, GT, fillL, if_true, if_false] at hK ⊢
          obtain ⟨⟨z0, z1, z2, z3, z4⟩, ⟨t0, t1, t2, t3, t4⟩, ⟨x0, x1, x2, x3, x4, x5⟩, y0, y1, y2, y3, y4, y5⟩ := zz.out w' hRw
          simp only [e10] at hK ⊢
          go_simp
          have hK2 := hK _ _ ⟨hRw, Below.refl _ _, rfl⟩
          exact hK2
        case s12 =>
          intro x w' hRw hd K9 hK
          simp only [All, GT] at hd
          obtain ⟨e5, e11, _⟩ := hd
          simp (config := {decide := true}) only [upd, GT, fillL, if_true, if_false] at hK ⊢
          simp only [e5, e11] at hK ⊢
          go_simp
          try simp only [hkn]
          have hK2 := hK _ _ ⟨hRw, Below.refl _ _, rfl⟩
          exact hK2
        case s13 =>
          intro x w' hRw hd K9 hK
          simp only [All, GT] at hd
          obtain ⟨e12, _⟩ := hd
          simp (config := {decide := true}) only [upd, GT, fillL, if_true, if_false] at hK ⊢
          simp only [e12] at hK ⊢
          go_simp
          have hK2 := hK _ _ ⟨hRw, Below.refl _ _, rfl⟩
          exact hK2
        case s14 =>
          intro x w' hRw hd K9 hK
          simp only [All, GT] at hd
          obtain ⟨e13, _⟩ := hd
          simp (config := {decide := true}) only [upd, GT, fillL, if_true, if_false] at hK ⊢
          simp only [e13] at hK ⊢
          cases kn with
          | true =>
            go_simp
            have hK2 := hK undef _ ⟨hRw, Below.refl _ _, fun h => by cases h⟩
            exact hK2
          | false =>
            go_simp
            have hK2 := hK _ _ ⟨hRw, Below.refl _ _, fun _ => rfl⟩
            exact hK2
        case s15 =>
          intro x w' hRw hd K9 hK
          simp only [All, GT] at hd
          obtain ⟨e14, e13, _⟩ := hd
          simp (config := {decide := true}) only [upd, GT, fillL, if_true, if_false] at hK ⊢
          obtain ⟨⟨z0, z1, z2, z3, z4⟩, ⟨t0, t1, t2, t3, t4⟩, ⟨x0, x1, x2, x3, x4, x5⟩, y0, y1, y2, y3, y4, y5⟩ := zz.out w' hRw
          simp only [e13] at hK ⊢
          cases kn with
          | true =>
            go_simp
            have hK2 := hK undef _ ⟨hRw, Below.refl _ _, fun h => by cases h⟩
            exact hK2
          | false =>
            simp only [e14 rfl] at hK ⊢
            go_simp
            have hK2 := hK _ _ ⟨hRw, Below.refl _ _, fun _ => rfl⟩
            exact hK2
        case s16 =>
          intro x w' hRw hd K9 hK
          simp only [All, GT] at hd
          obtain ⟨e13, _⟩ := hd
          simp (config := {decide := true}) only [upd, GT, fillL, if_true, if_false] at hK ⊢
          simp only [e13] at hK ⊢
          cases kn with
          | true =>
            go_simp
            have hK2 := hK undef _ ⟨hRw, Below.refl _ _, fun h => by cases h⟩
            exact hK2
          | false =>
            go_simp
            have hK2 := hK _ _ ⟨hRw, Below.refl _ _, fun _ => rfl⟩
            exact hK2
        case s17 =>
          intro x w' hRw hd K9 hK
          simp only [All, GT] at hd
          obtain ⟨e15, e16, e13, _⟩ := hd
          simp (config := {decide := true}) only [upd, GT, fillL, if_true, if_false] at hK ⊢
          simp only [e13] at hK ⊢
          cases kn with
          | true =>
            go_simp
            have hK2 := hK undef _ ⟨hRw, Below.refl _ _, fun h => by cases h⟩
            exact hK2
          | false =>
            simp only [e15 rfl, e16 rfl] at hK ⊢
            go_simp
            have hK2 := hK _ _ ⟨hRw, Below.refl _ _, fun _ => rfl⟩
            exact hK2
        case s18 =>
          intro x w' hRw hd K9 hK
          simp only [All, GT] at hd
          obtain ⟨e17, e13, _⟩ := hd
          simp (config := {decide := true}) only [upd, GT, fillL, if_true, if_false] at hK ⊢
          simp only [e13] at hK ⊢
          cases kn with
          | true =>
            go_simp
            have hK2 := hK undef _ ⟨hRw, Below.refl _ _, fun h => by cases h⟩
            exact hK2
          | false =>
            simp only [e17 rfl] at hK ⊢
            go_simp
            have hK2 := hK _ _ ⟨hRw, Below.refl _ _, fun _ => rfl⟩
            exact hK2
        case s19 =>
          intro x w' hRw hd K9 hK
          simp only [All, GT] at hd
          obtain ⟨e18, e13, _⟩ := hd
          simp (config := {decide := true}) only [upd, GT, fillL, if_true, if_false] at hK ⊢
          obtain ⟨⟨z0, z1, z2, z3, z4⟩, ⟨t0, t1, t2, t3, t4⟩, ⟨x0, x1, x2, x3, x4, x5⟩, y0, y1, y2, y3, y4, y5⟩ := zz.out w' hRw
          simp only [e13] at hK ⊢
          cases kn with
          | true =>
            go_simp
            have hK2 := hK undef _ ⟨hRw, Below.refl _ _, fun h => by cases h⟩
            exact hK2
          | false =>
            simp only [e18 rfl] at hK ⊢
            go_simp
            have hK2 := hK _ _ ⟨hRw, Below.refl _ _, fun _ => rfl⟩
            exact hK2
        case s20 =>
          intro x w' hRw hd K9 hK
          simp only [All, GT] at hd
          obtain ⟨e13, _⟩ := hd
          simp (config := {decide := true}) only [upd, GT, fillL, if_true, if_false] at hK ⊢
          simp only [e13] at hK ⊢
          cases kn with
          | true =>
            go_simp
            have hK2 := hK undef _ ⟨hRw, Below.refl _ _, fun h => by cases h⟩
            exact hK2
          | false =>
            go_simp
            have hK2 := hK _ _ ⟨hRw, Below.refl _ _, fun _ => rfl⟩
            exact hK2
        case s21 =>
          intro x w' hRw hd K9 hK
          simp only [All, GT] at hd
          obtain ⟨e20, e13, _⟩ := hd
          simp (config := {decide := true}) only [upd, GT, fillL, if_true, if_false] at hK ⊢
          obtain ⟨⟨z0, z1, z2, z3, z4⟩, ⟨t0, t1, t2, t3, t4⟩, ⟨x0, x1, x2, x3, x4, x5⟩, y0, y1, y2, y3, y4, y5⟩ := zz.out w' hRw
          simp only [e13] at hK ⊢
          cases kn with
          | true =>
            go_simp
            have hK2 := hK undef _ ⟨hRw, Below.refl _ _, fun h => by cases h⟩
            exact hK2
          | false =>
            simp only [e20 rfl] at hK ⊢
            go_simp
            have hK2 := hK _ _ ⟨hRw, Below.refl _ _, fun _ => rfl⟩
            exact hK2
        case s22 =>
          intro x w' hRw hd K9 hK
          simp only [All, GT] at hd
          obtain ⟨e13, _⟩ := hd
          simp (config := {decide := true}) only [upd, GT, fillL, if_true, if_false] at hK ⊢
          simp only [e13] at hK ⊢
          cases kn with
          | true =>
            go_simp
            have hK2 := hK undef _ ⟨hRw, Below.refl _ _, fun h => by cases h⟩
            exact hK2
          | false =>
            go_simp
            have hK2 := hK _ _ ⟨hRw, Below.refl _ _, fun _ => rfl⟩
            exact hK2
        case s23 =>
          intro x w' hRw hd K9 hK
          simp only [All, GT] at hd
          obtain ⟨e21, e22, e13, _⟩ := hd
          simp (config := {decide := true}) only [upd, GT, fillL, if_true, if_false] at hK ⊢
          simp only [e13] at hK ⊢
          cases kn with
          | true =>
            go_simp
            have hK2 := hK undef _ ⟨hRw, Below.refl _ _, fun h => by cases h⟩
            exact hK2
          | false =>
            simp only [e21 rfl, e22 rfl] at hK ⊢
            go_simp
            have hK2 := hK _ _ ⟨hRw, Below.refl _ _, fun _ => rfl⟩
            exact hK2
        case s24 =>
          intro x w' hRw hd K9 hK
          simp only [All, GT] at hd
          obtain ⟨e23, e13, _⟩ := hd
          simp (config := {decide := true}) only [upd, GT, fillL, if_true, if_false] at hK ⊢
          simp only [e13] at hK ⊢
          cases kn with
          | true =>
            go_simp
            have hK2 := hK undef _ ⟨hRw, Below.refl _ _, fun h => by cases h⟩
            exact hK2
          | false =>
            simp only [e23 rfl] at hK ⊢
            go_simp
            have hK2 := hK _ _ ⟨hRw, Below.refl _ _, fun _ => rfl⟩
            exact hK2
        case s25 =>
          intro x w' hRw hd K9 hK
          simp only [All, GT] at hd
          obtain ⟨e24, e13, _⟩ := hd
          simp (config := {decide := true}) only [upd, GT, fillL, if_true, if_false] at hK ⊢
          obtain ⟨⟨z0, z1, z2, z3, z4⟩, ⟨t0, t1, t2, t3, t4⟩, ⟨x0, x1, x2, x3, x4, x5⟩, y0, y1, y2, y3, y4, y5⟩ := zz.out w' hRw
          simp only [e13] at hK ⊢
          cases kn with
          | true =>
            go_simp
            have hK2 := hK undef _ ⟨hRw, Below.refl _ _, fun h => by cases h⟩
            exact hK2
          | false =>
            simp only [e24 rfl] at hK ⊢
            go_simp
            have hK2 := hK _ _ ⟨hRw, Below.refl _ _, fun _ => rfl⟩
            exact hK2
        case s26 =>
          intro x w' hRw hd K9 hK
          simp only [All, GT] at hd
          obtain ⟨e19, e25, e13, _⟩ := hd
          simp (config := {decide := true}) only [upd, GT, fillL, if_true, if_false] at hK ⊢
          simp only [e13] at hK ⊢
          cases kn with
          | true =>
            go_simp
            have hK2 := hK undef _ ⟨hRw, Below.refl _ _, fun h => by cases h⟩
            exact hK2
          | false =>
            simp only [e19 rfl, e25 rfl] at hK ⊢
            go_simp
            refine (c8.out w' hRw).mono ?_
            rintro e' w9 ⟨rfl, hB9⟩
            have hK2 := hK _ _ ⟨bthen hRw hB9, hB9, fun _ => rfl⟩
            exact hK2
        case s27 =>
          intro x w' hRw hd K9 hK
          simp only [All, GT] at hd
          obtain ⟨e26, e13, _⟩ := hd
          simp (config := {decide := true}) only [upd, GT, fillL, if_true, if_false] at hK ⊢
          simp only [e13] at hK ⊢
          cases kn with
          | true =>
            go_simp
            have hK2 := hK undef _ ⟨hRw, Below.refl _ _, fun h => by cases h⟩
            exact hK2
          | false =>
            simp only [e26 rfl] at hK ⊢
            go_simp
            have hK2 := hK _ _ ⟨hRw, Below.refl _ _, fun _ => rfl⟩
            exact hK2
      · obtain rfl : k = m := by omega
        have hT : E = true := by
          rw [hal2.out, List.all_eq_true]; intro j hj; exact hP j (List.mem_range.1 hj)
        subst hT
        have hbw : Below w.heap.size w wr := bthen hb2.out hB
        replace hbw := Lib.hid hbw
        replace hB := Lib.hid hB
        replace hP := Lib.hid hP
        go_wp2
        go_ret
        exact ⟨rfl, hbw.out⟩
  · have hF := hne.out hmm
    subst hF
    have qm : ((m : Int) == (m' : Int)) = false := by rw [beq_eq_false_iff_ne]; omega
    have qm2 : ((m : Int) != (m' : Int)) = true := by rw [bne, qm]; rfl
    clear hall
    replace hmm := Lib.hid hmm
    go_wp2
    go_ret
    exact ⟨rfl, hb2.out⟩
end Go.Proofs.YthacnnmlephkhaaDoor

/- Walks and laws, joined: part B. No condition. -/
import Derived.Test.YthacnnmlephkhaaGreatDoorPrJA
import Derived.Lib.ReflectliteSlice
import Derived.Below
import Derived.Laws.OwnMore
import Derived.Deep.Draws
import Derived.Laws.Rows
set_option linter.unusedSimpArgs false
set_option linter.unusedVariables false
/- Texts. No condition. -/
namespace Go.Proofs.YthacnnmlephkhaaGreatDoor
open Go Go.RowKit Go.Wk
set_option maxRecDepth 100000 in
theorem conv_any (w : World) (A : Option Addr) (c : Nat) (bs : List UInt8) (h : Byt w A bs) : (convert 22 9 (.slice A bs.length c)).run Tryz.prog w = .ok (.string (bytes bs)) w := by
 cases bs with
 | nil =>
  show (convert 22 9 (.slice A 0 c)).run Tryz.prog w = _
  rw [run_convert_bytes_string w 22 9 5 A 0 c Tryz.underlying22 Tryz.underlying5 Tryz.underlying9]
  cases A <;> rfl
 | cons x l =>
  obtain ⟨b, o, rfl, _⟩ := h.2 (by simp)
  exact conv_back w b o c (x :: l) h
theorem plain_take {l : List UInt8} {k : Nat} (h : k < l.length) (ha : (l.take k).all plainB = true) (hx : plainB l[k] = true) : (l.take (k + 1)).all plainB = true := by
 rw [List.take_succ_eq_append_getElem h, List.all_append, ha, List.all_cons, hx]; rfl
theorem plain_not {l : List UInt8} {k : Nat} (h : k < l.length) (hx : plainB l[k] = false) : l.all plainB = false := by
 rw [List.all_eq_false]; exact ⟨l[k], List.getElem_mem h, by simp [hx]⟩
set_option maxHeartbeats 4000000 in
set_option maxRecDepth 100000 in
theorem prt_Text (A : Option Addr) (c : Nat) (bs : List UInt8) (w : World) (hb : Byt w A bs) (hl : bs.length ≤ 100000000) :
 Calls Tryz.prog 14 #[.slice A bs.length c] w (RO w (textT bs)) := by
 have hdig := fun W (hW : Below w.heap.size w W) => prt_digits A c bs W (hb.below hW) hl
 have hcv := fun W (hW : Below w.heap.size w W) => conv_any W A c bs (hb.below hW)
 obtain ⟨m, hm⟩ : ∃ m, m = bs.length := ⟨_, rfl⟩
 rw [← hm] at hl hdig hcv ⊢
 obtain ⟨X, hX⟩ : ∃ X, X = bytes (hexS bs) := ⟨_, rfl⟩
 have zX : X.size ≤ 200000000 := by rw [hX, bytes_size, hexS_len]; omega
 obtain ⟨Y, hY⟩ : ∃ X, X = bytes bs := ⟨_, rfl⟩
 have zY : Y.size ≤ 200000000 := by rw [hY, bytes_size]; omega
 rw [← hX] at hdig
 rw [← hY] at hcv
 have cr := fun W => row3 W ⟨#[60]⟩ X ⟨#[62]⟩ (by have : (⟨#[60]⟩ : ByteArray).size = 1 := rfl; have : (⟨#[62]⟩ : ByteArray).size = 1 := rfl; omega)
 have cs := fun W => row3 W ⟨#[40]⟩ Y ⟨#[41]⟩ (by have : (⟨#[40]⟩ : ByteArray).size = 1 := rfl; have : (⟨#[41]⟩ : ByteArray).size = 1 := rfl; omega)
 replace hm := hi_ hm
 replace hb := hi_ hb
 replace hX := hi_ hX
 replace hY := hi_ hY
 replace hdig := hi_ hdig
 replace hcv := hi_ hcv
 go_enter Tryz.func14, Tryz.ntmps14
 go_wp2
 go_loopw [4, 7] (fun _ s7 wr => ∃ k : Nat, k ≤ m ∧ s7 = .int .i64 k ∧ (bs.take k).all plainB = true ∧ wr = w) (fun _ s7 _ => m - (RowKit.intOf s7).toNat)
 case atStart => exact ⟨0, by omega, rfl, rfl, rfl⟩
 case round =>
  obtain ⟨k, hk, rfl, hP, rfl⟩ := hrel
  by_cases hkm : k < m
  ·have hkl : k < bs.length := by rw [← hm.out]; exact hkm
   obtain ⟨b, o, rfl, hcell⟩ := hb.out.2 (by omega)
   obtain ⟨x, hx⟩ : ∃ x, x = bs[k] := ⟨_, rfl⟩
   have hcx := hcell k hkl
   rw [← hx] at hcx
   have cp := prt_plain x wr
   cases hp : plainB x with
   | true =>
    have hP2 := plain_take hkl hP (by rw [← hx]; exact hp)
    rw [hp] at cp
    obtain ⟨xi, hxi⟩ : ∃ n : Int, n = (x.toNat : Int) := ⟨_, rfl⟩
    rw [← hxi] at hcx cp
    replace hP2 := hi_ hP2
    clear hcell hx hxi hP hp
    go_wp2_with (go_at_call 38; (with_reducible refine cp.mono ?_); rintro e w1 ⟨rfl, rfl⟩)
    go_roundw
    case rel => exact ⟨k + 1, by omega, by go_num, hP2.out, (by first | rfl | trivial)⟩
    case measure => simp [RowKit.intOf]; omega
   | false =>
    have hT : textT bs = [60] ++ (X.data.toList ++ [62]) := by
     unfold textT
     rw [plain_not hkl (by rw [← hx]; exact hp), if_neg (by decide), hX.out]; rfl
    rw [hp] at cp
    obtain ⟨xi, hxi⟩ : ∃ n : Int, n = (x.toNat : Int) := ⟨_, rfl⟩
    rw [← hxi] at hcx cp
    have cd := hdig.out wr (Below.refl _ _)
    replace hT := hi_ hT
    clear hcell hx hxi hP hp
    go_wp2_with (first
     | (go_at_call 38; (with_reducible refine cp.mono ?_); rintro e w1 ⟨rfl, rfl⟩)
     | (go_at_call 35; (with_reducible refine cd.mono ?_); rintro e w1 ⟨rfl, hB1⟩; have k2 := cr w1; replace hB1 := hi_ hB1)
     | (go_at_call 34; (with_reducible refine k2.mono ?_); rintro e w2 ⟨v, rfl, hO2, hB2⟩; replace hB2 := hi_ hB2; replace hO2 := hi_ hO2))
    go_ret
    refine ⟨_, rfl, ?_, bthen hB1.out (bthen ((Below.refl _ _).alloc (Nat.le_refl _) _) hB2.out)⟩
    rw [hT.out]
    exact hO2.out.base (by rw [World.size_alloc]; have := hB1.out.size; omega)
  ·obtain rfl : k = m := by omega
   have hT : textT bs = [40] ++ (Y.data.toList ++ [41]) := by
    rw [hm.out, List.take_length] at hP
    unfold textT
    rw [hP, if_pos rfl, hY.out]; rfl
   have cv := hcv.out wr (Below.refl _ _)
   replace hT := hi_ hT
   replace hP := hi_ hP
   have k2 := cs wr
   go_wp2_with (go_at_call 34; (with_reducible refine k2.mono ?_); rintro e w2 ⟨v, rfl, hO2, hB2⟩; replace hB2 := hi_ hB2; replace hO2 := hi_ hO2)
   go_ret
   refine ⟨_, rfl, ?_, bthen ((Below.refl _ _).alloc (Nat.le_refl _) _) hB2.out⟩
   rw [hT.out]
   exact hO2.out.base (by rw [World.size_alloc]; omega)

/- Texts by the document; bytes held against bytes. No condition. -/

/- Bytes held against bytes; what kind has what. No condition. -/
theorem take_same {l m : List UInt8} {k : Nat} (h1 : k < l.length) (h2 : k < m.length) (h : l.take k = m.take k) (e : l[k] = m[k]) : l.take (k + 1) = m.take (k + 1) := by
 rw [List.take_succ_eq_append_getElem h1, List.take_succ_eq_append_getElem h2, h, e]
set_option maxHeartbeats 4000000 in
set_option maxRecDepth 100000 in
theorem ref_Same (A A' : Option Addr) (c c' : Nat) (xs ys : List UInt8) (w : World) (hb : Byt w A xs) (hb' : Byt w A' ys) (hl : xs.length ≤ 1000000000) (hl' : ys.length ≤ 1000000000) :
 Calls Tryz.prog 11 #[.slice A xs.length c, .slice A' ys.length c'] w fun e w' => e = .returned (.bool (decide (xs = ys))) ∧ Below w.heap.size w w' := by
 obtain ⟨m, hm⟩ : ∃ m, m = xs.length := ⟨_, rfl⟩
 obtain ⟨n, hn⟩ : ∃ m, m = ys.length := ⟨_, rfl⟩
 rw [← hm] at hl ⊢
 rw [← hn] at hl' ⊢
 by_cases hmn : m = n
 ·subst hmn
  replace hm := hi_ hm
  replace hn := hi_ hn
  replace hb := hi_ hb
  replace hb' := hi_ hb'
  go_enter Tryz.func11, Tryz.ntmps11
  go_wp2
  go_loopw [5] (fun s5 wr => ∃ k : Nat, k ≤ m ∧ s5 = .int .i64 k ∧ xs.take k = ys.take k ∧ Below w.heap.size w wr) (fun s5 _ => m - (RowKit.intOf s5).toNat)
  case atStart => exact ⟨0, by omega, rfl, rfl, Below.refl _ _⟩
  case round =>
   obtain ⟨k, hk, rfl, hP, hB⟩ := hrel
   by_cases hkm : k < m
   ·have hkl : k < xs.length := by rw [← hm.out]; exact hkm
    have hkl' : k < ys.length := by rw [← hn.out]; exact hkm
    obtain ⟨b, o, rfl, hcell⟩ := hb.out.2 (by omega)
    obtain ⟨b', o', rfl, hcell'⟩ := hb'.out.2 (by omega)
    obtain ⟨x, hx⟩ : ∃ x, x = xs[k] := ⟨_, rfl⟩
    obtain ⟨y, hy⟩ : ∃ x, x = ys[k] := ⟨_, rfl⟩
    have hcx : wr.cell? ⟨b, o + k, none⟩ = some (.int .u8 (x.toNat : Int)) := by rw [hx]; exact (hB.cell (cell_lt (hcell k hkl))).trans (hcell k hkl)
    have hcy : wr.cell? ⟨b', o' + k, none⟩ = some (.int .u8 (y.toNat : Int)) := by rw [hy]; exact (hB.cell (cell_lt (hcell' k hkl'))).trans (hcell' k hkl')
    by_cases hxy : x = y
    ·have hT := take_same hkl hkl' hP (by rw [← hx, ← hy, hxy])
     subst hxy
     replace hT := hi_ hT
     replace hB := hi_ hB
     replace hP := hi_ hP
     clear hcell hcell' hx hy
     go_wp2
     go_region
     all_goals
      go_wp2
      go_roundw
      case rel => exact ⟨k + 1, by omega, by go_num, hT.out, hB.out.drew⟩
      case measure => simp [RowKit.intOf]; omega
    ·have hT : decide (xs = ys) = false := by
      simp only [decide_eq_false_iff_not]
      rintro rfl
      exact hxy (by rw [hx, hy])
     have hne : ((x.toNat : Int) != (y.toNat : Int)) = true := by
      rw [bne_iff_ne]
      intro e
      exact hxy (UInt8.toNat_inj.1 (by omega))
     obtain ⟨xi, hxi⟩ : ∃ n : Int, n = (x.toNat : Int) := ⟨_, rfl⟩
     obtain ⟨yi, hyi⟩ : ∃ n : Int, n = (y.toNat : Int) := ⟨_, rfl⟩
     rw [← hxi] at hcx hne
     rw [← hyi] at hcy hne
     replace hT := hi_ hT
     replace hB := hi_ hB
     replace hP := hi_ hP
     clear hcell hcell' hx hy hxy hxi hyi
     go_wp2
     go_region
     all_goals
      go_wp2
      go_ret
      exact ⟨by rw [hT.out]; rfl, hB.out.drew⟩
   ·obtain rfl : k = m := by omega
    have hT : decide (xs = ys) = true := by
     have e1 := hm.out
     have e2 := hn.out
     rw [e1, List.take_length] at hP
     rw [← e1, e2, List.take_length] at hP
     exact decide_eq_true hP
    replace hT := hi_ hT
    replace hB := hi_ hB
    replace hP := hi_ hP
    go_wp2
    go_ret
    exact ⟨by rw [hT.out]; rfl, hB.out⟩
 ·have hT : decide (xs = ys) = false := by
   simp only [decide_eq_false_iff_not]
   rintro rfl
   exact hmn (by rw [hm, hn])
  rw [hT]
  have hne : ((m : Int) != (n : Int)) = true := by rw [bne_iff_ne]; omega
  clear hb hb' hm hn hT hmn
  go_enter Tryz.func11, Tryz.ntmps11
  go_wp2
  go_ret
  exact ⟨rfl, Below.refl _ _⟩
def hasI (k : Int) : Bool := k == 7 || k == 8
set_option maxHeartbeats 4000000 in
theorem cos_entries (k : Int) (v1 v2 v3 v4 : Value) (w : World) : Calls Tryz.prog 65 #[.agg #[.int .i64 k, v1, v2, v3, v4]] w fun e w' => e = .returned (.bool (hasI k)) ∧ Below w.heap.size w w' := by
 go_enter Tryz.func65, Tryz.ntmps65
 go_wp2
 all_goals go_ret
 all_goals refine ⟨?_, (Below.refl _ _).alloc (Nat.le_refl _) _⟩
 all_goals simp_all [hasI]
set_option maxHeartbeats 4000000 in
theorem ref_Has (k : Int) (v1 v2 v3 v4 : Value) (w : World) : Calls Tryz.prog 50 #[.agg #[.int .i64 k, v1, v2, v3, v4]] w fun e w' => e = .returned (.bool (hasI k)) ∧ Below w.heap.size w w' := by
 go_enter Tryz.func50, Tryz.ntmps50
 go_wp2
 all_goals go_ret
 all_goals refine ⟨?_, (Below.refl _ _).alloc (Nat.le_refl _) _⟩
 all_goals simp_all [hasI]
set_option maxHeartbeats 4000000 in
theorem cos_within (n a b : Int) (w : World) : Calls Tryz.prog 86 #[.int .i64 n, .int .i64 a, .int .i64 b] w fun e w' => e = .returned (.bool (decide (a ≤ n ∧ n ≤ b))) ∧ w = w' := by
 go_enter Tryz.func86, Tryz.ntmps86
 go_wp2
 all_goals go_ret
 all_goals refine ⟨?_, rfl⟩
 all_goals first | (simp_all; done) | (simp_all; omega)

/- Which fields a kind uses; names. No condition. -/
set_option maxHeartbeats 8000000 in
theorem cos_spare (k n : Int) (A AL AD : Option Addr) (c cL cD : Nat) (b : List UInt8) (l : List Ob) (d : List (List UInt8 × Ob)) (w : World) :
 Calls Tryz.prog 85 #[.agg #[.int .i64 k, .int .i64 n, .slice A b.length c, .slice AL l.length cL, .slice AD d.length cD]] w fun e w' => e = .returned (.bool (spareB k n b l d)) ∧ Below w.heap.size w w' := by
 have ce := fun (w : World) => cos_entries k (.int .i64 n) (.slice A b.length c) (.slice AL l.length cL) (.slice AD d.length cD) w
 unfold spareB
 obtain ⟨z1, h1⟩ : ∃ z, (b.length == 0) = z := ⟨_, rfl⟩
 obtain ⟨z2, h2⟩ : ∃ z, (l.length == 0) = z := ⟨_, rfl⟩
 obtain ⟨z3, h3⟩ : ∃ z, (d.length == 0) = z := ⟨_, rfl⟩
 obtain ⟨m1, hm1⟩ : ∃ m, m = b.length := ⟨_, rfl⟩
 obtain ⟨m2, hm2⟩ : ∃ m, m = l.length := ⟨_, rfl⟩
 obtain ⟨m3, hm3⟩ : ∃ m, m = d.length := ⟨_, rfl⟩
 rw [h1, h2, h3]
 rw [← hm1] at h1 ce ⊢
 rw [← hm2] at h2 ce ⊢
 rw [← hm3] at h3 ce ⊢
 have i1 : ((m1 : Int) == 0) = z1 := by rw [← h1, Bool.eq_iff_iff]; simp
 have i2 : ((m2 : Int) == 0) = z2 := by rw [← h2, Bool.eq_iff_iff]; simp
 have i3 : ((m3 : Int) == 0) = z3 := by rw [← h3, Bool.eq_iff_iff]; simp
 clear h1 h2 h3 hm1 hm2 hm3
 obtain ⟨zn, hn⟩ : ∃ z, (n == 0) = z := ⟨_, rfl⟩
 rw [hn]
 obtain ⟨nm, hnm⟩ : ∃ z, (k == 1 || k == 2 || k == 3 || k == 9) = z := ⟨_, rfl⟩
 obtain ⟨tx, htx⟩ : ∃ z, (k == 4 || k == 5 || k == 8) = z := ⟨_, rfl⟩
 obtain ⟨ar, har⟩ : ∃ z, (k == 6) = z := ⟨_, rfl⟩
 obtain ⟨en, hen⟩ : ∃ z, hasI k = z := ⟨_, rfl⟩
 have e7 : (k == 7 || k == 8 || z3) = (en || z3) := by rw [← hen]; rfl
 rw [show (k == 1 || k == 2 || k == 3 || k == 9 || zn) = (nm || zn) by rw [← hnm], show (k == 4 || k == 5 || k == 8 || z1) = (tx || z1) by rw [← htx], har, e7]
 rw [hen] at ce
 clear e7
 replace hen := hi_ hen
 replace hnm := hi_ hnm
 replace htx := hi_ htx
 replace har := hi_ har
 go_enter Tryz.func85, Tryz.ntmps85
 go_upto_region 1 with (fail)
 go_cut [3] (fun s3 wx => s3 = .bool nm ∧ wx = w.alloc (.cells #[.int .i64 k, .int .i64 n, .slice A m1 c, .slice AL m2 cL, .slice AD m3 cD] 26))
 case first =>
  obtain ⟨b1, q1⟩ : ∃ z, (k == 1) = z := ⟨_, rfl⟩
  obtain ⟨b2, q2⟩ : ∃ z, (k == 2) = z := ⟨_, rfl⟩
  obtain ⟨b3, q3⟩ : ∃ z, (k == 3) = z := ⟨_, rfl⟩
  obtain ⟨b9, q9⟩ : ∃ z, (k == 9) = z := ⟨_, rfl⟩
  have hn2 := hnm.out
  rw [q1, q2, q3, q9] at hn2
  clear ce
  replace hn2 := hi_ hn2
  cases b1 <;> cases b2 <;> cases b3 <;> cases b9
  all_goals
   go_wp2
   go_meet
   exact ⟨by rw [← hn2.out]; rfl, rfl⟩
 case rest =>
  obtain ⟨rfl, rfl⟩ := hcut
  go_upto_region 2 with (fail)
  go_cut [4] (fun s4 wx => s4 = .bool tx ∧ wx = w.alloc (.cells #[.int .i64 k, .int .i64 n, .slice A m1 c, .slice AL m2 cL, .slice AD m3 cD] 26))
  case first =>
   obtain ⟨b4, q4⟩ : ∃ z, (k == 4) = z := ⟨_, rfl⟩
   obtain ⟨b5, q5⟩ : ∃ z, (k == 5) = z := ⟨_, rfl⟩
   obtain ⟨b8, q8⟩ : ∃ z, (k == 8) = z := ⟨_, rfl⟩
   have hn2 := htx.out
   rw [q4, q5, q8] at hn2
   clear ce
   replace hn2 := hi_ hn2
   cases b4 <;> cases b5 <;> cases b8
   all_goals
    go_wp2
    go_meet
    exact ⟨by rw [← hn2.out]; rfl, rfl⟩
  case rest =>
   obtain ⟨rfl, rfl⟩ := hcut
   have har2 := har.out
   have hB0 : Below w.heap.size w (w.alloc (.cells #[.int .i64 k, .int .i64 n, .slice A m1 c, .slice AL m2 cL, .slice AD m3 cD] 26)) := (Below.refl _ _).alloc (Nat.le_refl _) _
   replace hB0 := hi_ hB0
   have hq4 : (w.alloc (.cells #[.int .i64 k, .int .i64 n, .slice A m1 c, .slice AL m2 cL, .slice AD m3 cD] 26)).cell? ⟨w.heap.size, 4, none⟩ = some (.slice AD m3 cD) := by
    have h := alloc_cell (w := w) (vs := #[.int .i64 k, .int .i64 n, .slice A m1 c, .slice AL m2 cL, .slice AD m3 cD]) (e := 26) (i := 4)
    rw [Nat.zero_add] at h
    exact h
   replace hq4 := hi_ hq4
   cases nm <;> cases tx <;> cases ar
   all_goals
    go_wp2_with (go_at_call 65; (with_reducible refine (ce _).mono ?_); rintro e w1 ⟨rfl, hB1⟩; have q4 := (hB1.cell (p := ⟨w.heap.size, 4, none⟩) (cell_lt hq4.out)).trans hq4.out; replace hB1 := hi_ hB1)
    all_goals go_ret
    all_goals refine ⟨?_, ?_⟩
    all_goals first | exact hB0.out | exact bthen hB0.out hB1.out | (simp_all; done)

/- May bytes be a name? No condition. -/
theorem has_byte (l : List UInt8) (c : UInt8) : decide (0 ≤ Lib.indexByte l c) = l.contains c := by
 induction l with
 | nil => rfl
 | cons x l ih =>
  unfold Lib.indexByte
  have hge := Lib.indexByte_ge l c
  by_cases h : x = c
  ·subst h; simp
  ·have h1 : (x == c) = false := by simpa using h
   have h2 : (c == x) = false := by simpa using fun e : c = x => h e.symm
   rw [h1]
   simp only [Bool.false_eq_true, if_false, List.contains_cons, h2, Bool.false_or]
   rw [← ih]
   by_cases h3 : Lib.indexByte l c = -1
   ·simp [h3]
   ·have h4 : (Lib.indexByte l c == -1) = false := by simpa using h3
    rw [h4]
    simp only [Bool.false_eq_true, if_false]
    apply decide_eq_decide.2
    omega
set_option maxHeartbeats 2000000 in
theorem cos_name (S : ByteArray) (w : World) : Calls Tryz.prog 87 #[.string S] w fun e w' => e = .returned (.bool (nameOk S.data.toList)) ∧ w = w' := by
 have hsz : S.data.toList.length = S.size := Array.length_toList
 have cc := fun w => Tryz.strings_Contains_one S 0 w
 unfold nameOk
 rw [hsz]
 rw [has_byte] at cc
 obtain ⟨z, hz⟩ : ∃ z, S.data.toList.contains 0 = z := ⟨_, rfl⟩
 rw [hz] at cc ⊢
 clear hz hsz
 go_enter Tryz.func87, Tryz.ntmps87
 go_wp2_with (go_at_call 116; (with_reducible refine (cc _).mono ?_); rintro e w1 ⟨rfl, rfl⟩)
 all_goals go_ret
 all_goals refine ⟨?_, rfl⟩
 all_goals first | (simp_all; done) | (simp_all; omega)
theorem no_take {l : List UInt8} {k : Nat} (h : k < l.length) (h1 : (l.take k).contains 0 = false) (h2 : l[k] ≠ 0) : (l.take (k + 1)).contains 0 = false := by
 rw [List.take_succ_eq_append_getElem h]
 rw [Bool.eq_false_iff]
 intro h3
 have h3 := List.contains_iff_mem.1 h3
 rcases List.mem_append.1 h3 with h4 | h4
 ·exact absurd (List.contains_iff_mem.2 h4) (by rw [h1]; decide)
 ·simp at h4; exact h2 h4.symm
set_option maxHeartbeats 2000000 in
theorem ref_name (A : Option Addr) (c : Nat) (bs : List UInt8) (w : World) (hb : Byt w A bs) : Calls Tryz.prog 76 #[.slice A bs.length c] w fun e w' => e = .returned (.bool (nameOk bs)) ∧ w = w' := by
 have hm0 := hb.1
 unfold nameOk
 obtain ⟨m, hm⟩ : ∃ m, m = bs.length := ⟨_, rfl⟩
 rw [← hm] at hm0 ⊢
 by_cases h127 : m ≤ 127
 ·simp only [h127, decide_true, Bool.true_and]
  replace hm := hi_ hm
  replace hb := hi_ hb
  go_enter Tryz.func76, Tryz.ntmps76
  go_wp2
  go_loopw [3] (fun s3 wr => ∃ k : Nat, k ≤ m ∧ s3 = .int .i64 k ∧ (bs.take k).contains 0 = false ∧ wr = w) (fun s3 _ => m - (RowKit.intOf s3).toNat)
  case atStart => exact ⟨0, by omega, rfl, rfl, rfl⟩
  case round =>
   obtain ⟨k, hk, rfl, hP, rfl⟩ := hrel
   by_cases hkm : k < m
   ·have hkl : k < bs.length := by rw [← hm.out]; exact hkm
    obtain ⟨b, o, rfl, hcell⟩ := hb.out.2 (by omega)
    obtain ⟨x, hx⟩ : ∃ x, x = bs[k] := ⟨_, rfl⟩
    have hcx := hcell k hkl
    rw [← hx] at hcx
    by_cases hx0 : x = 0
    ·have hT : bs.contains 0 = true := by
      rw [List.contains_iff_mem]; rw [← hx0, hx]; exact List.getElem_mem hkl
     subst hx0
     replace hT := hi_ hT
     replace hP := hi_ hP
     clear hcell hx
     go_wp2
     go_ret
     exact ⟨by rw [hT.out]; rfl, rfl⟩
    ·have hP2 := no_take hkl hP (by rw [← hx]; exact hx0)
     have hx2 : ((x.toNat : Int) == 0) = false := by
      rw [beq_eq_false_iff_ne]; intro e; exact hx0 (UInt8.toNat_inj.1 (by show x.toNat = 0; omega))
     obtain ⟨xi, hxi⟩ : ∃ n : Int, n = (x.toNat : Int) := ⟨_, rfl⟩
     rw [← hxi] at hcx hx2
     replace hP2 := hi_ hP2
     clear hcell hx hx0 hxi hP
     go_wp2
     go_roundw
     case rel => exact ⟨k + 1, by omega, by go_num, hP2.out, (by first | rfl | trivial)⟩
     case measure => simp [RowKit.intOf]; omega
   ·obtain rfl : k = m := by omega
    rw [hm.out, List.take_length] at hP
    replace hP := hi_ hP
    go_wp2
    go_ret
    exact ⟨by rw [hP.out]; rfl, rfl⟩
 ·simp only [h127, decide_false, Bool.false_and]
  clear hb hm
  go_enter Tryz.func76, Tryz.ntmps76
  go_wp2
  go_ret
  exact ⟨rfl, rfl⟩
end Go.Proofs.YthacnnmlephkhaaGreatDoor

/- Keys in order. No condition. -/
namespace Go.Proofs.YthacnnmlephkhaaGreatDoor
open Go Go.RowKit Go.Wk Go.Extern Go.Extern.Rtype
theorem less_ltB : ∀ (a b : List UInt8), Op.bytesLess a b = ltB a b
 | [], [] => rfl
 | [], _ :: _ => rfl
 | _ :: _, [] => rfl
 | a :: x, b :: y => by
  have := less_ltB x y
  unfold Op.bytesLess ltB
  rw [this]
  by_cases h1 : a < b
  ·simp [h1]
  ·by_cases h2 : b < a
   ·have h3 : (a == b) = false := by rw [beq_eq_false_iff_ne]; rintro rfl; exact h1 h2
    simp [h1, h2, h3]
   ·have h3 : a = b := by
     apply UInt8.toNat_inj.1
     have e1 : ¬ a.toNat < b.toNat := h1
     have e2 : ¬ b.toNat < a.toNat := h2
     omega
    subst h3
    simp [h1]
theorem le_keys (S T : ByteArray) : (Op.bytesLess S.toList T.toList || S.toList == T.toList) = !ltB T.data.toList S.data.toList := by
 rw [ByteArray.toList_eq, ByteArray.toList_eq, ← less_ltB T.data.toList, ← Am.less_tri S.data.toList, Bool.not_not]
set_option maxHeartbeats 2000000 in
theorem may_less (w : World) (dd g oD : Nat) (i k n cD : Nat) (S T : ByteArray) (hi : i < n) (hk : k < n) (hn : n ≤ 1000000000) (h4 : w.cell? ⟨dd, 4, none⟩ = some (.slice (some ⟨g, oD, none⟩) n cD)) (hS : w.cell? ⟨g, oD + i * 6, none⟩ = some (.string S)) (hT : w.cell? ⟨g, oD + k * 6, none⟩ = some (.string T)) :
 Calls Tryz.prog 92 #[.int .i64 i, .int .i64 k, .pointer (some ⟨dd, 0, none⟩)] w fun e w' => e = .returned (.bool (!ltB T.data.toList S.data.toList)) ∧ Below w.heap.size w w' := by
 have hl := le_keys S T
 obtain ⟨z, hz⟩ : ∃ z, (!ltB T.data.toList S.data.toList) = z := ⟨_, rfl⟩
 rw [hz] at hl ⊢
 replace hl := hi_ hl
 clear hz
 go_enter Tryz.func92, Tryz.ntmps92
 go_wp2
 go_region
 all_goals
  go_wp2
  go_ret
  exact ⟨by rw [← hl.out]; rfl, (Below.refl _ _).drew⟩
def upTo (f : Nat → Bool) (n : Nat) : Bool := (List.range n).all fun i => i == 0 || f i
theorem type24 : ∃ i, Tryz.prog.info? 24 = some i ∧ i.desc = .slice 53 := ⟨Tryz.t24, by kernel_rfl, by kernel_rfl⟩
set_option maxHeartbeats 4000000 in
set_option maxRecDepth 100000 in
theorem srt_Is (w : World) (AD : Option Addr) (n cD dd : Nat) (f : Nat → Bool) (hn : n ≤ 1000000000)
 (less : ∀ i W, 0 < i → i < n → Below w.heap.size w W → Calls Tryz.prog 92 #[.int .i64 i, .int .i64 ((i : Int) - 1), .pointer (some ⟨dd, 0, none⟩)] W fun e w' => e = .returned (.bool (!f i)) ∧ Below W.heap.size W w') :
 Calls Tryz.prog 91 #[.iface 24 (.slice AD n cD), .func (.func 92) #[] #[.pointer (some ⟨dd, 0, none⟩)]] w fun e w' => e = .returned (.bool (upTo f n)) ∧ Below w.heap.size w w' := by
 obtain ⟨i0, hi0, hd0⟩ := type24
 have hv := Lib.run_valueOf_slice (P := Tryz.prog) 24 53 i0 hi0 hd0 AD n cD w
 have hl := fun a w ha => Lib.run_valueLen_slice (P := Tryz.prog) 24 53 i0 hi0 hd0 (by kernel_rfl) a AD n cD w ha
 have hgl : Tryz.prog.globals.size = 6 := by kernel_rfl
 simp only [typeHandle, hgl] at hv hl
 clear hi0 hd0
 replace less := hi_ less
 go_enter Tryz.func91, Tryz.ntmps91
 go_wp2
 rw [run_callFunc_extern Tryz.func118 (by kernel_rfl) (by kernel_rfl) (by kernel_rfl) (e := fun args => Extern.ReflectliteValue.unpack (args.getD 0 (.tuple #[]))) (by kernel_rfl),
  show Sem.run Tryz.prog ((fun args : Array Value => Extern.ReflectliteValue.unpack (args.getD 0 (.tuple #[]))) #[.iface 24 (.slice AD n cD)]) w = _ from hv]
 simp only [Result.andThen]
 rw [Oper.upon_value]
 go_wp2
 rw [run_callFunc_extern Tryz.func119 (by kernel_rfl) (by kernel_rfl) (by kernel_rfl) (e := Extern.ReflectliteValue.method (Extern.ReflectliteValue.valueError "reflectlite.Value.Len" 0) Extern.ReflectliteValue.len) (by kernel_rfl), hl _ _ (by simp)]
 simp only [Result.andThen]
 rw [Oper.upon_value]
 go_wp2
 go_loopw [7] (fun s7 wr => ∃ i : Nat, i ≤ n ∧ s7 = .int .i64 ((i : Int) - 1) ∧ (∀ k, i ≤ k → k < n → k = 0 ∨ f k = true) ∧ Below w.heap.size w wr) (fun s7 _ => (RowKit.intOf s7).toNat)
 case atStart => exact ⟨n, Nat.le_refl _, rfl, fun k h1 h2 => by omega, ((Below.refl _ _).alloc (Nat.le_refl _) _).alloc (by simp) _⟩
 case round =>
  obtain ⟨i, hin, rfl, hP, hB⟩ := hrel
  by_cases hi : 1 < i
  ·obtain ⟨j, rfl⟩ : ∃ j, i = j + 1 := ⟨i - 1, by omega⟩
   have cl := less.out j wr (by omega) (by omega) hB
   have e1 : (((j + 1 : Nat) : Int) - 1) = (j : Int) := by omega
   rw [e1]
   cases hf : f j with
   | true =>
    rw [hf] at cl
    have hP2 : ∀ k, j ≤ k → k < n → k = 0 ∨ f k = true := fun k h1 h2 => by
     by_cases h3 : j = k
     ·subst h3; exact .inr hf
     ·exact hP k (by omega) h2
    replace hP2 := hi_ hP2
    replace hB := hi_ hB
    clear hP hf e1
    go_wp2_with (go_at_call 92; (with_reducible refine cl.mono ?_); rintro e w1 ⟨rfl, hB1⟩; replace hB1 := hi_ hB1)
    go_roundw
    case rel => exact ⟨j, by omega, rfl, hP2.out, bthen hB.out hB1.out⟩
    case measure => simp [RowKit.intOf]; omega
   | false =>
    rw [hf] at cl
    have hT : upTo f n = false := by
     unfold upTo
     rw [List.all_eq_false]
     exact ⟨j, List.mem_range.2 (by omega), by simp [hf]; omega⟩
    replace hT := hi_ hT
    replace hB := hi_ hB
    replace hP := hi_ hP
    clear hf e1
    go_wp2_with (go_at_call 92; (with_reducible refine cl.mono ?_); rintro e w1 ⟨rfl, hB1⟩; replace hB1 := hi_ hB1)
    go_ret
    exact ⟨by rw [hT.out]; rfl, bthen hB.out hB1.out⟩
  ·have hT : upTo f n = true := by
    unfold upTo
    rw [List.all_eq_true]
    intro k hk
    have hk := List.mem_range.1 hk
    by_cases h0 : k = 0
    ·simp [h0]
    ·rcases hP k (by omega) hk with h | h
     ·exact absurd h h0
     ·simp [h]
   have hg : decide ((0 : Int) < (i : Int) - 1) = false := by simp; omega
   replace hT := hi_ hT
   replace hB := hi_ hB
   replace hP := hi_ hP
   go_wp2
   go_ret
   exact ⟨by rw [hT.out]; rfl, hB.out⟩
end Go.Proofs.YthacnnmlephkhaaGreatDoor

/- Is there one among objects, among entries? No condition. -/
namespace Go.Proofs.YthacnnmlephkhaaGreatDoor
open Go Go.RowKit Go.Wk
theorem five_list {α : Type} (us : List α) (h : us.length = 5) : ∃ c0 c1 c2 c3 c4, us = [c0, c1, c2, c3, c4] := by
 match us, h with
 | [c0, c1, c2, c3, c4], _ => exact ⟨_, _, _, _, _, rfl⟩
theorem six_list {α : Type} (us : List α) (h : us.length = 6) : ∃ c0 c1 c2 c3 c4 c5, us = [c0, c1, c2, c3, c4, c5] := by
 match us, h with
 | [c0, c1, c2, c3, c4, c5], _ => exact ⟨_, _, _, _, _, _, rfl⟩
set_option maxHeartbeats 4000000 in
set_option maxRecDepth 100000 in
theorem idx_obj (w : World) (AL : Option Addr) (g oL n cL dd : Nat) (p : Nat → Bool) (vl : Nat → List Value) (hn : n ≤ 1000000000) (hA : 0 < n → AL = some ⟨g, oL, none⟩) (h5 : ∀ i, i < n → (vl i).length = 5)
 (hc : ∀ i, i < n → ∀ j, j < 5 → w.cell? ⟨g, oL + (5 * i + j), none⟩ = (vl i)[j]?)
 (call : ∀ i W, i < n → Below w.heap.size w W → Calls Tryz.prog 89 #[.agg (vl i).toArray, .pointer (some ⟨dd, 0, none⟩)] W fun e w' => e = .returned (.bool (p i)) ∧ Below W.heap.size W w') :
 Calls Tryz.prog 117 #[.slice AL n cL, .func (.func 89) #[] #[.pointer (some ⟨dd, 0, none⟩)]] w fun e w' => ∃ j : Int, e = .returned (.int .i64 j) ∧ decide (0 ≤ j) = (List.range n).any p ∧ Below w.heap.size w w' := by
 replace call := hi_ call
 replace hc := hi_ hc
 replace h5 := hi_ h5
 replace hA := hi_ hA
 go_enter Tryz.func117, Tryz.ntmps117
 go_wp2
 go_loopw [5, 8] (fun _ s8 wr => ∃ k : Nat, k ≤ n ∧ s8 = .int .i64 k ∧ (∀ i, i < k → p i = false) ∧ Below w.heap.size w wr) (fun _ s8 _ => n - (RowKit.intOf s8).toNat)
 case atStart => exact ⟨0, by omega, rfl, fun i hi => by omega, Below.refl _ _⟩
 case round =>
  obtain ⟨k, hk, rfl, hP, hB⟩ := hrel
  by_cases hkn : k < n
  ·have hA := hA.out (by omega)
   subst hA
   have h5k := h5.out k hkn
   have hck := hc.out k hkn
   have cl := call.out k wr hkn hB
   obtain ⟨us, hus⟩ : ∃ us, us = vl k := ⟨_, rfl⟩
   rw [← hus] at h5k hck cl
   ·obtain ⟨c0, c1, c2, c3, c4, rfl⟩ := five_list us h5k
    have w0 : w.cell? ⟨g, oL + k * 5, none⟩ = some c0 := by have := hck 0 (by omega); rw [Nat.mul_comm, Nat.add_zero] at this; exact this
    have w1 : w.cell? ⟨g, oL + k * 5 + 1, none⟩ = some c1 := by have := hck 1 (by omega); rw [Nat.mul_comm, ← Nat.add_assoc] at this; exact this
    have w2 : w.cell? ⟨g, oL + k * 5 + 2, none⟩ = some c2 := by have := hck 2 (by omega); rw [Nat.mul_comm, ← Nat.add_assoc] at this; exact this
    have w3 : w.cell? ⟨g, oL + k * 5 + 3, none⟩ = some c3 := by have := hck 3 (by omega); rw [Nat.mul_comm, ← Nat.add_assoc] at this; exact this
    have w4 : w.cell? ⟨g, oL + k * 5 + 4, none⟩ = some c4 := by have := hck 4 (by omega); rw [Nat.mul_comm, ← Nat.add_assoc] at this; exact this
    have x0 := (hB.cell (cell_lt w0)).trans w0
    have x1 := (hB.cell (cell_lt w1)).trans w1
    have x2 := (hB.cell (cell_lt w2)).trans w2
    have x3 := (hB.cell (cell_lt w3)).trans w3
    have x4 := (hB.cell (cell_lt w4)).trans w4
    clear w0 w1 w2 w3 w4 hck hus h5k
    cases hp : p k with
    | true =>
     rw [hp] at cl
     have hT : (List.range n).any p = true := List.any_eq_true.2 ⟨k, List.mem_range.2 hkn, hp⟩
     replace hT := hi_ hT
     replace hB := hi_ hB
     replace hP := hi_ hP
     clear hp
     go_wp2_with (go_at_call 89; (with_reducible refine cl.mono ?_); rintro e w1 ⟨rfl, hB1⟩; replace hB1 := hi_ hB1)
     go_ret
     exact ⟨k, rfl, by rw [hT.out]; simp, bthen hB.out hB1.out⟩
    | false =>
     rw [hp] at cl
     have hP2 : ∀ i, i < k + 1 → p i = false := fun i hi => by
      by_cases h : i = k
      ·subst h; exact hp
      ·exact hP i (by omega)
     replace hP2 := hi_ hP2
     replace hB := hi_ hB
     clear hP hp
     go_wp2_with (go_at_call 89; (with_reducible refine cl.mono ?_); rintro e w1 ⟨rfl, hB1⟩; replace hB1 := hi_ hB1)
     go_roundw
     case rel => exact ⟨k + 1, by omega, by go_num, hP2.out, bthen hB.out hB1.out⟩
     case measure => simp [RowKit.intOf]; omega
  ·obtain rfl : k = n := by omega
   have hT : (List.range k).any p = false := by
    rw [List.any_eq_false]
    intro i hi
    rw [hP i (List.mem_range.1 hi)]; decide
   replace hT := hi_ hT
   replace hB := hi_ hB
   replace hP := hi_ hP
   go_wp2
   go_ret
   exact ⟨-1, rfl, by rw [hT.out]; rfl, hB.out⟩
set_option maxHeartbeats 4000000 in
set_option maxRecDepth 100000 in
theorem idx_ent (w : World) (AL : Option Addr) (g oL n cL dd : Nat) (p : Nat → Bool) (vl : Nat → List Value) (hn : n ≤ 1000000000) (hA : 0 < n → AL = some ⟨g, oL, none⟩) (h5 : ∀ i, i < n → (vl i).length = 6)
 (hc : ∀ i, i < n → ∀ j, j < 6 → w.cell? ⟨g, oL + (6 * i + j), none⟩ = (vl i)[j]?)
 (call : ∀ i W, i < n → Below w.heap.size w W → Calls Tryz.prog 94 #[.agg (vl i).toArray, .pointer (some ⟨dd, 0, none⟩)] W fun e w' => e = .returned (.bool (p i)) ∧ Below W.heap.size W w') :
 Calls Tryz.prog 104 #[.slice AL n cL, .func (.func 94) #[] #[.pointer (some ⟨dd, 0, none⟩)]] w fun e w' => ∃ j : Int, e = .returned (.int .i64 j) ∧ decide (0 ≤ j) = (List.range n).any p ∧ Below w.heap.size w w' := by
 replace call := hi_ call
 replace hc := hi_ hc
 replace h5 := hi_ h5
 replace hA := hi_ hA
 go_enter Tryz.func104, Tryz.ntmps104
 go_wp2
 go_loopw [5, 8] (fun _ s8 wr => ∃ k : Nat, k ≤ n ∧ s8 = .int .i64 k ∧ (∀ i, i < k → p i = false) ∧ Below w.heap.size w wr) (fun _ s8 _ => n - (RowKit.intOf s8).toNat)
 case atStart => exact ⟨0, by omega, rfl, fun i hi => by omega, Below.refl _ _⟩
 case round =>
  obtain ⟨k, hk, rfl, hP, hB⟩ := hrel
  by_cases hkn : k < n
  ·have hA := hA.out (by omega)
   subst hA
   have h5k := h5.out k hkn
   have hck := hc.out k hkn
   have cl := call.out k wr hkn hB
   obtain ⟨us, hus⟩ : ∃ us, us = vl k := ⟨_, rfl⟩
   rw [← hus] at h5k hck cl
   ·obtain ⟨c0, c1, c2, c3, c4, c5, rfl⟩ := six_list us h5k
    have w0 : w.cell? ⟨g, oL + k * 6, none⟩ = some c0 := by have := hck 0 (by omega); rw [Nat.mul_comm, Nat.add_zero] at this; exact this
    have w1 : w.cell? ⟨g, oL + k * 6 + 1, none⟩ = some c1 := by have := hck 1 (by omega); rw [Nat.mul_comm, ← Nat.add_assoc] at this; exact this
    have w2 : w.cell? ⟨g, oL + k * 6 + 2, none⟩ = some c2 := by have := hck 2 (by omega); rw [Nat.mul_comm, ← Nat.add_assoc] at this; exact this
    have w3 : w.cell? ⟨g, oL + k * 6 + 3, none⟩ = some c3 := by have := hck 3 (by omega); rw [Nat.mul_comm, ← Nat.add_assoc] at this; exact this
    have w4 : w.cell? ⟨g, oL + k * 6 + 4, none⟩ = some c4 := by have := hck 4 (by omega); rw [Nat.mul_comm, ← Nat.add_assoc] at this; exact this
    have w5 : w.cell? ⟨g, oL + k * 6 + 5, none⟩ = some c5 := by have := hck 5 (by omega); rw [Nat.mul_comm, ← Nat.add_assoc] at this; exact this
    have x5 := (hB.cell (cell_lt w5)).trans w5
    have x0 := (hB.cell (cell_lt w0)).trans w0
    have x1 := (hB.cell (cell_lt w1)).trans w1
    have x2 := (hB.cell (cell_lt w2)).trans w2
    have x3 := (hB.cell (cell_lt w3)).trans w3
    have x4 := (hB.cell (cell_lt w4)).trans w4
    clear w0 w1 w2 w3 w4 w5 hck hus h5k
    cases hp : p k with
    | true =>
     rw [hp] at cl
     have hT : (List.range n).any p = true := List.any_eq_true.2 ⟨k, List.mem_range.2 hkn, hp⟩
     replace hT := hi_ hT
     replace hB := hi_ hB
     replace hP := hi_ hP
     clear hp
     go_wp2_with (go_at_call 94; (with_reducible refine cl.mono ?_); rintro e w1 ⟨rfl, hB1⟩; replace hB1 := hi_ hB1)
     go_ret
     exact ⟨k, rfl, by rw [hT.out]; simp, bthen hB.out hB1.out⟩
    | false =>
     rw [hp] at cl
     have hP2 : ∀ i, i < k + 1 → p i = false := fun i hi => by
      by_cases h : i = k
      ·subst h; exact hp
      ·exact hP i (by omega)
     replace hP2 := hi_ hP2
     replace hB := hi_ hB
     clear hP hp
     go_wp2_with (go_at_call 94; (with_reducible refine cl.mono ?_); rintro e w1 ⟨rfl, hB1⟩; replace hB1 := hi_ hB1)
     go_roundw
     case rel => exact ⟨k + 1, by omega, by go_num, hP2.out, bthen hB.out hB1.out⟩
     case measure => simp [RowKit.intOf]; omega
  ·obtain rfl : k = n := by omega
   have hT : (List.range k).any p = false := by
    rw [List.any_eq_false]
    intro i hi
    rw [hP i (List.mem_range.1 hi)]; decide
   replace hT := hi_ hT
   replace hB := hi_ hB
   replace hP := hi_ hP
   go_wp2
   go_ret
   exact ⟨-1, rfl, by rw [hT.out]; rfl, hB.out⟩
set_option maxHeartbeats 2000000 in
theorem cnt_obj (w : World) (AL : Option Addr) (g oL n cL dd : Nat) (p : Nat → Bool) (vl : Nat → List Value) (hn : n ≤ 1000000000) (hA : 0 < n → AL = some ⟨g, oL, none⟩) (h5 : ∀ i, i < n → (vl i).length = 5)
 (hc : ∀ i, i < n → ∀ j, j < 5 → w.cell? ⟨g, oL + (5 * i + j), none⟩ = (vl i)[j]?)
 (call : ∀ i W, i < n → Below w.heap.size w W → Calls Tryz.prog 89 #[.agg (vl i).toArray, .pointer (some ⟨dd, 0, none⟩)] W fun e w' => e = .returned (.bool (p i)) ∧ Below W.heap.size W w') :
 Calls Tryz.prog 88 #[.slice AL n cL, .func (.func 89) #[] #[.pointer (some ⟨dd, 0, none⟩)]] w fun e w' => e = .returned (.bool ((List.range n).any p)) ∧ Below w.heap.size w w' := by
 have ci := idx_obj w AL g oL n cL dd p vl hn hA h5 hc call
 obtain ⟨z, hz⟩ : ∃ z, (List.range n).any p = z := ⟨_, rfl⟩
 rw [hz] at ci ⊢
 clear hz call hc h5 hA
 go_enter Tryz.func88, Tryz.ntmps88
 go_wp2_with (go_at_call 117; (with_reducible refine ci.mono ?_); rintro e w1 ⟨j, rfl, hj, hB1⟩; replace hB1 := hi_ hB1; replace hj := hi_ hj)
 all_goals go_ret
 all_goals refine ⟨?_, hB1.out⟩
 all_goals (rw [← hj.out]; simp_all)
set_option maxHeartbeats 2000000 in
theorem cnt_ent (w : World) (AL : Option Addr) (g oL n cL dd : Nat) (p : Nat → Bool) (vl : Nat → List Value) (hn : n ≤ 1000000000) (hA : 0 < n → AL = some ⟨g, oL, none⟩) (h5 : ∀ i, i < n → (vl i).length = 6)
 (hc : ∀ i, i < n → ∀ j, j < 6 → w.cell? ⟨g, oL + (6 * i + j), none⟩ = (vl i)[j]?)
 (call : ∀ i W, i < n → Below w.heap.size w W → Calls Tryz.prog 94 #[.agg (vl i).toArray, .pointer (some ⟨dd, 0, none⟩)] W fun e w' => e = .returned (.bool (p i)) ∧ Below W.heap.size W w') :
 Calls Tryz.prog 93 #[.slice AL n cL, .func (.func 94) #[] #[.pointer (some ⟨dd, 0, none⟩)]] w fun e w' => e = .returned (.bool ((List.range n).any p)) ∧ Below w.heap.size w w' := by
 have ci := idx_ent w AL g oL n cL dd p vl hn hA h5 hc call
 obtain ⟨z, hz⟩ : ∃ z, (List.range n).any p = z := ⟨_, rfl⟩
 rw [hz] at ci ⊢
 clear hz call hc h5 hA
 go_enter Tryz.func93, Tryz.ntmps93
 go_wp2_with (go_at_call 104; (with_reducible refine ci.mono ?_); rintro e w1 ⟨j, rfl, hj, hB1⟩; replace hB1 := hi_ hB1; replace hj := hi_ hj)
 all_goals go_ret
 all_goals refine ⟨?_, hB1.out⟩
 all_goals (rw [← hj.out]; simp_all)

/- May an object be? By the program. No condition. -/
def InnerC (dep : Nat) : Prop := ∀ (o : Ob) (vs : List Value) (w : World), ObAt w o vs → o.bulk ≤ 1048576 → Calls Tryz.prog 90 #[.agg vs.toArray, .int .i64 (dep : Int)] w fun e w' => e = .returned (.bool (o.kind != 8 && o.may dep)) ∧ Below w.heap.size w w'
def MayC (dep : Nat) : Prop := ∀ (o : Ob) (vs : List Value) (w : World), ObAt w o vs → o.bulk ≤ 1048576 → Calls Tryz.prog 58 #[.agg vs.toArray, .int .i64 (dep : Int)] w fun e w' => e = .returned (.bool (o.may dep)) ∧ Below w.heap.size w w'
theorem ob_vals {w : World} {o : Ob} {vs : List Value} (h : ObAt w o vs) : ∃ v1 v2 v3 v4, vs = [.int .i64 o.kind, v1, v2, v3, v4] := by
 cases h with
 | mk k n b l d A AL AD c cL cD gL oL gD oD vl vd => exact ⟨_, _, _, _, rfl⟩
set_option maxHeartbeats 2000000 in
theorem cos_inner (dep : Nat) (hd : dep ≤ 28) (hm : MayC dep) : InnerC dep := by
 intro o vs w h hb
 have hb0 : ∀ ob, Below w.heap.size w (w.alloc ob) := fun ob => (Below.refl _ _).alloc (Nat.le_refl _) _
 have cm := fun ob => hm o vs (w.alloc ob) (h.kept (hb0 ob)) hb
 obtain ⟨v1, v2, v3, v4, rfl⟩ := ob_vals h
 obtain ⟨k, hk⟩ : ∃ k, o.kind = k := ⟨_, rfl⟩
 rw [hk] at cm ⊢
 obtain ⟨z, hz⟩ : ∃ z, o.may dep = z := ⟨_, rfl⟩
 rw [hz] at cm ⊢
 obtain ⟨y, hy⟩ : ∃ y, (k != 8) = y := ⟨_, rfl⟩
 rw [hy]
 replace hb0 := hi_ hb0
 clear hz hk h hb hm
 cases y
 all_goals
  go_enter Tryz.func90, Tryz.ntmps90
  go_wp2_with (go_at_call 58; (with_reducible refine (cm _).mono ?_); rintro e w1 ⟨rfl, hB1⟩; replace hB1 := hi_ hB1)
  go_ret
  refine ⟨by simp, ?_⟩
  first | exact hb0.out _ | exact bthen (hb0.out _) hB1.out
set_option maxHeartbeats 2000000 in
theorem may_clo (dep : Nat) (hd : dep ≤ 28) (hi : InnerC dep) (dd : Nat) (o : Ob) (vs : List Value) (w : World) (h : ObAt w o vs) (hb : o.bulk ≤ 1048576) (hD : w.cell? ⟨dd, 0, none⟩ = some (.int .i64 ((dep : Int) + 1))) :
 Calls Tryz.prog 89 #[.agg vs.toArray, .pointer (some ⟨dd, 0, none⟩)] w fun e w' => e = .returned (.bool (!(o.kind != 8 && o.may dep))) ∧ Below w.heap.size w w' := by
 have hb0 : ∀ ob, Below w.heap.size w (w.alloc ob) := fun ob => (Below.refl _ _).alloc (Nat.le_refl _) _
 have cm := fun ob => hi o vs (w.alloc ob) (h.kept (hb0 ob)) hb
 have hlt := cell_lt hD
 obtain ⟨v1, v2, v3, v4, rfl⟩ := ob_vals h
 obtain ⟨z, hz⟩ : ∃ z, (o.kind != 8 && o.may dep) = z := ⟨_, rfl⟩
 rw [hz] at cm ⊢
 obtain ⟨k, hk⟩ : ∃ k, o.kind = k := ⟨_, rfl⟩
 rw [hk] at cm ⊢
 replace hb0 := hi_ hb0
 clear hz hk h hb hi
 go_enter Tryz.func89, Tryz.ntmps89
 go_wp2_with (go_at_call 90; (with_reducible refine (cm _).mono ?_); rintro e w1 ⟨rfl, hB1⟩; replace hB1 := hi_ hB1)
 go_ret
 exact ⟨rfl, bthen (hb0.out _) hB1.out⟩
set_option maxHeartbeats 4000000 in
theorem may_clo2 (dep : Nat) (hd : dep ≤ 28) (hi : InnerC dep) (dd : Nat) (S : ByteArray) (o : Ob) (vs : List Value) (w : World) (h : ObAt w o vs) (hb : o.bulk ≤ 1048576) (hD : w.cell? ⟨dd, 0, none⟩ = some (.int .i64 ((dep : Int) + 1))) :
 Calls Tryz.prog 94 #[.agg (.string S :: vs).toArray, .pointer (some ⟨dd, 0, none⟩)] w fun e w' => e = .returned (.bool (!(nameOk S.data.toList && o.kind != 0 && (o.kind != 8 && o.may dep)))) ∧ Below w.heap.size w w' := by
 have hb0 : ∀ ob, Below w.heap.size w (w.alloc ob) := fun ob => (Below.refl _ _).alloc (Nat.le_refl _) _
 have cm := fun ob => hi o vs (w.alloc ob) (h.kept (hb0 ob)) hb
 have cn := fun w => cos_name S w
 have hlt := cell_lt hD
 obtain ⟨v1, v2, v3, v4, rfl⟩ := ob_vals h
 obtain ⟨z, hz⟩ : ∃ z, (o.kind != 8 && o.may dep) = z := ⟨_, rfl⟩
 rw [hz] at cm ⊢
 obtain ⟨k, hk⟩ : ∃ k, o.kind = k := ⟨_, rfl⟩
 rw [hk] at cm ⊢
 obtain ⟨y, hy⟩ : ∃ y, (k == 0) = y := ⟨_, rfl⟩
 have hy2 : (k != 0) = !y := by rw [← hy]; rfl
 rw [hy2]
 obtain ⟨x, hx⟩ : ∃ x, nameOk S.data.toList = x := ⟨_, rfl⟩
 rw [hx] at cn ⊢
 replace hb0 := hi_ hb0
 clear hz hk h hb hi hx hy2
 cases x <;> cases y
 all_goals
  go_enter Tryz.func94, Tryz.ntmps94
  go_wp2_with (first
   | (go_at_call 87; (with_reducible refine (cn _).mono ?_); rintro e w1 ⟨rfl, rfl⟩)
   | (go_at_call 90; (with_reducible refine (cm _).mono ?_); rintro e w1 ⟨rfl, hB1⟩; replace hB1 := hi_ hB1))
  go_ret
  refine ⟨by simp, ?_⟩
  first | exact hb0.out _ | exact bthen (hb0.out _) hB1.out

/- May an object be? By the program: whole. No condition. -/
theorem mayL_all (d : Nat) : ∀ l : List Ob, mayL d l = l.all fun o => o.kind != 8 && o.may d
 | [] => rfl
 | o :: r => by simp [mayL, mayL_all d r]
theorem mayD_all (d : Nat) : ∀ l : List (List UInt8 × Ob), mayD d l = l.all fun e => nameOk e.1 && e.2.kind != 0 && (e.2.kind != 8 && e.2.may d)
 | [] => rfl
 | e :: r => by simp [mayD, mayD_all d r, Bool.and_assoc]
def atI {α : Type} (l : List α) (q : α → Bool) (i : Nat) : Bool := match l[i]? with
 | some o => q o
 | none => false
theorem any_idx {α : Type} (l : List α) (q : α → Bool) : (List.range l.length).any (atI l fun o => !q o) = !l.all q := by
 rw [Bool.eq_iff_iff]
 simp only [List.any_eq_true, List.mem_range, Bool.not_eq_true', List.all_eq_false]
 constructor
 ·rintro ⟨i, hi, h⟩
  unfold atI at h
  rw [List.getElem?_eq_getElem hi] at h
  exact ⟨l[i], List.getElem_mem hi, by simpa using h⟩
 ·rintro ⟨o, ho, h⟩
  obtain ⟨i, hi, rfl⟩ := List.getElem_of_mem ho
  exact ⟨i, hi, by unfold atI; rw [List.getElem?_eq_getElem hi]; simpa using h⟩
theorem rises_iff : ∀ d : List (List UInt8 × Ob), risesB d = true ↔ ∀ i (h : i + 1 < d.length), ltB (d[i]'(by omega)).1 d[i + 1].1 = true
 | [] => by simp [risesB]
 | [_] => by simp [risesB]
 | a :: b :: r => by
  have ih := rises_iff (b :: r)
  simp only [risesB, Bool.and_eq_true]
  rw [ih]
  constructor
  ·rintro ⟨h1, h2⟩ i hi
   cases i with
   | zero => exact h1
   | succ i => exact h2 i (by simpa using hi)
  ·intro h
   exact ⟨h 0 (by simp), fun i hi => h (i + 1) (by simpa using hi)⟩
def riseF (d : List (List UInt8 × Ob)) (i : Nat) : Bool := match d[i - 1]?, d[i]? with
 | some a, some b => ltB a.1 b.1
 | _, _ => true
theorem rises_upTo (d : List (List UInt8 × Ob)) : upTo (riseF d) d.length = risesB d := by
 rw [Bool.eq_iff_iff, rises_iff]
 unfold upTo
 simp only [List.all_eq_true, List.mem_range, Bool.or_eq_true, beq_iff_eq]
 constructor
 ·intro h i hi
  rcases h (i + 1) hi with h1 | h1
  ·omega
  ·unfold riseF at h1
   rw [Nat.add_sub_cancel, List.getElem?_eq_getElem (by omega : i < d.length), List.getElem?_eq_getElem hi] at h1
   exact h1
 ·intro h k hk
  cases k with
  | zero => exact .inl rfl
  | succ i =>
   refine .inr ?_
   unfold riseF
   rw [Nat.add_sub_cancel, List.getElem?_eq_getElem (by omega : i < d.length), List.getElem?_eq_getElem hk]
   exact h i hk
theorem mulc (a i j : Nat) : a + (6 * i + 1 + j) = a + (6 * i + (j + 1)) := by omega
set_option maxHeartbeats 8000000 in
set_option maxRecDepth 100000 in
theorem cos_may0 (dep : Nat) (hd : dep ≤ 28) (hi : ∀ d', dep = d' + 1 → InnerC d') : MayC dep := by
 intro o vs w h hbk
 have hfull := h
 cases h with
 | mk k n b l d A AL AD c cL cD gL oL gD oD vl vd h1 h2 h3 h4 hB hbc hAc hlc hlm hdc hdm hAL hl hlv hAD hdo hdk hdv =>
 have hbk : (Ob.mk k n b l d).bulk ≤ 1048576 := hbk
 have zk : b.length + bulkL l + bulkD d + 1 ≤ 1048576 := hbk
 have zl := bulkL_len l
 have zd := bulkD_len d
 have cs := fun w => cos_spare k n A AL AD c cL cD b l d w
 obtain ⟨W2, hW2⟩ : ∃ W, W = (w.alloc (.cells #[.int .i64 k, .int .i64 n, .slice A b.length c, .slice AL l.length cL, .slice AD d.length cD] 26)).alloc (.cells #[.int .i64 (dep : Int)] 3) := ⟨_, rfl⟩
 have hb2 : Below w.heap.size w W2 := by rw [hW2]; exact ((Below.refl _ _).alloc (Nat.le_refl _) _).alloc (by simp) _
 have dcell : W2.cell? ⟨w.heap.size + 1, 0, none⟩ = some (.int .i64 (dep : Int)) := by
  rw [hW2]
  have := alloc_cell (w := w.alloc (.cells #[.int .i64 k, .int .i64 n, .slice A b.length c, .slice AL l.length cL, .slice AD d.length cD] 26)) (vs := #[.int .i64 (dep : Int)]) (e := 3) (i := 0)
  rw [World.size_alloc, Nat.add_zero] at this
  exact this
 have ocell : ∀ i v, #[Value.int .i64 k, .int .i64 n, .slice A b.length c, .slice AL l.length cL, .slice AD d.length cD][i]? = some v → W2.cell? ⟨w.heap.size, i, none⟩ = some v := by
  intro i v hv
  have h0 := alloc_cell (w := w) (vs := #[.int .i64 k, .int .i64 n, .slice A b.length c, .slice AL l.length cL, .slice AD d.length cD]) (e := 26) (i := i)
  rw [Nat.zero_add, hv] at h0
  rw [hW2]
  exact (((Below.refl _ _).alloc (Nat.le_refl _) _ : Below (w.alloc (.cells #[.int .i64 k, .int .i64 n, .slice A b.length c, .slice AL l.length cL, .slice AD d.length cD] 26)).heap.size _ _).cell (p := ⟨w.heap.size, i, none⟩) (cell_lt h0)).trans h0
 have cn := fun W => cos_name (bytes b) W
 rw [bytes_list] at cn
 have cv := fun W (hW : Below W2.heap.size W2 W) => conv_any W A c b (hB.below (bthen hb2 hW))
 have kL : ∀ d', dep = d' + 1 → ∀ W, Below W2.heap.size W2 W → Calls Tryz.prog 88 #[.slice AL l.length cL, .func (.func 89) #[] #[.pointer (some ⟨w.heap.size + 1, 0, none⟩)]] W fun e w' => e = .returned (.bool (!mayL d' l)) ∧ Below W.heap.size W w' := by
  intro d' hd' W hW
  have hbW := bthen hb2 hW
  rw [mayL_all, ← any_idx]
  refine cnt_obj W AL gL oL l.length cL (w.heap.size + 1) _ vl (by omega) hAL (fun i hi => (hl i hi).five) (fun i hi j hj => ?_) (fun i W3 hi3 hb3 => ?_)
  ·have h0 := hlv i hi j hj
   have hv : ∃ u, (vl i)[j]? = some u := ⟨_, List.getElem?_eq_getElem (by rw [(hl i hi).five]; exact hj)⟩
   obtain ⟨u, hu⟩ := hv
   rw [hu] at h0 ⊢
   exact (hbW.cell (cell_lt h0)).trans h0
  ·have hbl := bulkL_at l i hi3
   have hq := may_clo d' (by omega) (hi d' hd') (w.heap.size + 1) l[i] (vl i) W3 ((hl i hi3).kept (bthen hbW hb3)) (by omega) (by
    have hdc2 : W.cell? ⟨w.heap.size + 1, 0, none⟩ = some (.int .i64 (dep : Int)) := (hW.cell (cell_lt dcell)).trans dcell
    have := (hb3.cell (cell_lt hdc2)).trans hdc2
    rw [this, hd']; simp)
   unfold atI
   rw [List.getElem?_eq_getElem hi3]
   exact hq
 have cD2 : ∀ d', dep = d' + 1 → ∀ W, Below W2.heap.size W2 W → Calls Tryz.prog 93 #[.slice AD d.length cD, .func (.func 94) #[] #[.pointer (some ⟨w.heap.size + 1, 0, none⟩)]] W fun e w' => e = .returned (.bool (!mayD d' d)) ∧ Below W.heap.size W w' := by
  intro d' hd' W hW
  have hbW := bthen hb2 hW
  rw [mayD_all, ← any_idx]
  refine cnt_ent W AD gD oD d.length cD (w.heap.size + 1) _ (fun i => (match d[i]? with | some e => strV e.1 | none => undef) :: vd i) (by omega) hAD (fun i hi => by simp [(hdo i hi).five]) (fun i hi j hj => ?_) (fun i W3 hi3 hb3 => ?_)
  ·cases j with
   | zero =>
    have h0 := (hdk i hi).2
    rw [Nat.add_zero, List.getElem?_cons_zero, List.getElem?_eq_getElem hi]
    exact (hbW.cell (cell_lt h0)).trans h0
   | succ j =>
    have h0 := hdv i hi j (by omega)
    have hv : ∃ u, (vd i)[j]? = some u := ⟨_, List.getElem?_eq_getElem (by rw [(hdo i hi).five]; omega)⟩
    obtain ⟨u, hu⟩ := hv
    rw [mulc] at h0
    rw [List.getElem?_cons_succ]
    rw [hu] at h0 ⊢
    exact (hbW.cell (cell_lt h0)).trans h0
  ·have hbl := bulkD_at d i hi3
   have hq := may_clo2 d' (by omega) (hi d' hd') (w.heap.size + 1) (bytes d[i].1) d[i].2 (vd i) W3 ((hdo i hi3).kept (bthen hbW hb3)) (by omega) (by
    have hdc2 : W.cell? ⟨w.heap.size + 1, 0, none⟩ = some (.int .i64 (dep : Int)) := (hW.cell (cell_lt dcell)).trans dcell
    have := (hb3.cell (cell_lt hdc2)).trans hdc2
    rw [this, hd']; simp)
   unfold atI
   rw [List.getElem?_eq_getElem hi3]
   exact hq
 have cS : ∀ W, Below W2.heap.size W2 W → Calls Tryz.prog 91 #[.iface 24 (.slice AD d.length cD), .func (.func 92) #[] #[.pointer (some ⟨w.heap.size, 0, none⟩)]] W fun e w' => e = .returned (.bool (risesB d)) ∧ Below W.heap.size W w' := by
  intro W hW
  have hbW := bthen hb2 hW
  rw [← rises_upTo]
  refine srt_Is W AD d.length cD w.heap.size (riseF d) (by omega) (fun i W3 h0 hin hb3 => ?_)
  have key : ∀ j (hj : j < d.length), W3.cell? ⟨gD, oD + j * 6, none⟩ = some (.string (bytes d[j].1)) := fun j hj => by
   have h0 := (hdk j hj).2
   rw [Nat.mul_comm] at h0
   exact ((bthen hbW hb3).cell (cell_lt h0)).trans h0
  have hAe := hAD (by omega)
  subst hAe
  have h4c : W3.cell? ⟨w.heap.size, 4, none⟩ = some (.slice (some ⟨gD, oD, none⟩) d.length cD) := by
   have q0 := ocell 4 _ rfl
   have q1 := (hW.cell (cell_lt q0)).trans q0
   exact (hb3.cell (cell_lt q1)).trans q1
  have hq := may_less W3 w.heap.size gD oD i (i - 1) d.length cD (bytes d[i].1) (bytes (d[i - 1]'(by omega)).1) hin (by omega) (by omega) h4c (key i hin) (key (i - 1) (by omega))
  have e1 : ((i - 1 : Nat) : Int) = (i : Int) - 1 := by omega
  rw [e1] at hq
  unfold riseF
  rw [List.getElem?_eq_getElem (by omega : i - 1 < d.length), List.getElem?_eq_getElem hin]
  exact hq
 have hmay : (Ob.mk k n b l d).may dep = (spareB k n b l d && (if k = 0 then true else if k = 1 then decide (0 ≤ n ∧ n ≤ 1) else if k = 2 then decide (-2147483647 ≤ n ∧ n ≤ 2147483647) else if k = 3 then decide (-214748364799999 ≤ n ∧ n ≤ 214748364799999) else if k = 9 then decide (1 ≤ n ∧ n ≤ 8388607) else if k = 4 then decide (b.length ≤ 32767) else if k = 5 then nameOk b else if k = 6 then decide (0 < dep) && mayL (dep - 1) l else if k = 7 ∨ k = 8 then decide (0 < dep) && risesB d && decide (b.length ≤ 16777216) && mayD (dep - 1) d else false)) := by simp only [Ob.may]
 rw [hmay]
 clear hmay hfull hB hl hlv hdo hdk hdv hi hAL hAD hbk hbc hAc
 have zb : b.length ≤ 1048576 := by omega
 have zl2 : l.length ≤ 1048576 := by omega
 have zd2 : d.length ≤ 1048576 := by omega
 clear zk zl zd hlc hlm hdc hdm
 obtain ⟨sp, hsp⟩ : ∃ z, spareB k n b l d = z := ⟨_, rfl⟩
 rw [hsp] at cs ⊢
 clear hsp
 obtain ⟨nk, hnk⟩ : ∃ z, nameOk b = z := ⟨_, rfl⟩
 rw [hnk] at cn ⊢
 clear hnk
 obtain ⟨ri, hri⟩ : ∃ z, risesB d = z := ⟨_, rfl⟩
 rw [hri] at cS ⊢
 clear hri
 obtain ⟨X, hX⟩ : ∃ X, X = bytes b := ⟨_, rfl⟩
 rw [← hX] at cn cv
 clear hX
 have kL' : ∀ d', dep = d' + 1 → ∀ W, Below W2.heap.size W2 W → Calls Tryz.prog 88 #[.slice AL l.length cL, .func (.func 89) #[] #[.pointer (some ⟨w.heap.size + 1, 0, none⟩)]] W fun e w' => e = .returned (.bool (!mayL (dep - 1) l)) ∧ Below W.heap.size W w' := fun d' e W hW => by
  rw [show dep - 1 = d' by omega]; exact kL d' e W hW
 have cD' : ∀ d', dep = d' + 1 → ∀ W, Below W2.heap.size W2 W → Calls Tryz.prog 93 #[.slice AD d.length cD, .func (.func 94) #[] #[.pointer (some ⟨w.heap.size + 1, 0, none⟩)]] W fun e w' => e = .returned (.bool (!mayD (dep - 1) d)) ∧ Below W.heap.size W w' := fun d' e W hW => by
  rw [show dep - 1 = d' by omega]; exact cD2 d' e W hW
 obtain ⟨ml, hml⟩ : ∃ z, mayL (dep - 1) l = z := ⟨_, rfl⟩
 obtain ⟨md, hmd⟩ : ∃ z, mayD (dep - 1) d = z := ⟨_, rfl⟩
 rw [hml] at kL' ⊢
 rw [hmd] at cD' ⊢
 clear hml hmd kL cD2
 obtain ⟨m1, hm1⟩ : ∃ m, m = b.length := ⟨_, rfl⟩
 obtain ⟨m2, hm2⟩ : ∃ m, m = l.length := ⟨_, rfl⟩
 obtain ⟨m3, hm3⟩ : ∃ m, m = d.length := ⟨_, rfl⟩
 rw [← hm1] at zb cv ocell hW2 cs ⊢
 rw [← hm2] at zl2 kL' ocell hW2 cs ⊢
 rw [← hm3] at zd2 cD' cS ocell hW2 cs ⊢
 clear hm1 hm2 hm3
 have p0 : 0 < dep → ∃ d', dep = d' + 1 := fun h => ⟨dep - 1, by omega⟩
 have st : ∀ W, Below W2.heap.size W2 W → W.cell? ⟨w.heap.size + 1, 0, none⟩ = some (.int .i64 (dep : Int)) ∧ W.cell? ⟨w.heap.size, 0, none⟩ = some (.int .i64 k) ∧ W.cell? ⟨w.heap.size, 1, none⟩ = some (.int .i64 n) ∧ W.cell? ⟨w.heap.size, 2, none⟩ = some (.slice A m1 c) ∧ W.cell? ⟨w.heap.size, 3, none⟩ = some (.slice AL m2 cL) ∧ W.cell? ⟨w.heap.size, 4, none⟩ = some (.slice AD m3 cD) := fun W hW =>
  ⟨(hW.cell (cell_lt dcell)).trans dcell, (hW.cell (cell_lt (ocell 0 _ rfl))).trans (ocell 0 _ rfl), (hW.cell (cell_lt (ocell 1 _ rfl))).trans (ocell 1 _ rfl), (hW.cell (cell_lt (ocell 2 _ rfl))).trans (ocell 2 _ rfl), (hW.cell (cell_lt (ocell 3 _ rfl))).trans (ocell 3 _ rfl), (hW.cell (cell_lt (ocell 4 _ rfl))).trans (ocell 4 _ rfl)⟩
 obtain ⟨s0, s1, s2, s3, s4, s5⟩ := st W2 (Below.refl _ _)
 replace st := hi_ st
 replace hb2 := hi_ hb2
 replace cv := hi_ cv
 replace kL' := hi_ kL'
 replace cD' := hi_ cD'
 replace cS := hi_ cS
 clear ocell dcell
 replace hW2 := hi_ hW2
 cases sp with
 | false =>
  clear s0
  simp only [Bool.false_and]
  go_enter Tryz.func58, Tryz.ntmps58
  go_upto_region 1 with (fail)
  rw [← hW2.out]
  go_wp2_with (go_at_call 85; (with_reducible refine (cs _).mono ?_); rintro e w1 ⟨rfl, hB1⟩; replace hB1 := hi_ hB1)
  go_ret
  exact ⟨rfl, bthen hb2.out hB1.out⟩
 | true =>
  simp only [Bool.true_and]
  obtain ⟨R, hR⟩ : ∃ R, R = (if k = 0 then true else if k = 1 then decide (0 ≤ n ∧ n ≤ 1) else if k = 2 then decide (-2147483647 ≤ n ∧ n ≤ 2147483647) else if k = 3 then decide (-214748364799999 ≤ n ∧ n ≤ 214748364799999) else if k = 9 then decide (1 ≤ n ∧ n ≤ 8388607) else if k = 4 then decide (m1 ≤ 32767) else if k = 5 then nk else if k = 6 then decide (0 < dep) && ml else if k = 7 ∨ k = 8 then decide (0 < dep) && ri && decide (m1 ≤ 16777216) && md else false) := ⟨_, rfl⟩
  rw [← hR]
  have cw := fun a b w => cos_within n a b w
  go_enter Tryz.func58, Tryz.ntmps58
  go_upto_region 1 with (fail)
  rw [← hW2.out]
  go_upto_region 3 with (go_at_call 85; (with_reducible refine (cs _).mono ?_); rintro e w1 ⟨rfl, hB1⟩; obtain ⟨t0, t1, t2, t3, t4, t5⟩ := st.out w1 hB1; have v1 := cv.out w1 hB1; have v2 := cS.out w1 hB1; have v3 := fun d' e => kL'.out d' e w1 hB1; have v4 := fun d' e W hW => cD'.out d' e W (bthen hB1 hW); have hBw := bthen hb2.out hB1; replace hBw := hi_ hBw; replace hB1 := hi_ hB1)
  clear s0 s1 s2 s3 s4 s5 cs st cv cS kL' cD'
  have kinds : k = 0 ∨ k = 1 ∨ k = 2 ∨ k = 3 ∨ k = 9 ∨ k = 4 ∨ k = 5 ∨ k = 6 ∨ (k = 7 ∨ k = 8) ∨ (k ≠ 0 ∧ k ≠ 1 ∧ k ≠ 2 ∧ k ≠ 3 ∧ k ≠ 9 ∧ k ≠ 4 ∧ k ≠ 5 ∧ k ≠ 6 ∧ k ≠ 7 ∧ k ≠ 8) := by omega
  rcases kinds with rfl | rfl | rfl | rfl | rfl | rfl | rfl | rfl | h78 | ⟨e0, e1, e2, e3, e9, e4, e5, e6, e7, e8⟩
  ·have hR2 : R = true := hR
   clear v1 v2 v3 v4 cn cw hR
   subst hR2
   go_wp2
   go_ret
   exact ⟨rfl, hBw.out⟩
  ·have hR2 : R = decide (0 ≤ n ∧ n ≤ 1) := hR
   have c1 := fun w => cw (0) 1 w
   rw [← hR2] at c1
   clear v1 v2 v3 v4 cn cw hR hR2
   go_wp2_with (go_at_call 86; (with_reducible refine (c1 _).mono ?_); rintro e w2 ⟨rfl, rfl⟩)
   go_ret
   exact ⟨rfl, hBw.out⟩
  ·have hR2 : R = decide (-2147483647 ≤ n ∧ n ≤ 2147483647) := hR
   have c1 := fun w => cw (-2147483647) 2147483647 w
   rw [← hR2] at c1
   clear v1 v2 v3 v4 cn cw hR hR2
   go_wp2_with (go_at_call 86; (with_reducible refine (c1 _).mono ?_); rintro e w2 ⟨rfl, rfl⟩)
   go_ret
   exact ⟨rfl, hBw.out⟩
  ·have hR2 : R = decide (-214748364799999 ≤ n ∧ n ≤ 214748364799999) := hR
   have c1 := fun w => cw (-214748364799999) 214748364799999 w
   rw [← hR2] at c1
   clear v1 v2 v3 v4 cn cw hR hR2
   go_wp2_with (go_at_call 86; (with_reducible refine (c1 _).mono ?_); rintro e w2 ⟨rfl, rfl⟩)
   go_ret
   exact ⟨rfl, hBw.out⟩
  ·have hR2 : R = decide (1 ≤ n ∧ n ≤ 8388607) := hR
   have c1 := fun w => cw (1) 8388607 w
   rw [← hR2] at c1
   clear v1 v2 v3 v4 cn cw hR hR2
   go_wp2_with (go_at_call 86; (with_reducible refine (c1 _).mono ?_); rintro e w2 ⟨rfl, rfl⟩)
   go_ret
   exact ⟨rfl, hBw.out⟩
  ·have hR2 : R = decide (m1 ≤ 32767) := hR
   clear v1 v2 v3 v4 cn cw hR
   by_cases hq : m1 ≤ 32767
   ·rw [decide_eq_true hq] at hR2
    subst hR2
    have q1 : decide ((m1 : Int) ≤ 32767) = true := by simp; omega
    go_wp2
    go_ret
    exact ⟨rfl, hBw.out⟩
   ·rw [decide_eq_false hq] at hR2
    subst hR2
    have q1 : decide ((m1 : Int) ≤ 32767) = false := by simp; omega
    go_wp2
    go_ret
    exact ⟨rfl, hBw.out⟩
  ·have hR2 : R = nk := hR
   clear hR
   subst hR2
   clear v2 v3 v4 cw
   go_wp2_with (go_at_call 87; (with_reducible refine (cn _).mono ?_); rintro e w2 ⟨rfl, rfl⟩)
   go_ret
   exact ⟨rfl, hBw.out⟩
  ·have hR2 : R = (decide (0 < dep) && ml) := hR
   clear v1 v2 v4 cw cn hR
   by_cases hd0 : 0 < dep
   ·obtain ⟨d', hd'⟩ := p0 hd0
    have v := v3 d' hd'
    rw [decide_eq_true hd0, Bool.true_and] at hR2
    subst hR2
    clear v3 hd' p0
    cases R
    all_goals
     go_wp2_with (go_at_call 88; (with_reducible refine v.mono ?_); rintro e w2 ⟨rfl, hB2⟩; replace hB2 := hi_ hB2)
     go_ret
     exact ⟨rfl, bthen hBw.out hB2.out⟩
   ·rw [decide_eq_false hd0, Bool.false_and] at hR2
    subst hR2
    clear v3 p0
    go_wp2
    go_ret
    exact ⟨rfl, hBw.out⟩
  ·have hR2 : R = (decide (0 < dep) && ri && decide (m1 ≤ 16777216) && md) := by rw [hR]; rcases h78 with rfl | rfl <;> rfl
   rw [decide_eq_true (by omega : m1 ≤ 16777216), Bool.and_true] at hR2
   clear v1 v3 cw cn hR
   by_cases hd0 : 0 < dep
   ·obtain ⟨d', hd'⟩ := p0 hd0
    have v := v4 d' hd'
    rw [decide_eq_true hd0, Bool.true_and] at hR2
    clear v4 hd' p0
    subst hR2
    replace v := hi_ v
    rcases h78 with rfl | rfl
    all_goals cases ri
    all_goals cases md
    all_goals
     go_wp2_with (first
      | (go_at_call 91; (with_reducible refine v2.mono ?_); rintro e w2 ⟨rfl, hB2⟩; have vv := v.out w2 hB2; have u0 := (hB2.cell (cell_lt t0)).trans t0; have u3 := (hB2.cell (cell_lt t3)).trans t3; have u5 := (hB2.cell (cell_lt t5)).trans t5; replace hB2 := hi_ hB2)
      | (go_at_call 93; (with_reducible refine vv.mono ?_); rintro e w3 ⟨rfl, hB3⟩; replace hB3 := hi_ hB3))
     go_ret
     refine ⟨rfl, ?_⟩
     first | exact bthen hBw.out hB2.out | exact bthen hBw.out (bthen hB2.out hB3.out)
   ·rw [decide_eq_false hd0, Bool.false_and, Bool.false_and] at hR2
    clear v4 p0
    subst hR2
    rcases h78 with rfl | rfl
    all_goals
     go_wp2_with (go_at_call 91; (with_reducible refine v2.mono ?_); rintro e w2 ⟨rfl, hB2⟩; have u0 := (hB2.cell (cell_lt t0)).trans t0; have u3 := (hB2.cell (cell_lt t3)).trans t3; have u5 := (hB2.cell (cell_lt t5)).trans t5; replace hB2 := hi_ hB2)
     go_ret
     exact ⟨rfl, bthen hBw.out hB2.out⟩
  ·have hR2 : R = false := by rw [hR, if_neg e0, if_neg e1, if_neg e2, if_neg e3, if_neg e9, if_neg e4, if_neg e5, if_neg e6, if_neg (fun h => h.elim e7 e8)]
   have f0 : (k == 0) = false := by simpa using e0
   have f1 : (k == 1) = false := by simpa using e1
   have f2 : (k == 2) = false := by simpa using e2
   have f3 : (k == 3) = false := by simpa using e3
   have f9 : (k == 9) = false := by simpa using e9
   have f4 : (k == 4) = false := by simpa using e4
   have f5 : (k == 5) = false := by simpa using e5
   have f6 : (k == 6) = false := by simpa using e6
   have f7 : (k == 7) = false := by simpa using e7
   have f8 : (k == 8) = false := by simpa using e8
   clear v1 v2 v3 v4 cn cw e0 e1 e2 e3 e9 e4 e5 e6 e7 e8 hR
   subst hR2
   go_wp2
   go_ret
   exact ⟨rfl, hBw.out⟩
theorem cos_mayC : ∀ dep, dep ≤ 28 → MayC dep := by
 intro dep
 induction dep with
 | zero => intro h; exact cos_may0 0 h fun d' e => by omega
 | succ d ih =>
  intro h
  refine cos_may0 (d + 1) h fun d' e => ?_
  have : d' = d := by omega
  subst this
  exact cos_inner d' (by omega) (ih (by omega))

/- Bytes of arrays, by the program. No condition. -/
theorem ob_five2 {w : World} {o : Ob} {vs : List Value} (h : ObAt w o vs) : ∃ (n : Int) (A1 A2 A3 : Option Addr) (n1 c1 n2 c2 n3 c3 : Nat), vs = [.int .i64 o.kind, .int .i64 n, .slice A1 n1 c1, .slice A2 n2 c2, .slice A3 n3 c3] := by
 cases h with
 | mk k n b l d A AL AD c cL cD gL oL gD oD vl vd => exact ⟨_, _, _, _, _, _, _, _, _, _, rfl⟩
def ShowC (N : Nat) : Prop := ∀ (o : Ob) (vs : List Value) (w : World), ObAt w o vs → o.bulk ≤ N → Tab w → Calls Tryz.prog 31 #[.agg vs.toArray] w (RB w o.show)
theorem app_bg {w : World} {ops : Array Oper} {rest : List Oper} {o : Oper} {a : Act} {Q : Exit → Act → World → Prop} (hgd : o.guard = none) (s x : Operand)
 (ho : o.op = .call { callee := .builtin .append, args := #[s, x], argTypes := #[22, 22] }) (B : Nat) (v : Value) (out : List UInt8) (hs : a.eval s = v) (hown : Own B w v out)
 (A : Option Addr) (n c : Nat) (bs : List UInt8) (hx : a.eval x = .slice A n c) (hn : n = bs.length) (hb : Byt w A bs) (hA : A = none → c = 0) (hl : out.length + bs.length ≤ 70368744177664) (hB : B ≤ w.heap.size)
 (h : ∀ v' w', Own B w' v' (out ++ bs) → Below B w w' → (∀ j, j < w.heap.size → v.ownBlock ≠ some j → w'.heap[j]? = w.heap[j]?) → wpList Tryz.prog ops Q rest (a.put o.dst v') w') : wpList Tryz.prog ops Q (o :: rest) a w := by
 obtain ⟨i0, hi, hz0, hz1, hz2⟩ := byte_info
 cases A with
 | none =>
  have hbs : bs = [] := by
   cases bs with
   | nil => rfl
   | cons y l => obtain ⟨b, o, e, _⟩ := hb.2 (by simp); cases e
  subst hbs
  have hc := hA rfl
  subst hc
  obtain rfl : n = 0 := hn
  refine wpList_append_own_none hgd s x 22 ho B 5 i0 1 Tryz.underlying22 hi v out.length (valsB out) hs hown.row hx ?_
  exact h v w (by rw [List.append_nil]; exact hown) (Below.refl _ _ |>.mono hB) (fun _ _ _ => rfl)
 | some ad =>
  refine wpList_append_own_at w hgd s x 22 ho B 5 i0 (.int .u8 0) 1 1 Tryz.underlying22 hi hz0 hz1 hz2 rfl (by decide) v out.length (valsB out) hs hown.row ad n c (valsB bs) hx (by rw [valsB_len, hn, Nat.mul_one]) hb.news (valsB_one bs) (by unfold maxLen; omega) (by omega) hB ?_
  intro v' w' h1 h2 _ h3
  refine h v' w' ⟨?_⟩ ((Below.refl _ _ |>.mono hB).grown h2 hB fun k hk => (hown.row.lt k hk).1) (fun j hj hn => h2.block j hj (fun e => hn e.symm))
  rw [List.length_append, valsB_app, ← hn]
  exact h1
theorem bulkL_take : ∀ (l : List Ob) (k : Nat), bulkL (l.take k) ≤ bulkL l
 | [], k => by simp [bulkL]
 | o :: r, 0 => by simp [bulkL]
 | o :: r, k + 1 => by have := bulkL_take r k; simp only [List.take_succ_cons, bulkL]; omega
set_option maxHeartbeats 8000000 in
set_option maxRecDepth 100000 in
theorem prt_array (N : Nat) (hN : N ≤ 1048576) (hs : ShowC N) (w : World) (htab : Tab w) (AL : Option Addr) (gL oL cL : Nat) (l : List Ob) (vl : Nat → List Value) (hA : 0 < l.length → AL = some ⟨gL, oL, none⟩) (hl : ∀ i, (hi : i < l.length) → ObAt w l[i] (vl i))
 (hlv : ∀ i, i < l.length → ∀ j, j < 5 → w.cell? ⟨gL, oL + (5 * i + j), none⟩ = (vl i)[j]?) (hbk : bulkL l ≤ N) :
 Calls Tryz.prog 59 #[.slice AL l.length cL] w (RO w (91 :: (showL true l ++ [93]))) := by
 have zl := bulkL_len l
 have hfit : ∀ o ∈ l, Fits o := fun o ho => by obtain ⟨i, hi, rfl⟩ := List.getElem_of_mem ho; exact (hl i hi).fits
 have hsl := showL_len l hfit true
 obtain ⟨m, hm⟩ : ∃ m, m = l.length := ⟨_, rfl⟩
 rw [← hm] at zl ⊢
 have zm : m ≤ 1048576 := by omega
 have hsl2 : (showL true l).length ≤ 41943040 := by omega
 have cr := row1 w ⟨#[91]⟩ (by have : (⟨#[91]⟩ : ByteArray).size = 1 := rfl; omega)
 replace hm := hi_ hm
 replace hA := hi_ hA
 replace hl := hi_ hl
 replace hlv := hi_ hlv
 replace hs := hi_ hs
 replace hfit := hi_ hfit
 replace hsl2 := hi_ hsl2
 replace htab := hi_ htab
 clear hsl
 go_enter Tryz.func59, Tryz.ntmps59
 go_wp2_with (go_at_call 34; (with_reducible refine cr.mono ?_); rintro e w1 ⟨v, rfl, hO, hB⟩; have hw1 : Below w.heap.size w w1 := bthen ((Below.refl _ _).alloc (Nat.le_refl _) _) hB; have hO1 : Own w.heap.size w1 v [91] := hO.base (by simp); replace hw1 := hi_ hw1; replace hO1 := hi_ hO1; clear hO hB)
 go_loopw [3, 4, 5, 10] (fun s3 _ _ s10 wr => ∃ k : Nat, k ≤ m ∧ s10 = .int .i64 k ∧ Own w.heap.size wr s3 (91 :: showL true (l.take k)) ∧ Below w.heap.size w wr) (fun _ _ _ s10 _ => m - (RowKit.intOf s10).toNat)
 case atStart => exact ⟨0, by omega, rfl, hO1.out, hw1.out⟩
 case round =>
  obtain ⟨k, hk, rfl, hO, hB⟩ := hrel
  have lB := hB.size
  have hlen : (91 :: showL true (l.take k)).length ≤ 41943041 := by
   have h1 := showL_len (l.take k) (fun o ho => hfit.out o (List.mem_of_mem_take ho)) true
   have h2 := bulkL_take l k
   simp only [List.length_cons]; omega
  by_cases hkm : k < m
  ·have hkl : k < l.length := by rw [← hm.out]; exact hkm
   have hAe := hA.out (by omega)
   subst hAe
   obtain ⟨o, ho⟩ : ∃ o, o = l[k] := ⟨_, rfl⟩
   have hob0 := hl.out k hkl
   have hob := hob0.kept hB
   have hcv := hlv.out k hkl
   rw [← ho] at hob hob0
   have hzo : o.bulk ≤ N := by have := bulkL_at l k hkl; rw [← ho] at this; omega
   have hfo := hob.fits
   have hsh := show_len o hfo
   obtain ⟨us, hus⟩ : ∃ us, us = vl k := ⟨_, rfl⟩
   rw [← hus] at hob hob0 hcv
   obtain ⟨en, E1, E2, E3, en1, ec1, en2, ec2, en3, ec3, hys⟩ := ob_five2 hob
   subst hys
   obtain ⟨kk, hkk⟩ : ∃ k, k = o.kind := ⟨_, rfl⟩
   rw [← hkk] at hob hob0 hcv
   have five : ∀ j u, [Value.int .i64 kk, .int .i64 en, .slice E1 en1 ec1, .slice E2 en2 ec2, .slice E3 en3 ec3][j]? = some u → wr.cell? ⟨gL, oL + k * 5 + j, none⟩ = some u := fun j u hj => by
    have h0 := hcv j (by have := (List.getElem?_eq_some_iff.1 hj).1; simpa using this)
    rw [hj] at h0
    have h1 := (hB.cell (cell_lt h0)).trans h0
    rw [show oL + (5 * k + j) = oL + k * 5 + j by omega] at h1
    exact h1
   have x0 : wr.cell? ⟨gL, oL + k * 5, none⟩ = some (.int .i64 kk) := five 0 _ rfl
   have x1 : wr.cell? ⟨gL, oL + k * 5 + 1, none⟩ = some (.int .i64 en) := five 1 _ rfl
   have x2 : wr.cell? ⟨gL, oL + k * 5 + 2, none⟩ = some (.slice E1 en1 ec1) := five 2 _ rfl
   have x3 : wr.cell? ⟨gL, oL + k * 5 + 3, none⟩ = some (.slice E2 en2 ec2) := five 3 _ rfl
   have x4 : wr.cell? ⟨gL, oL + k * 5 + 4, none⟩ = some (.slice E3 en3 ec3) := five 4 _ rfl
   have hT : 91 :: showL true (l.take (k + 1)) = (91 :: showL true (l.take k)) ++ ((if k = 0 then [] else [32]) ++ o.show) := by
    rw [List.take_succ_eq_append_getElem hkl, showL_snoc, ← ho, List.cons_append]
    by_cases h0 : k = 0
    ·subst h0; simp
    ·have hne : l.take k ≠ [] := fun h => by
      have := congrArg List.length h
      rw [List.length_take, List.length_nil] at this
      omega
     rw [if_neg (fun h => hne h.2), if_neg h0]
   have c31 : ∀ W, Below w.heap.size w W → Calls Tryz.prog 31 #[.agg #[.int .i64 kk, .int .i64 en, .slice E1 en1 ec1, .slice E2 en2 ec2, .slice E3 en3 ec3]] W (RB W o.show) := fun W hW => hs.out o _ W (hob0.kept hW) hzo (htab.out.below hW)
   clear five hcv hob hob0 hus hfo
   replace ho := hi_ ho
   replace hkk := hi_ hkk
   replace hT := hi_ hT
   replace hO := hi_ hO
   replace hB := hi_ hB
   replace c31 := hi_ c31
   replace hlen := hi_ hlen
   replace hsh := hi_ hsh
   go_upto_region 5 with (fail)
   obtain ⟨W3, hW3⟩ : ∃ W, W = wr.alloc (.cells #[.int .i64 kk, .int .i64 en, .slice E1 en1 ec1, .slice E2 en2 ec2, .slice E3 en3 ec3] 26) := ⟨_, rfl⟩
   have hb3 : Below wr.heap.size wr W3 := by rw [hW3]; exact (Below.refl _ _).alloc (Nat.le_refl _) _
   have z3 : W3.heap.size = wr.heap.size + 1 := by rw [hW3, World.size_alloc]
   have ecell : ∀ i v, #[Value.int .i64 kk, .int .i64 en, .slice E1 en1 ec1, .slice E2 en2 ec2, .slice E3 en3 ec3][i]? = some v → W3.cell? ⟨wr.heap.size, i, none⟩ = some v := by
    intro i v hv
    have h0 := alloc_cell (w := wr) (vs := #[Value.int .i64 kk, .int .i64 en, .slice E1 en1 ec1, .slice E2 en2 ec2, .slice E3 en3 ec3]) (e := 26) (i := i)
    rw [Nat.zero_add, hv] at h0
    rw [hW3]; exact h0
   rw [← hW3]
   have ev : ∀ W, Below W3.heap.size W3 W → W.cell? ⟨wr.heap.size, 0, none⟩ = some (.int .i64 kk) ∧ W.cell? ⟨wr.heap.size, 1, none⟩ = some (.int .i64 en) ∧ W.cell? ⟨wr.heap.size, 2, none⟩ = some (.slice E1 en1 ec1) ∧ W.cell? ⟨wr.heap.size, 3, none⟩ = some (.slice E2 en2 ec2) ∧ W.cell? ⟨wr.heap.size, 4, none⟩ = some (.slice E3 en3 ec3) := fun W hW =>
    ⟨(hW.cell (cell_lt (ecell 0 _ rfl))).trans (ecell 0 _ rfl), (hW.cell (cell_lt (ecell 1 _ rfl))).trans (ecell 1 _ rfl), (hW.cell (cell_lt (ecell 2 _ rfl))).trans (ecell 2 _ rfl), (hW.cell (cell_lt (ecell 3 _ rfl))).trans (ecell 3 _ rfl), (hW.cell (cell_lt (ecell 4 _ rfl))).trans (ecell 4 _ rfl)⟩
   clear x0 x1 x2 x3 x4 ecell
   replace hW3 := hi_ hW3
   by_cases h0 : k = 0
   ·have hT2 : 91 :: showL true (l.take (k + 1)) = (91 :: showL true (l.take k)) ++ o.show := by rw [hT.out, if_pos h0, List.nil_append]
    obtain ⟨f0, f1, f2, f3, f4⟩ := ev W3 (Below.refl _ _)
    have c := c31.out W3 (hB.out.trans (hb3.mono lB))
    have hb3' := hi_ hb3
    clear ev hb3
    replace hT2 := hi_ hT2
    subst h0
    go_wp2_with (first
     | (go_at_call 31; (with_reducible refine c.mono ?_); rintro e w4 ⟨A4, c4, rfl, hb4, hA4, hB4⟩; have hBw4 : Below wr.heap.size wr w4 := bthen hb3'.out hB4; have hz4 := hBw4.size; replace hBw4 := hi_ hBw4; replace hb4 := hi_ hb4; clear hB4)
     | (at_builtin; refine app_b rfl _ _ rfl w.heap.size _ _ rfl (hO.out.below hBw4.out) A4 _ c4 _ rfl rfl hb4.out hA4 (by have q1 := hlen.out; have q2 := hsh.out; omega) (by omega) ?_; intro v' w5 hO5 hB5; replace hO5 := hi_ hO5; replace hB5 := hi_ hB5))
    go_roundw
    case rel => exact ⟨0 + 1, by omega, by go_num, by rw [hT2.out]; exact hO5.out, (hB.out.trans (hBw4.out.mono lB)).trans hB5.out⟩
    case measure => simp [RowKit.intOf]; omega
   ·have hT2 : 91 :: showL true (l.take (k + 1)) = ((91 :: showL true (l.take k)) ++ [32]) ++ o.show := by rw [hT.out, if_neg h0, List.append_assoc]
    have hkp : decide ((0 : Int) < (k : Int)) = true := by simp; omega
    have hown := hO.out.row
    have ng : ∀ j, wr.heap.size ≤ j → u3.ownBlock ≠ some j := fun j hj e => by have := (hown.lt j e).2; omega
    have hO32 := hO.out.below (bthen hb3 ((Below.refl _ _).alloc (Nat.le_refl _) (.cells #[.int .u8 ((32 : UInt8).toNat : Int)] 5)))
    have hWa : Below w.heap.size w (W3.alloc (.cells #[.int .u8 ((32 : UInt8).toNat : Int)] 5)) := hB.out.trans ((bthen hb3 ((Below.refl _ _).alloc (Nat.le_refl _) _)).mono lB)
    replace hWa := hi_ hWa
    have hb3' := hi_ hb3
    replace hT2 := hi_ hT2
    obtain ⟨f0, f1, f2, f3, f4⟩ := ev W3 (Below.refl _ _)
    have fl : ∀ i v, W3.cell? ⟨wr.heap.size, i, none⟩ = some v → ∀ W' : World, (∀ j, j < (W3.alloc (.cells #[.int .u8 ((32 : UInt8).toNat : Int)] 5)).heap.size → u3.ownBlock ≠ some j → W'.heap[j]? = (W3.alloc (.cells #[.int .u8 ((32 : UInt8).toNat : Int)] 5)).heap[j]?) → W'.cell? ⟨wr.heap.size, i, none⟩ = some v := fun i v h W' hg => by
     have h1 := hg wr.heap.size (by rw [World.size_alloc]; omega) (ng _ (Nat.le_refl _))
     rw [World.cell?_of_block h1]
     exact (((Below.refl _ _).alloc (Nat.le_refl _) _ : Below W3.heap.size W3 (W3.alloc (.cells #[.int .u8 ((32 : UInt8).toNat : Int)] 5))).cell (p := ⟨wr.heap.size, i, none⟩) (by show wr.heap.size < _; omega)).trans h
    replace fl := hi_ fl
    replace hO32 := hi_ hO32
    have hown := hi_ hown
    replace ng := hi_ ng
    clear hb3 ev
    go_wp2_with (first
     | (at_builtin; refine app_bg rfl _ _ rfl w.heap.size _ _ rfl hO32.out (some ⟨wr.heap.size + 1, 0, none⟩) 1 1 [32] rfl rfl (by rw [← z3]; exact byt_new1 W3 32 5) (fun e => (by cases e)) (by have q1 := hlen.out; simp only [List.length_cons, List.length_nil] at q1 ⊢; omega) (by rw [World.size_alloc]; omega) ?_; intro v' w5 hO5 hB5 hg5; have g0 := fl.out 0 _ f0 w5 hg5; have g1 := fl.out 1 _ f1 w5 hg5; have g2 := fl.out 2 _ f2 w5 hg5; have g3 := fl.out 3 _ f3 w5 hg5; have g4 := fl.out 4 _ f4 w5 hg5; have hw5 : Below w.heap.size w w5 := hWa.out.trans hB5; have c := c31.out w5 hw5; have hz5 := hw5.size; replace hO5 := hi_ hO5; replace hB5 := hi_ hB5; replace hw5 := hi_ hw5; replace hg5 := hi_ hg5)
     | (go_at_call 31; (with_reducible refine c.mono ?_); rintro e w4 ⟨A4, c4, rfl, hb4, hA4, hB4⟩; have hw4 := bthen hw5.out hB4; have hz4 := hw4.size; have hO4 := hO5.out.below hB4; replace hw4 := hi_ hw4; replace hb4 := hi_ hb4; replace hO4 := hi_ hO4; clear hB4)
     | (at_builtin; refine app_b rfl _ _ rfl w.heap.size _ _ rfl hO4.out A4 _ c4 _ rfl rfl hb4.out hA4 (by have q1 := hlen.out; have q2 := hsh.out; rw [List.length_append]; simp only [List.length_cons, List.length_nil] at q1 ⊢; omega) (by omega) ?_; intro v'' w6 hO6 hB6; replace hO6 := hi_ hO6; replace hB6 := hi_ hB6))
    go_roundw
    case rel => exact ⟨k + 1, by omega, by go_num, by rw [hT2.out]; exact hO6.out, hw4.out.trans hB6.out⟩
    case measure => simp [RowKit.intOf]; omega
  ·obtain rfl : k = m := by omega
   have hT : l.take k = l := by rw [hm.out, List.take_length]
   rw [hT] at hO
   have hO2 := hi_ hO
   have hB2 := hi_ hB
   replace hT := hi_ hT
   clear hO hB hlen
   go_wp2_with (at_builtin; refine app_b rfl _ _ rfl w.heap.size _ _ rfl (hO2.out.below ((Below.refl _ _).alloc (Nat.le_refl _) _)) (some ⟨wr.heap.size, 0, none⟩) 1 1 [93] rfl rfl (byt_new1 wr 93 5) (fun e => (by cases e)) (by have q := hsl2.out; simp only [List.length_cons, List.length_nil]; omega) (by rw [World.size_alloc]; omega) ?_; intro v' w2 hO3 hB3; replace hO3 := hi_ hO3; replace hB3 := hi_ hB3)
   go_ret
   exact ⟨_, rfl, by have := hO3.out; simpa using this, (hB2.out.alloc lB _).trans hB3.out⟩

/- Bytes of an object, by the program: one step of the induction. No condition. -/
def DictC (N : Nat) : Prop := ∀ (w : World) (AD : Option Addr) (gD oD cD : Nat) (d : List (List UInt8 × Ob)) (vd : Nat → List Value), Tab w → (0 < d.length → AD = some ⟨gD, oD, none⟩) → (∀ i, (hi : i < d.length) → ObAt w d[i].2 (vd i)) → (∀ i, (hi : i < d.length) → d[i].1.length ≤ maxLen ∧ w.cell? ⟨gD, oD + 6 * i, none⟩ = some (strV d[i].1)) → (∀ i, i < d.length → ∀ j, j < 5 → w.cell? ⟨gD, oD + (6 * i + 1 + j), none⟩ = (vd i)[j]?) → bulkD d ≤ N →
 Calls Tryz.prog 46 #[.slice AD d.length cD] w (RB w (60 :: 60 :: (showD d ++ [62, 62])))
theorem RB.up {w w1 w' : World} {bs : List UInt8} {e : Ending} (h : RB w1 bs e w') (hb : Below w.heap.size w w1) : RB w bs e w' := by
 obtain ⟨A, c, rfl, h1, h2, h3⟩ := h
 exact ⟨A, c, rfl, h1, h2, bthen hb h3⟩
theorem row1b (W : World) (l : List UInt8) (hl : l.length ≤ 1000000000) : Calls Tryz.prog 34 #[.slice (some ⟨W.heap.size, 0, none⟩) 1 1] (W.alloc (.cells #[str l] 9)) (RB W l) := by
 have h := row1 W ⟨l.toArray⟩ (by simpa [ByteArray.size] using hl)
 refine h.mono fun e w' hr => ?_
 have h2 := hr.rb (by simp; unfold maxLen; omega)
 exact RB.up (by simpa using h2) ((Below.refl _ _).alloc (Nat.le_refl _) _)
theorem row2b (W : World) (l r : List UInt8) (hl : l.length + r.length ≤ 1000000000) : Calls Tryz.prog 34 #[.slice (some ⟨W.heap.size, 0, none⟩) 2 2] (W.alloc (.cells #[str l, str r] 9)) (RB W (l ++ r)) := by
 have h := row2 W ⟨l.toArray⟩ ⟨r.toArray⟩ (by simpa [ByteArray.size] using hl)
 refine h.mono fun e w' hr => ?_
 have h2 := hr.rb (by simp; unfold maxLen; omega)
 exact RB.up (by simpa using h2) ((Below.refl _ _).alloc (Nat.le_refl _) _)
set_option maxHeartbeats 8000000 in
set_option maxRecDepth 100000 in
theorem prt_show (N : Nat) (hN : N + 1 ≤ 1048576) (hs : ShowC N) (hd : DictC N) : ShowC (N + 1) := by
 intro o vs w hob hbk htab
 have hsh := show_len o hob.fits
 cases hob with
 | mk k n b l d A AL AD c cL cD gL oL gD oD vl vd h1 h2 h3 h4 h5 h6 h7 h8 h9 h10 h11 h12 h13 h14 h15 h16 h17 h18 =>
 obtain ⟨W1, hW1⟩ : ∃ W, W = w.alloc (.cells #[.int .i64 k, .int .i64 n, .slice A b.length c, .slice AL l.length cL, .slice AD d.length cD] 26) := ⟨_, rfl⟩
 have hb1 : Below w.heap.size w W1 := by rw [hW1]; exact (Below.refl _ _).alloc (Nat.le_refl _) _
 have hup : ∀ bs e w', RB W1 bs e w' → RB w bs e w' := fun bs e w' h => h.up hb1
 have htab1 := htab.below hb1
 have hlen : ∀ S : List UInt8, S = (Ob.mk k n b l d).show → S.length ≤ 41943040 := fun S hS => by subst hS; omega
 have hlen2 : b.length + bulkL l + bulkD d ≤ N := by simp only [Ob.bulk] at hbk; omega
 clear hsh
 have ecell : ∀ i v, #[Value.int .i64 k, .int .i64 n, .slice A b.length c, .slice AL l.length cL, .slice AD d.length cD][i]? = some v → W1.cell? ⟨w.heap.size, i, none⟩ = some v := by
  intro i v hv
  have h0 := alloc_cell (w := w) (vs := #[Value.int .i64 k, .int .i64 n, .slice A b.length c, .slice AL l.length cL, .slice AD d.length cD]) (e := 26) (i := i)
  rw [Nat.zero_add, hv] at h0
  rw [hW1]; exact h0
 have x0 : W1.cell? ⟨w.heap.size, 0, none⟩ = some (.int .i64 k) := ecell 0 _ rfl
 have x1 : W1.cell? ⟨w.heap.size, 1, none⟩ = some (.int .i64 n) := ecell 1 _ rfl
 have x2 : W1.cell? ⟨w.heap.size, 2, none⟩ = some (.slice A b.length c) := ecell 2 _ rfl
 have x3 : W1.cell? ⟨w.heap.size, 3, none⟩ = some (.slice AL l.length cL) := ecell 3 _ rfl
 have x4 : W1.cell? ⟨w.heap.size, 4, none⟩ = some (.slice AD d.length cD) := ecell 4 _ rfl
 have cA := (prt_array N (by omega) hs W1 htab1 AL gL oL cL l vl h12 (fun i hi => (h13 i hi).kept hb1) (fun i hi j hj => by
  have h0 := h14 i hi j hj
  obtain ⟨u, hu⟩ : ∃ u, (vl i)[j]? = some u := ⟨_, List.getElem?_eq_getElem (by rw [(h13 i hi).five]; exact hj)⟩
  rw [hu] at h0 ⊢
  exact (hb1.cell (cell_lt h0)).trans h0) (by omega))
 have cD := (hd W1 AD gD oD cD d vd htab1 h15 (fun i hi => (h16 i hi).kept hb1) (fun i hi => ⟨(h17 i hi).1, (hb1.cell (cell_lt (h17 i hi).2)).trans (h17 i hi).2⟩) (fun i hi j hj => by
  have h0 := h18 i hi j hj
  obtain ⟨u, hu⟩ : ∃ u, (vd i)[j]? = some u := ⟨_, List.getElem?_eq_getElem (by rw [(h16 i hi).five]; exact hj)⟩
  rw [hu] at h0 ⊢
  exact (hb1.cell (cell_lt h0)).trans h0) (by omega))
 have hb5 := h5.below hb1
 have cT := prt_Text A c b W1 hb5 (by omega)
 have cN := prt_Name (bytes b) W1 (by rw [bytes_size]; omega)
 rw [bytes_list] at cN
 have cv := conv_any W1 A c b hb5
 have cI := fixed_Text_whole n ⟨h3, h4⟩ W1 htab1
 have cF := fixed_Text n ⟨h3, h4⟩ W1 htab1
 have e41 : 41943040 ≤ maxLen := by unfold maxLen; omega
 replace hs := hi_ hs
 replace hd := hi_ hd
 replace hup := hi_ hup
 replace hlen := hi_ hlen
 replace htab := hi_ htab
 replace htab1 := hi_ htab1
 replace hb1 := hi_ hb1
 clear h1 h2 h3 h4 h5 h6 h7 h8 h9 h10 h11 h12 h13 h14 h15 h16 h17 h18 hb5 ecell hbk hlen2
 go_enter Tryz.func31, Tryz.ntmps31
 go_upto_region 1 with (fail)
 rw [← hW1]
 replace hW1 := hi_ hW1
 by_cases k1 : k = 1
 ·subst k1
  by_cases n1 : n = 1
  ·subst n1
   have hS : (Ob.mk 1 1 b l d).show = [116, 114, 117, 101] := by simp [Ob.show]
   replace hS := hi_ hS
   clear cA cD cT cN cv cI cF
   have cr : Calls Tryz.prog 34 #[.slice (some ⟨W1.heap.size, 0, none⟩) 1 1] (W1.alloc (.cells #[.string ⟨#[116, 114, 117, 101]⟩] 9)) (RB W1 [116, 114, 117, 101]) := row1b W1 _ (by decide)
   go_wp2_with (go_at_call 34; (with_reducible refine cr.mono ?_); rintro e w2 ⟨A2, c2, rfl, hb2, hA2, hB2⟩; replace hb2 := hi_ hb2; replace hB2 := hi_ hB2; replace hA2 := hi_ hA2)
   go_ret
   exact hup.out _ _ _ (by rw [hS.out]; exact ⟨A2, c2, rfl, hb2.out, hA2.out, hB2.out⟩)
  ·have hS : (Ob.mk 1 n b l d).show = [102, 97, 108, 115, 101] := by simp [Ob.show, n1]
   replace hS := hi_ hS
   have en : (n == 1) = false := by simpa using n1
   clear n1
   clear cA cD cT cN cv cI cF
   have cr : Calls Tryz.prog 34 #[.slice (some ⟨W1.heap.size, 0, none⟩) 1 1] (W1.alloc (.cells #[.string ⟨#[102, 97, 108, 115, 101]⟩] 9)) (RB W1 [102, 97, 108, 115, 101]) := row1b W1 _ (by decide)
   go_wp2_with (go_at_call 34; (with_reducible refine cr.mono ?_); rintro e w2 ⟨A2, c2, rfl, hb2, hA2, hB2⟩; replace hb2 := hi_ hb2; replace hB2 := hi_ hB2; replace hA2 := hi_ hA2)
   go_ret
   exact hup.out _ _ _ (by rw [hS.out]; exact ⟨A2, c2, rfl, hb2.out, hA2.out, hB2.out⟩)
 by_cases k2 : k = 2
 ·subst k2
  have hS : (Ob.mk 2 n b l d).show = textL n true := (by simp [Ob.show] : _ = numT n true).trans rfl
  obtain ⟨S, hSe⟩ : ∃ S, S = textL n true := ⟨_, rfl⟩
  rw [← hSe] at hS
  have hz := hlen.out _ hS.symm
  replace hS := hi_ hS
  obtain ⟨T, hT⟩ : ∃ T : ByteArray, T = ⟨(textL n true).toArray⟩ := ⟨_, rfl⟩
  have c4 : Calls Tryz.prog 41 #[.int .i64 n, .bool true] W1 fun e w' => e = .returned (.string T) ∧ Below W1.heap.size W1 w' := by rw [hT]; exact cI
  have r3 : ∀ W : World, Calls Tryz.prog 34 #[.slice (some ⟨W.heap.size, 0, none⟩) 1 1] (W.alloc (.cells #[.string T] 9)) (RB W S) := fun W => by rw [hT, hSe]; exact row1b W (textL n true) (by rw [← hSe]; omega)
  replace hT := hi_ hT
  replace hSe := hi_ hSe
  clear cA cD cT cN cv cF cI
  go_wp2_with (first
   | (go_at_call 41; (with_reducible refine c4.mono ?_); rintro e w1 ⟨rfl, hB1⟩; replace hB1 := hi_ hB1)
   | (go_at_call 34; (with_reducible refine (r3 w1).mono ?_); rintro e w2 ⟨A2, c2, rfl, hb2, hA2, hB2⟩; replace hb2 := hi_ hb2; replace hB2 := hi_ hB2; replace hA2 := hi_ hA2)
   | fail)
  go_ret
  exact hup.out _ _ _ (by rw [hS.out]; exact RB.up ⟨A2, c2, rfl, hb2.out, hA2.out, hB2.out⟩ hB1.out)
 by_cases k3 : k = 3
 ·subst k3
  have hS : (Ob.mk 3 n b l d).show = textL n false := (by simp [Ob.show] : _ = numT n false).trans rfl
  obtain ⟨S, hSe⟩ : ∃ S, S = textL n false := ⟨_, rfl⟩
  rw [← hSe] at hS
  have hz := hlen.out _ hS.symm
  replace hS := hi_ hS
  obtain ⟨T, hT⟩ : ∃ T : ByteArray, T = ⟨(textL n false).toArray⟩ := ⟨_, rfl⟩
  have c4 : Calls Tryz.prog 41 #[.int .i64 n, .bool false] W1 fun e w' => e = .returned (.string T) ∧ Below W1.heap.size W1 w' := by rw [hT]; exact cF
  have r3 : ∀ W : World, Calls Tryz.prog 34 #[.slice (some ⟨W.heap.size, 0, none⟩) 1 1] (W.alloc (.cells #[.string T] 9)) (RB W S) := fun W => by rw [hT, hSe]; exact row1b W (textL n false) (by rw [← hSe]; omega)
  replace hT := hi_ hT
  replace hSe := hi_ hSe
  clear cA cD cT cN cv cI cF
  go_wp2_with (first
   | (go_at_call 41; (with_reducible refine c4.mono ?_); rintro e w1 ⟨rfl, hB1⟩; replace hB1 := hi_ hB1)
   | (go_at_call 34; (with_reducible refine (r3 w1).mono ?_); rintro e w2 ⟨A2, c2, rfl, hb2, hA2, hB2⟩; replace hb2 := hi_ hb2; replace hB2 := hi_ hB2; replace hA2 := hi_ hA2)
   | fail)
  go_ret
  exact hup.out _ _ _ (by rw [hS.out]; exact RB.up ⟨A2, c2, rfl, hb2.out, hA2.out, hB2.out⟩ hB1.out)
 by_cases k4 : k = 4
 ·subst k4
  have hS : (Ob.mk 4 n b l d).show = textT b := by simp [Ob.show]
  obtain ⟨S, hSe⟩ : ∃ S, S = textT b := ⟨_, rfl⟩
  rw [← hSe] at hS cT
  have hz := hlen.out _ hS.symm
  replace hSe := hi_ hSe
  replace hS := hi_ hS
  clear cA cD cN cv cI cF
  go_wp2_with (first
   | (go_at_call 14; (with_reducible refine cT.mono ?_); intro e w1 hr; replace hr := hr.rb (by omega); obtain ⟨A2, c2, rfl, hb2, hA2, hB2⟩ := hr; replace hb2 := hi_ hb2; replace hB2 := hi_ hB2; replace hA2 := hi_ hA2)
   | fail)
  go_ret
  exact hup.out _ _ _ (by rw [hS.out]; exact ⟨A2, c2, rfl, hb2.out, hA2.out, hB2.out⟩)
 by_cases k5 : k = 5
 ·subst k5
  have hS : (Ob.mk 5 n b l d).show = nameT b := by simp [Ob.show]
  obtain ⟨S, hSe⟩ : ∃ S, S = nameT b := ⟨_, rfl⟩
  rw [← hSe] at hS cN
  have hz := hlen.out _ hS.symm
  replace hSe := hi_ hSe
  replace hS := hi_ hS
  clear cA cD cT cI cF
  go_wp2_with (first
   | (go_at_call 12; (with_reducible refine cN.mono ?_); intro e w1 hr; replace hr := hr.rb (by omega); obtain ⟨A2, c2, rfl, hb2, hA2, hB2⟩ := hr; replace hb2 := hi_ hb2; replace hB2 := hi_ hB2; replace hA2 := hi_ hA2)
   | fail)
  go_ret
  exact hup.out _ _ _ (by rw [hS.out]; exact ⟨A2, c2, rfl, hb2.out, hA2.out, hB2.out⟩)
 by_cases k9 : k = 9
 ·subst k9
  have hS : (Ob.mk 9 n b l d).show = textL n true ++ [32, 48, 32, 82] := (by simp [Ob.show] : _ = numT n true ++ [32, 48, 32, 82]).trans rfl
  obtain ⟨S, hSe⟩ : ∃ S, S = textL n true ++ [32, 48, 32, 82] := ⟨_, rfl⟩
  rw [← hSe] at hS
  have hz := hlen.out _ hS.symm
  replace hS := hi_ hS
  obtain ⟨T, hT⟩ : ∃ T : ByteArray, T = ⟨(textL n true).toArray⟩ := ⟨_, rfl⟩
  have c4 : Calls Tryz.prog 41 #[.int .i64 n, .bool true] W1 fun e w' => e = .returned (.string T) ∧ Below W1.heap.size W1 w' := by rw [hT]; exact cI
  have r3 : ∀ W : World, Calls Tryz.prog 34 #[.slice (some ⟨W.heap.size, 0, none⟩) 2 2] (W.alloc (.cells #[.string T, .string ⟨#[32, 48, 32, 82]⟩] 9)) (RB W S) := fun W => by rw [hT, hSe]; exact row2b W (textL n true) [32, 48, 32, 82] (by rw [hSe, List.length_append] at hz; simp only [List.length_cons, List.length_nil] at hz ⊢; omega)
  replace hT := hi_ hT
  replace hSe := hi_ hSe
  clear cA cD cT cN cv cF cI
  go_wp2_with (first
   | (go_at_call 41; (with_reducible refine c4.mono ?_); rintro e w1 ⟨rfl, hB1⟩; replace hB1 := hi_ hB1)
   | (go_at_call 34; (with_reducible refine (r3 w1).mono ?_); rintro e w2 ⟨A2, c2, rfl, hb2, hA2, hB2⟩; replace hb2 := hi_ hb2; replace hB2 := hi_ hB2; replace hA2 := hi_ hA2)
   | fail)
  go_ret
  exact hup.out _ _ _ (by rw [hS.out]; exact RB.up ⟨A2, c2, rfl, hb2.out, hA2.out, hB2.out⟩ hB1.out)
 by_cases k6 : k = 6
 ·subst k6
  have hS : (Ob.mk 6 n b l d).show = 91 :: (showL true l ++ [93]) := by simp [Ob.show]
  obtain ⟨S, hSe⟩ : ∃ S, S = 91 :: (showL true l ++ [93]) := ⟨_, rfl⟩
  rw [← hSe] at hS cA
  have hz := hlen.out _ hS.symm
  replace hSe := hi_ hSe
  replace hS := hi_ hS
  clear cD cT cN cv cI cF
  go_wp2_with (first
   | (go_at_call 59; (with_reducible refine cA.mono ?_); intro e w1 hr; replace hr := hr.rb (by omega); obtain ⟨A2, c2, rfl, hb2, hA2, hB2⟩ := hr; replace hb2 := hi_ hb2; replace hB2 := hi_ hB2; replace hA2 := hi_ hA2)
   | fail)
  go_ret
  exact hup.out _ _ _ (by rw [hS.out]; exact ⟨A2, c2, rfl, hb2.out, hA2.out, hB2.out⟩)
 by_cases k7 : k = 7
 ·subst k7
  have hS : (Ob.mk 7 n b l d).show = 60 :: 60 :: (showD d ++ [62, 62]) := by simp [Ob.show]
  obtain ⟨S, hSe⟩ : ∃ S, S = 60 :: 60 :: (showD d ++ [62, 62]) := ⟨_, rfl⟩
  rw [← hSe] at hS cD
  have hz := hlen.out _ hS.symm
  replace hSe := hi_ hSe
  replace hS := hi_ hS
  clear cA cT cN cv cI cF
  go_wp2_with (first
   | (go_at_call 46; (with_reducible refine cD.mono ?_); rintro e w1 ⟨A2, c2, rfl, hb2, hA2, hB2⟩; replace hb2 := hi_ hb2; replace hB2 := hi_ hB2; replace hA2 := hi_ hA2)
   | fail)
  go_ret
  exact hup.out _ _ _ (by rw [hS.out]; exact ⟨A2, c2, rfl, hb2.out, hA2.out, hB2.out⟩)
 by_cases k8 : k = 8
 ·subst k8
  have hS : (Ob.mk 8 n b l d).show = 60 :: 60 :: (showD d ++ [62, 62]) := by simp [Ob.show]
  obtain ⟨S, hSe⟩ : ∃ S, S = 60 :: 60 :: (showD d ++ [62, 62]) := ⟨_, rfl⟩
  rw [← hSe] at hS cD
  have hz := hlen.out _ hS.symm
  replace hSe := hi_ hSe
  replace hS := hi_ hS
  clear cA cT cN cv cI cF
  go_wp2_with (first
   | (go_at_call 46; (with_reducible refine cD.mono ?_); rintro e w1 ⟨A2, c2, rfl, hb2, hA2, hB2⟩; replace hb2 := hi_ hb2; replace hB2 := hi_ hB2; replace hA2 := hi_ hA2)
   | fail)
  go_ret
  exact hup.out _ _ _ (by rw [hS.out]; exact ⟨A2, c2, rfl, hb2.out, hA2.out, hB2.out⟩)
 have hS : (Ob.mk k n b l d).show = [110, 117, 108, 108] := by simp [Ob.show, k1, k2, k3, k4, k5, k6, k7, k8, k9]
 replace hS := hi_ hS
 have f1 : (k == 1) = false := by simpa using k1
 have f2 : (k == 2) = false := by simpa using k2
 have f3 : (k == 3) = false := by simpa using k3
 have f4 : (k == 4) = false := by simpa using k4
 have f5 : (k == 5) = false := by simpa using k5
 have f6 : (k == 6) = false := by simpa using k6
 have f7 : (k == 7) = false := by simpa using k7
 have f8 : (k == 8) = false := by simpa using k8
 have f9 : (k == 9) = false := by simpa using k9
 clear k1 k2 k3 k4 k5 k6 k7 k8 k9 cA cD cT cN cv cI cF
 have cr : Calls Tryz.prog 34 #[.slice (some ⟨W1.heap.size, 0, none⟩) 1 1] (W1.alloc (.cells #[.string ⟨#[110, 117, 108, 108]⟩] 9)) (RB W1 [110, 117, 108, 108]) := row1b W1 _ (by decide)
 go_wp2_with (go_at_call 34; (with_reducible refine cr.mono ?_); rintro e w2 ⟨A2, c2, rfl, hb2, hA2, hB2⟩; replace hb2 := hi_ hb2; replace hB2 := hi_ hB2; replace hA2 := hi_ hA2)
 go_ret
 exact hup.out _ _ _ (by rw [hS.out]; exact ⟨A2, c2, rfl, hb2.out, hA2.out, hB2.out⟩)

/- Parts as one: cursor.Of. No condition. -/
theorem addr_add (b o i : Nat) : (⟨b, o, none⟩ : Addr).add i = ⟨b, o + i, none⟩ := by simp [Addr.add]
theorem byt_holds {w : World} {A : Option Addr} {l : List UInt8} (h : Byt w A l) (c : Nat) : Lib.HoldsBytes w (.slice A l.length c) l := by
 refine ⟨A, c, rfl, ?_, ?_⟩
 ·rintro rfl
  cases l with
  | nil => rfl
  | cons x r => obtain ⟨b, o, e, _⟩ := h.2 (by simp); cases e
 ·rintro a rfl i x hx
  obtain ⟨hi, rfl⟩ := List.getElem?_eq_some_iff.1 hx
  obtain ⟨b, o, e, hc⟩ := h.2 (by omega)
  cases e
  rw [addr_add]
  exact hc i hi
theorem fresh_byt {B : Nat} {w : World} {v : Value} {l : List UInt8} (h : Lib.FreshBytes B w v l) : ∃ A c, v = .slice A l.length c ∧ Byt w A l ∧ (A = none → c = 0) := by
 obtain ⟨g, cap, zs, rfl, hB, hl, hm, hz, hr, hb, hc, _⟩ := h
 refine ⟨_, _, rfl, ⟨by omega, fun _ => ⟨g, 0, rfl, fun i hi => ?_⟩⟩, fun e => (by cases e)⟩
 have h0 := hc i (by omega)
 rw [Nat.zero_add, h0]
 have hzi : i < zs.length := by omega
 have he : l[i]? = some (zs[i].toNat.toUInt8) := by
  have h1 := congrArg (fun L => L[i]?) hb
  simp only [Lib.bytesOf, List.getElem?_map, List.getElem?_take] at h1
  rw [if_pos hi, List.getElem?_eq_getElem hzi] at h1
  exact h1.symm
 rw [List.getElem?_eq_getElem hi] at he
 injection he with he
 obtain ⟨q1, q2⟩ := hr zs[i] (List.getElem_mem hzi)
 rw [he, List.getD_eq_getElem?_getD, List.getElem?_eq_getElem hzi]
 have : (zs[i].toNat.toUInt8).toNat = zs[i].toNat := by
  show zs[i].toNat % 256 = _
  omega
 rw [this]
 simp only [Option.getD_some]
 congr 2
 omega
theorem join_flat (ls : List (List UInt8)) : Lib.join ls [] = ls.flatten := by
 cases ls with
 | nil => rfl
 | cons x r => rw [Lib.join_cons]; simp [Lib.joinTail]
theorem cur_Of (w : World) (g c n : Nat) (ls : List (List UInt8)) (vs : List Value) (hP : Lib.PartsAt w ⟨g, 0, none⟩ vs ls) (hn : ls.length = n) (h2 : 2 ≤ n) (hc : n ≤ c) (hn2 : n ≤ 100) (hl : Lib.lens ls ≤ 70368744177664) :
 Calls Tryz.prog 42 #[.slice (some ⟨g, 0, none⟩) n c] w (RB w ls.flatten) := by
 have cj := Tryz.bytes_Join_many g 0 n c vs ls (.slice none 0 0) [] w hn h2 hP hc ⟨none, 0, rfl, fun _ => rfl, fun a e => (by cases e)⟩ (by omega) (by simp; omega)
 rw [join_flat] at cj
 clear hP
 go_enter Tryz.func42, Tryz.ntmps42
 go_wp2_with (go_at_call 71; (with_reducible refine cj.mono ?_); rintro e w1 ⟨v, rfl, hF, hB⟩; replace hF := hi_ hF; replace hB := hi_ hB)
 go_ret
 obtain ⟨A, c', rfl, h3, h4⟩ := fresh_byt hF.out
 exact ⟨A, c', rfl, h3, h4, hB.out⟩
theorem cur_Of2 (W : World) (A1 A2 : Option Addr) (c1 c2 : Nat) (l1 l2 : List UInt8) (h1 : Byt W A1 l1) (h2 : Byt W A2 l2) (hl : l1.length + l2.length ≤ 1000000000) :
 Calls Tryz.prog 42 #[.slice (some ⟨W.heap.size, 0, none⟩) 2 2] (W.alloc (.cells #[.slice A1 l1.length c1, .slice A2 l2.length c2] 22)) (RB (W.alloc (.cells #[.slice A1 l1.length c1, .slice A2 l2.length c2] 22)) (l1 ++ l2)) := by
 have hb : Below W.heap.size W (W.alloc (.cells #[.slice A1 l1.length c1, .slice A2 l2.length c2] 22)) := (Below.refl _ _).alloc (Nat.le_refl _) _
 have h := cur_Of (W.alloc (.cells #[.slice A1 l1.length c1, .slice A2 l2.length c2] 22)) W.heap.size 2 2 [l1, l2] [.slice A1 l1.length c1, .slice A2 l2.length c2] ⟨rfl, fun i v hv => by
  have h0 := alloc_cell (w := W) (vs := #[.slice A1 l1.length c1, .slice A2 l2.length c2]) (e := 22) (i := i)
  rw [addr_add]
  refine h0.trans ?_
  rw [← hv]
  match i with
  | 0 => rfl
  | 1 => rfl
  | k + 2 => rfl, fun i v l hv hl => by
  match i with
  | 0 => cases hv; cases hl; exact byt_holds (h1.below hb) c1
  | 1 => cases hv; cases hl; exact byt_holds (h2.below hb) c2
  | k + 2 => cases hv⟩ rfl (by omega) (by omega) (by omega) (by simp [Lib.lens]; omega)
 simpa using h
theorem cur_Of4 (W : World) (A1 A2 A3 A4 : Option Addr) (c1 c2 c3 c4 : Nat) (l1 l2 l3 l4 : List UInt8) (h1 : Byt W A1 l1) (h2 : Byt W A2 l2) (h3 : Byt W A3 l3) (h4 : Byt W A4 l4) (hl : l1.length + l2.length + l3.length + l4.length ≤ 1000000000) :
 Calls Tryz.prog 42 #[.slice (some ⟨W.heap.size, 0, none⟩) 4 4] (W.alloc (.cells #[.slice A1 l1.length c1, .slice A2 l2.length c2, .slice A3 l3.length c3, .slice A4 l4.length c4] 22)) (RB (W.alloc (.cells #[.slice A1 l1.length c1, .slice A2 l2.length c2, .slice A3 l3.length c3, .slice A4 l4.length c4] 22)) (l1 ++ (l2 ++ (l3 ++ l4)))) := by
 have hb : Below W.heap.size W (W.alloc (.cells #[.slice A1 l1.length c1, .slice A2 l2.length c2, .slice A3 l3.length c3, .slice A4 l4.length c4] 22)) := (Below.refl _ _).alloc (Nat.le_refl _) _
 have h := cur_Of (W.alloc (.cells #[.slice A1 l1.length c1, .slice A2 l2.length c2, .slice A3 l3.length c3, .slice A4 l4.length c4] 22)) W.heap.size 4 4 [l1, l2, l3, l4] [.slice A1 l1.length c1, .slice A2 l2.length c2, .slice A3 l3.length c3, .slice A4 l4.length c4] ⟨rfl, fun i v hv => by
  have h0 := alloc_cell (w := W) (vs := #[.slice A1 l1.length c1, .slice A2 l2.length c2, .slice A3 l3.length c3, .slice A4 l4.length c4]) (e := 22) (i := i)
  rw [addr_add]
  refine h0.trans ?_
  rw [← hv]
  match i with
  | 0 => rfl
  | 1 => rfl
  | 2 => rfl
  | 3 => rfl
  | k + 4 => rfl, fun i v l hv hl => by
  match i with
  | 0 => cases hv; cases hl; exact byt_holds (h1.below hb) c1
  | 1 => cases hv; cases hl; exact byt_holds (h2.below hb) c2
  | 2 => cases hv; cases hl; exact byt_holds (h3.below hb) c3
  | 3 => cases hv; cases hl; exact byt_holds (h4.below hb) c4
  | k + 4 => cases hv⟩ rfl (by omega) (by omega) (by omega) (by simp [Lib.lens]; omega)
 simpa using h

/- Bytes of entries, by the program. No condition. -/
theorem rowAny (g : Nat) (W : World) (h : W.cell? ⟨g, 0, none⟩ = some (.string ⟨#[32]⟩)) : Calls Tryz.prog 34 #[.slice (some ⟨g, 0, none⟩) 1 1] W (RB W [32]) := by
 have h := prt_row g 0 1 [⟨#[32]⟩] W (fun i hi => by
  match i, hi with
  | 0, _ => exact h) (by decide) (by decide)
 exact h.mono fun e w' hr => hr.rb (by decide)
theorem bulkD_take : ∀ (l : List (List UInt8 × Ob)) (k : Nat), bulkD (l.take k) ≤ bulkD l
 | [], k => by simp [bulkD]
 | o :: r, 0 => by simp [bulkD]
 | o :: r, k + 1 => by have := bulkD_take r k; simp only [List.take_succ_cons, bulkD]; omega
theorem one_cell (w : World) (v : Value) (t : TypeId) : (w.alloc (.cells #[v] t)).cell? ⟨w.heap.size, 0, none⟩ = some v := by
 simp
def GD (p : Nat) (A : Option Addr) (n c : Nat) (K : ByteArray) (ag : Array Value) (nt sh : List UInt8) : Nat → Value → World → Prop := fun j v w => match j with
 | 0 => v = .slice A n c
 | 1 => v = .pointer (some ⟨p, 0, none⟩)
 | 2 => v = .string K
 | 3 => ∃ A c, v = .slice A nt.length c ∧ Byt w A nt
 | 4 => ∃ g, v = .slice (some ⟨g, 0, none⟩) 1 1 ∧ w.cell? ⟨g, 0, none⟩ = some (.string ⟨#[32]⟩)
 | 5 => ∃ A c, v = .slice A 1 c ∧ Byt w A [32]
 | 6 => v = .pointer (some ⟨p, 1, none⟩)
 | 7 => v = .agg ag
 | _ => ∃ A c, v = .slice A sh.length c ∧ Byt w A sh
theorem GD_mono {p : Nat} {A : Option Addr} {n c : Nat} {K : ByteArray} {ag : Array Value} {nt sh : List UInt8} (j : Nat) (v : Value) (w w' : World) (hG : GD p A n c K ag nt sh j v w) (hk : Below w.heap.size w w') : GD p A n c K ag nt sh j v w' := by
 unfold GD at hG ⊢
 split at hG <;> first
  | exact hG
  | (obtain ⟨A, c, e, hb⟩ := hG; exact ⟨A, c, e, hb.below hk⟩)
  | (obtain ⟨g, e, hb⟩ := hG; exact ⟨g, e, (hk.cell (cell_lt hb)).trans hb⟩)
set_option maxHeartbeats 8000000 in
set_option maxRecDepth 100000 in
theorem prt_dict (N : Nat) (hN : N ≤ 1048576) (hs : ShowC N) : DictC N := by
 intro w AD gD oD cD d vd htab hA hl hk hlv hbk
 have zl := bulkD_len d
 have hfit : ∀ e ∈ d, Fits e.2 := fun e he => by obtain ⟨i, hi, rfl⟩ := List.getElem_of_mem he; exact (hl i hi).fits
 have hsl := showD_len d hfit
 obtain ⟨m, hm⟩ : ∃ m, m = d.length := ⟨_, rfl⟩
 rw [← hm] at zl ⊢
 have zm : m ≤ 1048576 := by omega
 have hsl2 : (showD d).length ≤ 41943040 := by omega
 have e41 : 41943050 ≤ maxLen := by unfold maxLen; omega
 have cr : Calls Tryz.prog 34 #[.slice (some ⟨w.heap.size, 0, none⟩) 1 1] (w.alloc (.cells #[.string ⟨#[60, 60]⟩] 9)) (RB w [60, 60]) := row1b w _ (by decide)
 replace hm := hi_ hm
 replace hA := hi_ hA
 replace hl := hi_ hl
 replace hk := hi_ hk
 replace hlv := hi_ hlv
 replace hs := hi_ hs
 replace hfit := hi_ hfit
 replace hsl2 := hi_ hsl2
 replace htab := hi_ htab
 clear hsl
 go_enter Tryz.func46, Tryz.ntmps46
 go_wp2_with (go_at_call 34; (with_reducible refine cr.mono ?_); rintro e w1 ⟨A1, c1, rfl, hb1, hA1, hB1⟩; replace hb1 := hi_ hb1; replace hB1 := hi_ hB1; replace hA1 := hi_ hA1)
 go_loopw [3, 5, 10] (fun s3 _ s10 wr => ∃ (k : Nat) (A : Option Addr) (c : Nat), k ≤ m ∧ s10 = .int .i64 k ∧ s3 = .slice A (60 :: 60 :: showD (d.take k)).length c ∧ Byt wr A (60 :: 60 :: showD (d.take k)) ∧ (A = none → c = 0) ∧ Below w.heap.size w wr) (fun _ _ s10 _ => m - (RowKit.intOf s10).toNat)
 case atStart => exact ⟨0, A1, c1, by omega, rfl, rfl, hb1.out, hA1.out, hB1.out⟩
 case round =>
  obtain ⟨k, A, c, hk0, rfl, rfl, hb, hAc, hB⟩ := hrel
  have lB := hB.size
  by_cases hkm : k < m
  ·have hkl : k < d.length := by rw [← hm.out]; exact hkm
   have hAe := hA.out (by omega)
   subst hAe
   obtain ⟨e, he⟩ : ∃ e, e = d[k] := ⟨_, rfl⟩
   have hob0 := hl.out k hkl
   have hkk0 := (hk.out k hkl).2
   have hcv := hlv.out k hkl
   rw [← he] at hob0 hkk0
   have hz0 := bulkD_at d k hkl
   rw [← he] at hz0
   have hob := hob0.kept hB
   have hsh := show_len e.2 hob.fits
   obtain ⟨us, hus⟩ : ∃ us, us = vd k := ⟨_, rfl⟩
   rw [← hus] at hob hob0 hcv
   obtain ⟨en, E1, E2, E3, en1, ec1, en2, ec2, en3, ec3, hys⟩ := ob_five2 hob
   subst hys
   obtain ⟨kk, hkk⟩ : ∃ k, k = e.2.kind := ⟨_, rfl⟩
   rw [← hkk] at hob hob0 hcv
   obtain ⟨K, hK⟩ : ∃ K, K = bytes e.1 := ⟨_, rfl⟩
   have zK : K.size ≤ 1048576 := by rw [hK, bytes_size]; omega
   have x0 : wr.cell? ⟨gD, oD + k * 6, none⟩ = some (.string K) := by
    have h1 := (hB.cell (cell_lt hkk0)).trans hkk0
    rw [Nat.mul_comm] at h1
    rw [h1, hK]; rfl
   have five : ∀ j u, [Value.int .i64 kk, .int .i64 en, .slice E1 en1 ec1, .slice E2 en2 ec2, .slice E3 en3 ec3][j]? = some u → wr.cell? ⟨gD, oD + k * 6 + 1 + j, none⟩ = some u := fun j u hj => by
    have h0 := hcv j (by have := (List.getElem?_eq_some_iff.1 hj).1; simpa using this)
    rw [hj] at h0
    have h1 := (hB.cell (cell_lt h0)).trans h0
    rw [show oD + (6 * k + 1 + j) = oD + k * 6 + 1 + j by omega] at h1
    exact h1
   have x1 : wr.cell? ⟨gD, oD + k * 6 + 1, none⟩ = some (.int .i64 kk) := five 0 _ rfl
   have x2 : wr.cell? ⟨gD, oD + k * 6 + 2, none⟩ = some (.int .i64 en) := five 1 _ rfl
   have x3 : wr.cell? ⟨gD, oD + k * 6 + 3, none⟩ = some (.slice E1 en1 ec1) := five 2 _ rfl
   have x4 : wr.cell? ⟨gD, oD + k * 6 + 4, none⟩ = some (.slice E2 en2 ec2) := five 3 _ rfl
   have x5 : wr.cell? ⟨gD, oD + k * 6 + 5, none⟩ = some (.slice E3 en3 ec3) := five 4 _ rfl
   clear five hcv hob hus
   replace he := hi_ he
   replace hkk := hi_ hkk
   replace hK := hi_ hK
   replace hob0 := hi_ hob0
   replace hb := hi_ hb
   replace hB := hi_ hB
   replace hAc := hi_ hAc
   replace hsh := hi_ hsh
   clear hkk0
   obtain ⟨S, hS⟩ : ∃ S, S = 60 :: 60 :: showD (d.take k) := ⟨_, rfl⟩
   obtain ⟨R, hR⟩ : ∃ R, R = S ++ (nameT e.1 ++ ([32] ++ e.2.show)) := ⟨_, rfl⟩
   have hR2' : 60 :: 60 :: showD (d.take (k + 1)) = R := by
    rw [hR, hS, List.take_succ_eq_append_getElem hkl, showD_snoc, ← he.out]; rfl
   have hzS : S.length + (nameT e.1).length + 1 + e.2.show.length ≤ 1000000000 := by
    have q1 := showD_len (d.take k) (fun x hx => hfit.out x (List.mem_of_mem_take hx))
    have q2 := bulkD_take d k
    have q3 := nameT_len e.1
    have q4 := hsh.out
    rw [hS]; simp only [List.length_cons]; omega
   replace hR := hi_ hR
   replace hR2' := hi_ hR2'
   replace hzS := hi_ hzS
   rw [← hS] at hb ⊢
   replace hS := hi_ hS
   go_upto_region 5 with (fail)
   obtain ⟨W3, hW3⟩ : ∃ W, W = wr.alloc (.cells #[.string K, .int .i64 kk, .int .i64 en, .slice E1 en1 ec1, .slice E2 en2 ec2, .slice E3 en3 ec3] 53) := ⟨_, rfl⟩
   have hb3 : Below wr.heap.size wr W3 := by rw [hW3]; exact (Below.refl _ _).alloc (Nat.le_refl _) _
   have z3 : W3.heap.size = wr.heap.size + 1 := by rw [hW3, World.size_alloc]
   have ecell : ∀ i v, #[Value.string K, .int .i64 kk, .int .i64 en, .slice E1 en1 ec1, .slice E2 en2 ec2, .slice E3 en3 ec3][i]? = some v → W3.cell? ⟨wr.heap.size, i, none⟩ = some v := by
    intro i v hv
    have h0 := alloc_cell (w := wr) (vs := #[Value.string K, .int .i64 kk, .int .i64 en, .slice E1 en1 ec1, .slice E2 en2 ec2, .slice E3 en3 ec3]) (e := 53) (i := i)
    rw [Nat.zero_add, hv] at h0
    rw [hW3]; exact h0
   rw [← hW3]
   clear x0 x1 x2 x3 x4 x5
   have f0 : W3.cell? ⟨wr.heap.size, 0, none⟩ = some (.string K) := ecell 0 _ rfl
   have f1 : W3.cell? ⟨wr.heap.size, 1, none⟩ = some (.int .i64 kk) := ecell 1 _ rfl
   have f2 : W3.cell? ⟨wr.heap.size, 2, none⟩ = some (.int .i64 en) := ecell 2 _ rfl
   have f3 : W3.cell? ⟨wr.heap.size, 3, none⟩ = some (.slice E1 en1 ec1) := ecell 3 _ rfl
   have f4 : W3.cell? ⟨wr.heap.size, 4, none⟩ = some (.slice E2 en2 ec2) := ecell 4 _ rfl
   have f5 : W3.cell? ⟨wr.heap.size, 5, none⟩ = some (.slice E3 en3 ec3) := ecell 5 _ rfl
   have c12 : ∀ W, Calls Tryz.prog 12 #[.string K] W (RB W (nameT e.1)) := fun W => by
    have h0 := prt_Name K W (by omega)
    rw [hK.out, bytes_list] at h0
    rw [hK.out]
    exact h0.mono fun e' w' hr => hr.rb (by have := nameT_len e.1; unfold maxLen; omega)
   have c31 : ∀ W, Below wr.heap.size wr W → Calls Tryz.prog 31 #[.agg #[.int .i64 kk, .int .i64 en, .slice E1 en1 ec1, .slice E2 en2 ec2, .slice E3 en3 ec3]] W (RB W e.2.show) := fun W hW => hs.out e.2 _ W ((hob0.out.kept hB.out).kept hW) (by omega) (htab.out.below (hB.out.trans (hW.mono lB)))
   clear ecell
   replace c31 := hi_ c31
   have hb3' := hi_ hb3
   clear hb3
   replace hW3 := hi_ hW3
   have c34 : ∀ W : World, Calls Tryz.prog 34 #[.slice (some ⟨W.heap.size, 0, none⟩) 1 1] (W.alloc (.cells #[.string ⟨#[32]⟩] 9)) (RB W [32]) := fun W => row1b W _ (by decide)
   refine wp_lin_tail (by kernel_rfl) [none, none, none, none, none, none, none, none, none, none, none, none, none, none, some 0, some 1, some 2, some 3, some 4, some 5, some 6, some 7, some 8, none, none, none, none, none, none, none, none] (fun w' => Below W3.heap.size W3 w') (fun w' w'' => Below w'.heap.size w' w'') (GD wr.heap.size A S.length c K #[.int .i64 kk, .int .i64 en, .slice E1 en1 ec1, .slice E2 en2 ec2, .slice E3 en3 ec3] (nameT e.1) e.2.show) (by rfl) (by kernel_rfl) 9 _ rfl (by decide) (by kernel_rfl) [9, 2, 3, 9, 5, 9, 7, 8, 9, 0] (by kernel_rfl) ?hR ?mono (.cons 8 (step_of [7, 5] rfl (by kernel_rfl) ?s8) (.cons 7 (step_of [6] rfl (by kernel_rfl) ?s7) (.cons 6 (step_of [] rfl (by kernel_rfl) ?s6) (.cons 5 (step_of [4, 3] rfl (by kernel_rfl) ?s5) (.cons 4 (step_of [] rfl (by kernel_rfl) ?s4) (.cons 3 (step_of [2] rfl (by kernel_rfl) ?s3) (.cons 2 (step_of [1] rfl (by kernel_rfl) ?s2) (.cons 1 (step_of [] rfl (by kernel_rfl) ?s1) (.cons 0 (step_of [] rfl (by kernel_rfl) ?s0) (.nil)))))))))) ?done
   case hR => exact (Below.refl _ _).drew
   case mono => exact GD_mono
   case s0 =>
    intro x w' hRw hd K' hK
    simp only [All, GD] at hd
    simp +decide only [upd, GD, fillL, if_true, if_false] at hK ⊢
    try simp only [hd.1] at hK ⊢
    go_simp
    have hK2 := hK _ _ ⟨hRw, Below.refl _ _, rfl⟩
    exact hK2
   case s1 =>
    intro x w' hRw hd K' hK
    simp only [All, GD] at hd
    simp +decide only [upd, GD, fillL, if_true, if_false] at hK ⊢
    try simp only [hd.1] at hK ⊢
    go_simp
    have hK2 := hK _ _ ⟨hRw, Below.refl _ _, rfl⟩
    exact hK2
   case s2 =>
    intro x w' hRw hd K' hK
    simp only [All, GD] at hd
    have z0 := (hRw.cell (cell_lt f0)).trans f0
    simp +decide only [upd, GD, fillL, if_true, if_false] at hK ⊢
    try simp only [hd.1] at hK ⊢
    go_simp
    have hK2 := hK _ _ ⟨hRw, Below.refl _ _, rfl⟩
    exact hK2
   case s3 =>
    intro x w' hRw hd K' hK
    simp only [All, GD] at hd
    simp +decide only [upd, GD, fillL, if_true, if_false] at hK ⊢
    try simp only [hd.1] at hK ⊢
    go_simp
    refine (c12 w').mono ?_
    rintro e' w2 ⟨A2, c2, rfl, hb2, hA2, hB2⟩
    have hK2 := hK _ _ ⟨bthen hRw hB2, hB2, A2, c2, rfl, hb2⟩
    exact hK2
   case s4 =>
    intro x w' hRw hd K' hK
    simp only [All, GD] at hd
    simp +decide only [upd, GD, fillL, if_true, if_false] at hK ⊢
    try simp only [hd.1] at hK ⊢
    go_simp
    have hK2 := hK _ _ ⟨hRw.alloc hRw.size (.cells #[.string ⟨#[32]⟩] 9), (Below.refl _ _).alloc (Nat.le_refl _) _, _, rfl, one_cell w' _ 9⟩
    exact hK2
   case s5 =>
    intro x w' hRw hd K' hK
    simp only [All, GD] at hd
    obtain ⟨⟨g, e4, hg⟩, _⟩ := hd
    simp +decide only [upd, GD, fillL, if_true, if_false] at hK ⊢
    try simp only [e4] at hK ⊢
    go_simp
    refine (rowAny g w' hg).mono ?_
    rintro e' w2 ⟨A2, c2, rfl, hb2, hA2, hB2⟩
    have hK2 := hK _ _ ⟨bthen hRw hB2, hB2, A2, c2, rfl, hb2⟩
    exact hK2
   case s6 =>
    intro x w' hRw hd K' hK
    simp only [All, GD] at hd
    simp +decide only [upd, GD, fillL, if_true, if_false] at hK ⊢
    try simp only [hd.1] at hK ⊢
    go_simp
    have hK2 := hK _ _ ⟨hRw, Below.refl _ _, rfl⟩
    exact hK2
   case s7 =>
    intro x w' hRw hd K' hK
    simp only [All, GD] at hd
    have z1 := (hRw.cell (cell_lt f1)).trans f1
    have z2 := (hRw.cell (cell_lt f2)).trans f2
    have z3 := (hRw.cell (cell_lt f3)).trans f3
    have z4 := (hRw.cell (cell_lt f4)).trans f4
    have z5 := (hRw.cell (cell_lt f5)).trans f5
    simp +decide only [upd, GD, fillL, if_true, if_false] at hK ⊢
    try simp only [hd.1] at hK ⊢
    go_simp
    have hK2 := hK _ _ ⟨hRw, Below.refl _ _, rfl⟩
    exact hK2
   case s8 =>
    intro x w' hRw hd K' hK
    simp only [All, GD] at hd
    simp +decide only [upd, GD, fillL, if_true, if_false] at hK ⊢
    try simp only [hd.1] at hK ⊢
    go_simp
    refine (c31.out w' (bthen hb3'.out hRw)).mono ?_
    rintro e' w2 ⟨A2, c2, rfl, hb2, hA2, hB2⟩
    have hK2 := hK _ _ ⟨bthen hRw hB2, hB2, A2, c2, rfl, hb2⟩
    exact hK2
   case done =>
    intro x w4 hR2 hG fr hfr
    have g0 := hG 0 (by omega)
    have g3 := hG 3 (by omega)
    have g5 := hG 5 (by omega)
    have g8 := hG 8 (by omega)
    simp only [GD] at g0 g3 g5 g8
    clear hG
    obtain ⟨A2, c2, e3, hb2⟩ := g3
    obtain ⟨A3, c3, e5, hb3⟩ := g5
    obtain ⟨A4, c4, e8, hb4⟩ := g8
    simp only [fillL] at hfr
    rw [g0, e3, e5, e8] at hfr
    subst hfr
    have hD4 : Below wr.heap.size wr w4 := bthen hb3'.out hR2
    have c42 : Calls Tryz.prog 42 #[.slice (some ⟨w4.heap.size, 0, none⟩) 4 4] (w4.alloc (.cells #[.slice A S.length c, .slice A2 (nameT e.1).length c2, .slice A3 1 c3, .slice A4 e.2.show.length c4] 22)) (RB (w4.alloc (.cells #[.slice A S.length c, .slice A2 (nameT e.1).length c2, .slice A3 1 c3, .slice A4 e.2.show.length c4] 22)) R) := (by rw [hR.out]; exact cur_Of4 w4 A A2 A3 A4 c c2 c3 c4 S (nameT e.1) [32] e.2.show (hb.out.below hD4) hb2 hb3 hb4 (by have := hzS.out; simp only [List.length_cons, List.length_nil]; omega))
    replace hD4 := hi_ hD4
    replace hR2 := hi_ hR2
    clear hb2 hb3 hb4
    go_wp2_with (go_at_call 42; (with_reducible refine c42.mono ?_); rintro e' w5 ⟨A5, c5, rfl, hb5, hA5, hB5⟩; have hD5 : Below wr.heap.size wr w5 := bthen hD4.out (bthen ((Below.refl _ _).alloc (Nat.le_refl _) _) hB5); replace hb5 := hi_ hb5; replace hB5 := hi_ hB5; replace hA5 := hi_ hA5; replace hD5 := hi_ hD5)
    go_roundw
    case rel => exact ⟨k + 1, A5, c5, by omega, by go_num, by rw [hR2'.out], by rw [hR2'.out]; exact hb5.out, hA5.out, hB.out.trans (hD5.out.mono lB)⟩
    case measure => simp [RowKit.intOf]; omega
  ·obtain rfl : k = m := by omega
   have hT : d.take k = d := by rw [hm.out, List.take_length]
   rw [hT] at hb ⊢
   obtain ⟨S, hS⟩ : ∃ S, S = 60 :: 60 :: showD d := ⟨_, rfl⟩
   obtain ⟨R, hR⟩ : ∃ R, R = S ++ [62, 62] := ⟨_, rfl⟩
   have hR2 : 60 :: 60 :: (showD d ++ [62, 62]) = R := by rw [hR, hS]; rfl
   have hzS : S.length ≤ 41943042 := by rw [hS]; have := hsl2.out; simp only [List.length_cons]; omega
   rw [← hS] at hb ⊢
   rw [hR2]
   have c34 : Calls Tryz.prog 34 #[.slice (some ⟨wr.heap.size, 0, none⟩) 1 1] (wr.alloc (.cells #[.string ⟨#[62, 62]⟩] 9)) (RB wr [62, 62]) := row1b wr _ (by decide)
   replace hS := hi_ hS
   replace hR := hi_ hR
   replace hR2 := hi_ hR2
   replace hT := hi_ hT
   replace hb := hi_ hb
   replace hB := hi_ hB
   replace hAc := hi_ hAc
   go_wp2_with (first
    | (go_at_call 34; (with_reducible refine c34.mono ?_); rintro e w2 ⟨A2, c2, rfl, hb2, hA2, hB2⟩; have c42 : Calls Tryz.prog 42 #[.slice (some ⟨w2.heap.size, 0, none⟩) 2 2] (w2.alloc (.cells #[.slice A S.length c, .slice A2 2 c2] 22)) (RB (w2.alloc (.cells #[.slice A S.length c, .slice A2 2 c2] 22)) R) := (by rw [hR.out]; exact cur_Of2 w2 A A2 c c2 S [62, 62] (hb.out.below hB2) hb2 (by simp only [List.length_cons, List.length_nil]; omega)); replace hb2 := hi_ hb2; replace hB2 := hi_ hB2; replace hA2 := hi_ hA2)
    | (go_at_call 42; (with_reducible refine c42.mono ?_); rintro e w3 ⟨A3, c3, rfl, hb3, hA3, hB3⟩; replace hb3 := hi_ hb3; replace hB3 := hi_ hB3; replace hA3 := hi_ hA3))
   go_ret
   rw [hR2.out]
   exact ⟨A3, c3, rfl, hb3.out, hA3.out, bthen hB.out (bthen hB2.out (bthen ((Below.refl _ _).alloc (Nat.le_refl _) _) hB3.out))⟩

/- Bytes of an object, by the program; whether it may be. No condition. -/
theorem show_zero : ShowC 0 := fun o vs w _ h _ => by have := bulk_pos o; omega
theorem showC_up : ∀ N, N ≤ 1048576 → ShowC N
 | 0, _ => show_zero
 | N + 1, h => prt_show N h (showC_up N (by omega)) (prt_dict N (by omega) (showC_up N (by omega)))
theorem prt_show_all (o : Ob) (vs : List Value) (w : World) (h : ObAt w o vs) (hb : o.bulk ≤ 1048576) (ht : Tab w) : Calls Tryz.prog 31 #[.agg vs.toArray] w (RB w o.show) :=
 showC_up 1048576 (Nat.le_refl _) o vs w h hb ht
theorem five_cells {w : World} {v0 v1 v2 v3 v4 : Value} {W : World} (hW : W = w.alloc (.cells #[v0, v1, v2, v3, v4] 26)) :
 W.cell? ⟨w.heap.size, 0, none⟩ = some v0 ∧ W.cell? ⟨w.heap.size, 1, none⟩ = some v1 ∧ W.cell? ⟨w.heap.size, 2, none⟩ = some v2 ∧ W.cell? ⟨w.heap.size, 3, none⟩ = some v3 ∧ W.cell? ⟨w.heap.size, 4, none⟩ = some v4 := by
 subst hW
 refine ⟨?_, ?_, ?_, ?_, ?_⟩ <;> simp
theorem five_kept {p : Nat} {v0 v1 v2 v3 v4 : Value} {W W' : World} (h : W.cell? ⟨p, 0, none⟩ = some v0 ∧ W.cell? ⟨p, 1, none⟩ = some v1 ∧ W.cell? ⟨p, 2, none⟩ = some v2 ∧ W.cell? ⟨p, 3, none⟩ = some v3 ∧ W.cell? ⟨p, 4, none⟩ = some v4) (hb : Below W.heap.size W W') :
 W'.cell? ⟨p, 0, none⟩ = some v0 ∧ W'.cell? ⟨p, 1, none⟩ = some v1 ∧ W'.cell? ⟨p, 2, none⟩ = some v2 ∧ W'.cell? ⟨p, 3, none⟩ = some v3 ∧ W'.cell? ⟨p, 4, none⟩ = some v4 :=
 ⟨(hb.cell (cell_lt h.1)).trans h.1, (hb.cell (cell_lt h.2.1)).trans h.2.1, (hb.cell (cell_lt h.2.2.1)).trans h.2.2.1, (hb.cell (cell_lt h.2.2.2.1)).trans h.2.2.2.1, (hb.cell (cell_lt h.2.2.2.2)).trans h.2.2.2.2⟩
set_option maxHeartbeats 4000000 in
set_option maxRecDepth 100000 in
theorem cos_May (o : Ob) (vs : List Value) (w : World) (h : ObAt w o vs) (hbk : o.bulk ≤ 1048576) : Calls Tryz.prog 30 #[.agg vs.toArray] w fun e w' => e = .returned (.bool (o.may 28)) ∧ Below w.heap.size w w' := by
 obtain ⟨en, E1, E2, E3, en1, ec1, en2, ec2, en3, ec3, hys⟩ := ob_five2 h
 subst hys
 obtain ⟨k, hk⟩ : ∃ k, k = o.kind := ⟨_, rfl⟩
 rw [← hk] at h ⊢
 obtain ⟨W1, hW1⟩ : ∃ W, W = w.alloc (.cells #[.int .i64 k, .int .i64 en, .slice E1 en1 ec1, .slice E2 en2 ec2, .slice E3 en3 ec3] 26) := ⟨_, rfl⟩
 have hb1 : Below w.heap.size w W1 := by rw [hW1]; exact (Below.refl _ _).alloc (Nat.le_refl _) _
 have c : Calls Tryz.prog 58 #[.agg #[.int .i64 k, .int .i64 en, .slice E1 en1 ec1, .slice E2 en2 ec2, .slice E3 en3 ec3], .int .i64 28] W1 fun e w' => e = .returned (.bool (o.may 28)) ∧ Below W1.heap.size W1 w' := cos_mayC 28 (by omega) o _ W1 (h.kept hb1) hbk
 obtain ⟨f0, f1, f2, f3, f4⟩ := five_cells hW1
 replace hb1 := hi_ hb1
 clear h hk
 go_enter Tryz.func30, Tryz.ntmps30
 go_upto_region 1 with (fail)
 rw [← hW1]
 replace hW1 := hi_ hW1
 go_wp2_with (go_at_call 58; (with_reducible refine c.mono ?_); rintro e w2 ⟨rfl, hB⟩; replace hB := hi_ hB)
 go_ret
 exact ⟨rfl, bthen hb1.out hB.out⟩
def VR (w : World) (o : Ob) (e : Ending) (w' : World) : Prop := Below w.heap.size w w' ∧ ∃ A c n z, e = .returned (.tuple #[.slice A n c, .int .i64 z]) ∧ (A = none → c = 0) ∧
 ((o.kind ≠ 8 ∧ o.may 28 = true ∧ n = o.show.length ∧ Byt w' A o.show ∧ z = 0) ∨ (¬ (o.kind ≠ 8 ∧ o.may 28 = true) ∧ A = none ∧ n = 0 ∧ z = 1))
set_option maxHeartbeats 4000000 in
set_option maxRecDepth 100000 in
theorem prt_Value (o : Ob) (vs : List Value) (w : World) (h : ObAt w o vs) (hbk : o.bulk ≤ 1048576) (ht : Tab w) : Calls Tryz.prog 9 #[.agg vs.toArray] w (VR w o) := by
 obtain ⟨en, E1, E2, E3, en1, ec1, en2, ec2, en3, ec3, hys⟩ := ob_five2 h
 obtain ⟨k, hk⟩ : ∃ k, k = o.kind := ⟨_, rfl⟩
 rw [← hk] at hys
 subst hys
 obtain ⟨W1, hW1⟩ : ∃ W, W = w.alloc (.cells #[.int .i64 k, .int .i64 en, .slice E1 en1 ec1, .slice E2 en2 ec2, .slice E3 en3 ec3] 26) := ⟨_, rfl⟩
 have hb1 : Below w.heap.size w W1 := by rw [hW1]; exact (Below.refl _ _).alloc (Nat.le_refl _) _
 have c := cos_May o _ W1 (h.kept hb1) hbk
 have c31 := fun W (hW : Below W1.heap.size W1 W) => prt_show_all o _ W (h.kept (bthen hb1 hW)) hbk (ht.below (bthen hb1 hW))
 have f := five_cells hW1
 obtain ⟨f0, f1, f2, f3, f4⟩ := id f
 replace hb1 := hi_ hb1
 replace c31 := hi_ c31
 replace f := hi_ f
 obtain ⟨m, hm⟩ : ∃ m, m = o.may 28 := ⟨_, rfl⟩
 rw [← hm] at c
 clear h
 have hP : ∀ e w', (Below w.heap.size w w' ∧ ∃ A c n z, e = .returned (.tuple #[.slice A n c, .int .i64 z]) ∧ (A = none → c = 0) ∧ ((k ≠ 8 ∧ m = true ∧ n = o.show.length ∧ Byt w' A o.show ∧ z = 0) ∨ (¬ (k ≠ 8 ∧ m = true) ∧ A = none ∧ n = 0 ∧ z = 1))) → VR w o e w' := fun _ _ hh => by unfold VR; rw [← hk, ← hm]; exact hh
 replace hP := hi_ hP
 clear hk hm
 go_enter Tryz.func9, Tryz.ntmps9
 go_upto_region 1 with (fail)
 rw [← hW1]
 replace hW1 := hi_ hW1
 by_cases k8 : k = 8
 ·subst k8
  go_wp2
  go_ret2
  exact hP.out _ _ ⟨hb1.out, none, 0, 0, 1, rfl, fun _ => rfl, .inr ⟨by simp, rfl, rfl, rfl⟩⟩
 ·have q8 : (k == 8) = false := by simpa using k8
  cases m with
  | false =>
   go_wp2_with (go_at_call 30; (with_reducible refine c.mono ?_); rintro e w2 ⟨rfl, hB⟩; replace hB := hi_ hB)
   go_ret2
   exact hP.out _ _ ⟨bthen hb1.out hB.out, none, 0, 0, 1, rfl, fun _ => rfl, .inr ⟨by simp, rfl, rfl, rfl⟩⟩
  | true =>
   go_wp2_with (first
    | (go_at_call 30; (with_reducible refine c.mono ?_); rintro e w2 ⟨rfl, hB⟩; have g := five_kept f.out hB; obtain ⟨g0, g1, g2, g3, g4⟩ := g; have c' := c31.out w2 hB; replace hB := hi_ hB)
    | (go_at_call 31; (with_reducible refine c'.mono ?_); rintro e w3 ⟨A2, c2, rfl, hb2, hA2, hB2⟩; replace hb2 := hi_ hb2; replace hB2 := hi_ hB2; replace hA2 := hi_ hA2))
   go_ret2
   exact hP.out _ _ ⟨bthen hb1.out (bthen hB.out hB2.out), A2, c2, _, 0, rfl, hA2.out, .inl ⟨k8, by trivial, rfl, hb2.out, rfl⟩⟩
end Go.Proofs.YthacnnmlephkhaaGreatDoor

/- Words for memory: a block that is known whole. No condition. -/
namespace Go.Wk
open Go Go.RowKit
def Blk (w : World) (g : Nat) (t : TypeId) (cs : Array Value) : Prop := w.heap[g]? = some (.cells cs t (0, 0))
section
variable {w w' : World} {g : Nat} {t : TypeId} {cs : Array Value}
theorem Blk.lt (h : Blk w g t cs) : g < w.heap.size := by
 rcases Nat.lt_or_ge g w.heap.size with hlt | hge
 ·exact hlt
 ·unfold Blk at h; rw [Array.getElem?_eq_none hge] at h; cases h
theorem Blk.cell (h : Blk w g t cs) (i : Nat) : w.cell? ⟨g, i, none⟩ = cs[i]? := cell_of_row w g i cs t (0, 0) h
theorem Blk.frozen (h : Blk w g t cs) (i : Nat) : w.frozen? ⟨g, i, none⟩ = false := by
 unfold Blk at h
 simp [World.frozen?, h]
theorem Blk.new (w : World) (t : TypeId) (cs : Array Value) : Blk (w.alloc (.cells cs t)) w.heap.size t cs := heap_alloc_new w _
theorem Blk.drew (h : Blk w g t cs) : Blk w.drew g t cs := h
theorem Blk.drewN (h : Blk w g t cs) (n : Nat) : Blk (w.drewN n) g t cs := h
theorem Blk.alloc (h : Blk w g t cs) (o : Obj) : Blk (w.alloc o) g t cs := (Below.heap_alloc w o g h.lt).trans h
theorem Blk.set_ (h : Blk w g t cs) (i : Nat) (u : Value) : Blk (w.setCell ⟨g, i, none⟩ u) g t (cs.setIfInBounds i u) := by
 unfold Blk at h ⊢
 simp [World.setCell, Array.getElem?_modify, h]
theorem Blk.far (h : Blk w g t cs) {p : Addr} (hp : g ≠ p.block) (u : Value) : Blk (w.setCell p u) g t cs := (Below.heap_setCell w p u g hp).trans h
theorem Blk.below {B : Nat} (h : Blk w g t cs) (hb : Below B w w') (hg : g < B) : Blk w' g t cs := (hb.block g hg).trans h
theorem Blk.grown {row : Option Nat} (h : Blk w g t cs) (hb : w.grownBy w' row) (hg : some g ≠ row) : Blk w' g t cs := (hb.block g h.lt hg).trans h
end
end Go.Wk

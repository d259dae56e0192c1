/- The document's Plain. No condition. -/
import Derived.Test.YtkpikpaepgknnaaGreatDoorXtPlain
import Derived.Laws.Cover4
set_option linter.unusedVariables false
namespace Go.Proofs.YtkpikpaepgknnaaGreatDoor
open Go Go.RowKit Go.Wk Go.Xt Go.Lib
theorem wS_odd : ∀ (n half : Nat) (l : List UInt8), l.length = n → n % 2 ≠ 0 → wS half l = none := by
  intro n
  induction n using Nat.strongRecOn with
  | _ n ih =>
    intro half l hln hn2
    match l, hln with
    | [], h => simp at h; omega
    | [_], _ => rfl
    | x :: y :: r, h =>
      have h4 : r.length + 2 = n := by simpa using h
      have hr := fun half => ih (n - 2) (by omega) half r (by omega) (by omega)
      rw [wS]
      repeat' split
      all_goals first | rfl | exact hr _ | (rw [hr]; rfl)
set_option maxRecDepth 100000 in
theorem conv_rune (W : World) (Y : Int) (E : ByteArray) (hE : Utf8.encode Y = E) : (convert 90 9 (.slice (some ⟨W.heap.size, 0, none⟩) 1 1)).run Tryz.prog (W.alloc (.cells #[.int .i32 Y] 21)) = .ok (.string E) (W.alloc (.cells #[.int .i32 Y] 21)) := by
  have h := run_convert_runes (P := Tryz.prog) (W.alloc (.cells #[.int .i32 Y] 21)) 90 9 21 ⟨W.heap.size, 0, none⟩ 1 1 [Y] (Nat.le_refl _) Tryz.underlying90 Tryz.underlying21 Tryz.underlying9 (fun j hj => by
    obtain rfl : j = 0 := by simpa using hj
    rw [Lib.add_plain, alloc_cell]; rfl)
  rw [h]
  congr 2
def RefL (R : Option (List UInt8)) (bs : List UInt8) (w : World) (s4 s5 : Value) (wr : World) : Prop :=
  ∃ (i : Nat) (S : ByteArray), i ≤ bs.length ∧ i % 2 = 0 ∧ s5 = .int .i64 i ∧ s4 = .string S ∧ S.size ≤ 4 * i ∧ R = (wS 0 (bs.drop i)).map (S.data.toList ++ ·) ∧ Below w.heap.size w wr
theorem plainR_none {R : Option (List UInt8)} {w w' : World} (h : R = none) (hb : Below w.heap.size w w') : PlainR R w (.returned (.tuple #[.string ⟨#[]⟩, .bool false])) w' := ⟨by rw [h]; rfl, hb⟩
theorem size_app (a b : ByteArray) : (a ++ b).size = a.size + b.size := by simp
theorem draw2 {w wr : World} (h : Below w.heap.size w wr) (n : Nat) : Below w.heap.size w (wr.drewN n) := bthen h (below_drawn wr n)
set_option maxHeartbeats 4000000 in
set_option maxRecDepth 100000 in
theorem ref_Plain_wide {w : World} {A : Option Addr} (c : Nat) (r0 : List UInt8) (hb : Byt w A (254 :: 255 :: r0)) (hc : r0.length + 2 ≤ c) (hl : r0.length ≤ 1000) :
    Calls Tryz.prog 22 #[.slice A (r0.length + 2) c] w (PlainR (wS 0 r0) w) := by
  obtain ⟨b, off, rfl, hcell⟩ := hb.2 (by simp)
  have q0 : w.cell? ⟨b, off, none⟩ = some (.int .u8 254) := hcell 0 (by simp)
  have q1 : w.cell? ⟨b, off + 1, none⟩ = some (.int .u8 255) := hcell 1 (by simp)
  obtain ⟨bs, hbs⟩ : ∃ bs, bs = 254 :: 255 :: r0 := ⟨_, rfl⟩
  have hbl : r0.length + 2 = bs.length := by rw [hbs]; rfl
  have hd2 : r0 = bs.drop 2 := by rw [hbs]; rfl
  have hR1 : wS 0 r0 = wS 0 (bs.drop 2) := by rw [hd2]
  rw [hbl]
  obtain ⟨R, hR⟩ : ∃ R, R = wS 0 r0 := ⟨_, rfl⟩
  rw [← hR]
  rw [hR1] at hR
  have hlb : bs.length ≤ 1002 := by omega
  have hl2 : 2 ≤ bs.length := by omega
  rw [← hbs] at hb
  replace hR := Lib.hid hR
  replace hb := Lib.hid hb
  clear hR1 hd2 hbs hcell hl hc hbl r0
  by_cases hodd : bs.length % 2 = 0
  · have hod : ((bs.length : Int) % 2 == 1) = false := by simp; omega
    go_enter Tryz.func22, Tryz.ntmps22
    go_wp2
    clear hod q0 q1
    go_loopw [4, 5] (fun s4 s5 wr => RefL R bs w s4 s5 wr) (fun _ i _ => bs.length - (RowKit.intOf i).toNat)
    case atStart => exact ⟨2, ⟨#[]⟩, hl2, rfl, rfl, rfl, by simp [ByteArray.size], by rw [hR.out]; simp, Below.refl _ _⟩
    case round =>
      obtain ⟨i, S, hi, hi2, rfl, rfl, hSl, hRi, hB⟩ := hrel
      by_cases hlt : i < bs.length
      · have hlt1 : i + 1 < bs.length := by omega
        obtain ⟨b', off', he, hc⟩ := (hb.out.below hB).2 (by omega)
        cases he
        have hc0 := hc i hlt
        have hc1 := hc (i + 1) hlt1
        have hu0 := u8_lt bs[i]
        have hu1 := u8_lt bs[i + 1]
        have hdr : bs.drop i = bs[i] :: bs[i + 1] :: bs.drop (i + 2) := by
          rw [List.drop_eq_getElem_cons hlt, List.drop_eq_getElem_cons hlt1]
        rw [hdr] at hRi
        clear hdr
        generalize bs[i] = x0 at *
        generalize bs[i + 1] = x1 at *
        have hor := or16 x0.toNat x1.toNat (by omega) (by omega)
        obtain ⟨C, hC⟩ : ∃ C, C = two x0 x1 := ⟨_, rfl⟩
        have hCb : C < 65536 := by rw [hC]; exact two_lt _ _
        rw [show x0.toNat * 256 + x1.toNat = C from hC.symm] at hor
        obtain ⟨Z, hZ⟩ : ∃ Z : Int, Z = (C : Int) := ⟨_, rfl⟩
        rw [← hZ] at hor
        replace hRi := Lib.hid hRi
        replace hB := Lib.hid hB
        replace hb := Lib.hid hb
        replace hC := Lib.hid hC
        by_cases hs1 : 55296 ≤ C ∧ C ≤ 57343
        · by_cases hs2 : 56320 ≤ C
          · have hn := Lib.hid (rel_none hRi.out (wS_bad2 x0 x1 _ (by rw [← hC.out]; exact ⟨hs2, hs1.2⟩)))
            have g1 : 55296 ≤ Z := by omega
            have g2 : Z ≤ 57343 := by omega
            have g3 : 56320 ≤ Z := by omega
            clear hc hs1 hs2 hZ hCb hRi
            go_wp2
            go_quiet (fail)
            go_wp2
            go_ret2
            exact plainR_none hn.out (draw2 hB.out nq)
          · have hw := wS_half x0 x1 (bs.drop (i + 2)) (by rw [← hC.out]; exact ⟨hs1.1, by omega⟩)
            rw [← hC.out] at hw
            by_cases hsh : i + 3 < bs.length
            · have hlt2 : i + 2 < bs.length := by omega
              have hc2 := hc (i + 2) hlt2
              have hc3 := hc (i + 3) hsh
              have hu2 := u8_lt bs[i + 2]
              have hu3 := u8_lt bs[i + 3]
              have hdr : bs.drop (i + 2) = bs[i + 2] :: bs[i + 3] :: bs.drop (i + 4) := by
                rw [List.drop_eq_getElem_cons hlt2, List.drop_eq_getElem_cons hsh]
              rw [hdr] at hw hRi
              clear hdr hc
              generalize bs[i + 2] = y0 at *
              generalize bs[i + 3] = y1 at *
              have hor2 := or16 y0.toNat y1.toNat (by omega) (by omega)
              obtain ⟨D, hD⟩ : ∃ D, D = two y0 y1 := ⟨_, rfl⟩
              have hDb : D < 65536 := by rw [hD]; exact two_lt _ _
              rw [show y0.toNat * 256 + y1.toNat = D from hD.symm] at hor2
              obtain ⟨V, hV⟩ : ∃ V : Int, V = (D : Int) := ⟨_, rfl⟩
              rw [← hV] at hor2
              have hC0 : C ≠ 0 := by omega
              have g1 : 55296 ≤ Z := by omega
              have g2 : Z ≤ 57343 := by omega
              have g3 : Z < 56320 := by omega
              have g4 : ¬ 56320 ≤ Z := by omega
              replace hD := Lib.hid hD
              replace hw := Lib.hid hw
              by_cases hbad : D < 56320 ∨ 57343 < D
              · have hn := Lib.hid (rel_none hRi.out (hw.out.trans (wS_bad1 C y0 y1 _ hC0 (by rw [← hD.out]; exact hbad))))
                clear hs1 hs2 hZ hCb hRi hw hC0 hDb
                by_cases hbl : D < 56320
                · have g5 : V < 56320 := by omega
                  clear hbad hbl hV
                  go_wp2
                  go_quiet (fail)
                  go_wp2
                  go_quiet (fail)
                  go_wp2
                  go_ret2
                  exact plainR_none hn.out (draw2 hB.out _)
                · have g5 : ¬ V < 56320 := by omega
                  have g6 : 57343 < V := by omega
                  clear hbad hbl hV
                  go_wp2
                  go_quiet (fail)
                  go_wp2
                  go_quiet (fail)
                  go_wp2
                  go_ret2
                  exact plainR_none hn.out (draw2 hB.out _)
              · have hw1 := hw.out.trans (wS_pair C y0 y1 _ hC0 (by rw [← hD.out]; exact hbad))
                rw [← hD.out] at hw1
                have hn1 : Hid (signB ((pairS C D : Nat) : Int) = true → R = (wS 0 (bs.drop (i + 4))).map ((S.data.toList ++ encU (pairS C D)) ++ ·)) := Lib.hid fun hs => rel_next hRi.out (by rw [hw1, if_pos hs])
                have hn2 : Hid (signB ((pairS C D : Nat) : Int) = false → R = none) := Lib.hid fun hs => rel_none hRi.out (by rw [hw1, hs]; rfl)
                have hbd := pairS_bd C D (by omega) (by omega) (by omega) (by omega)
                have hXi := pairS_int C D (by omega) (by omega)
                rw [← hZ, ← hV] at hXi
                clear hw1 hw hRi
                generalize pairS C D = X at *
                have hXb : X ≤ 1114111 ∧ (X < 55296 ∨ 57343 < X) := by omega
                obtain ⟨Y, hYX⟩ : ∃ Y : Int, Y = (X : Int) := ⟨_, rfl⟩
                have hYe : 65536 + (Z - 55296) * 1024 + V - 56320 = Y := by rw [hYX, hXi]
                have g5 : ¬ V < 56320 := by omega
                have g6 : ¬ 57343 < V := by omega
                have g7 : 56320 ≤ V := by omega
                have g8 : V ≤ 57343 := by omega
                have hY1 : 65536 ≤ Y := by omega
                have hY2 : Y ≤ 1114111 := by omega
                clear hs1 hs2 hZ hCb hC0 hDb hbad hV hXi hbd
                obtain ⟨E, hEe⟩ : ∃ E, E = Utf8.encode (X : Int) := ⟨_, rfl⟩
                have hEn : Utf8.encode Y = E := by rw [hYX]; exact hEe.symm
                have hv : validB (X : Int) = true := by
                  unfold validB; simp only [Bool.or_eq_true, Bool.and_eq_true, decide_eq_true_eq]; omega
                have hle := enc_le X hv
                have hE : E.data.toList = encU X := by rw [hEe]; exact enc_data X
                have hEs : E.size = (encU X).length := by rw [← hE]; exact Array.length_toList.symm
                have hEs4 : E.size ≤ 4 := by omega
                have cs := fun (w : World) => ref_sign (w := w) Y
                rw [hYX] at cs
                clear hEe hv hle hEs
                generalize encU X = u at *
                replace hE := Lib.hid hE
                replace hXb := Lib.hid hXb
                by_cases hsb : signB (X : Int) = true
                · have hn := Lib.hid (hn1.out hsb)
                  rw [hsb, ← hYX] at cs
                  replace hsb := Lib.hid hsb
                  replace hYX := Lib.hid hYX
                  clear hn1 hn2
                  go_wp2
                  go_quiet (fail)
                  obtain ⟨n1, rfl⟩ : ∃ n1, n1 = nq := ⟨_, rfl⟩
                  go_wp2
                  go_quiet (fail)
                  have hcv : (convert 90 9 (.slice (some ⟨wr.heap.size, 0, none⟩) 1 1)).run Tryz.prog ((wr.drewN (n1 + nq)).alloc (.cells #[.int .i32 Y] 21)) = .ok (.string E) ((wr.drewN (n1 + nq)).alloc (.cells #[.int .i32 Y] 21)) := conv_rune (wr.drewN (n1 + nq)) Y E hEn
                  go_wp2_with (go_at_call 47; (with_reducible refine (cs _).mono ?_); rintro e w1 ⟨rfl, rfl⟩)
                  have hB2 : Below w.heap.size w ((wr.drewN (n1 + nq)).alloc (.cells #[.int .i32 Y] 21)) := (draw2 hB.out _).alloc hB.out.size _
                  exact ⟨⟨i + 4, S ++ E, by omega, by omega, by go_num, rfl, by rw [size_app]; omega, by rw [bytes_app, hE.out]; exact hn.out, hB2⟩, by simp [RowKit.intOf]; omega⟩
                · have hsb2 : signB (X : Int) = false := by simpa using hsb
                  have hn := Lib.hid (hn2.out hsb2)
                  rw [hsb2, ← hYX] at cs
                  replace hsb := Lib.hid hsb
                  replace hsb2 := Lib.hid hsb2
                  replace hYX := Lib.hid hYX
                  clear hn1 hn2
                  go_wp2
                  go_quiet (fail)
                  obtain ⟨n1, rfl⟩ : ∃ n1, n1 = nq := ⟨_, rfl⟩
                  go_wp2
                  go_quiet (fail)
                  go_wp2_with (go_at_call 47; (with_reducible refine (cs _).mono ?_); rintro e w1 ⟨rfl, rfl⟩)
                  go_ret2
                  exact plainR_none hn.out (draw2 hB.out _)
            · have hn : R = none := rel_none hRi.out (by
                have e : bs.drop (i + 2) = [] := List.drop_eq_nil_of_le (by omega)
                rw [hw, e]
                show (if C = 0 then _ else _) = _
                rw [if_neg (by omega)])
              replace hn := Lib.hid hn
              have g1 : 55296 ≤ Z := by omega
              have g2 : Z ≤ 57343 := by omega
              have g3 : ¬ 56320 ≤ Z := by omega
              have g4 : (bs.length : Int) ≤ (i : Int) + 3 := by omega
              clear hc hs1 hs2 hZ hCb hRi hw
              go_wp2
              go_quiet (fail)
              go_wp2
              go_ret2
              exact plainR_none hn.out (draw2 hB.out nq)
        · have hw1 := wS_one x0 x1 (bs.drop (i + 2)) (by rw [← hC.out]; exact hs1)
          rw [← hC.out] at hw1
          have hn1 : Hid (signB (C : Int) = true → R = (wS 0 (bs.drop (i + 2))).map ((S.data.toList ++ encU C) ++ ·)) := Lib.hid fun hs => rel_next hRi.out (by rw [hw1, if_pos hs])
          have hn2 : Hid (signB (C : Int) = false → R = none) := Lib.hid fun hs => rel_none hRi.out (by rw [hw1, hs]; rfl)
          have hXb : C ≤ 1114111 ∧ (C < 55296 ∨ 57343 < C) := by omega
          clear hw1 hc hRi
          by_cases hlo : C < 55296
          · have g1 : ¬ 55296 ≤ Z := by omega
            have g2 : 0 ≤ Z := by omega
            have g3 : Z ≤ 65535 := by omega
            have hYX : Z = (C : Int) := hZ
            clear hlo hs1 hZ hCb
            obtain ⟨E, hEe⟩ : ∃ E, E = Utf8.encode (C : Int) := ⟨_, rfl⟩
            have hEn : Utf8.encode Z = E := by rw [hYX]; exact hEe.symm
            have hv : validB (C : Int) = true := by
              unfold validB; simp only [Bool.or_eq_true, Bool.and_eq_true, decide_eq_true_eq]; omega
            have hle := enc_le C hv
            have hE : E.data.toList = encU C := by rw [hEe]; exact enc_data C
            have hEs : E.size = (encU C).length := by rw [← hE]; exact Array.length_toList.symm
            have hEs4 : E.size ≤ 4 := by omega
            have cs := fun (w : World) => ref_sign (w := w) Z
            rw [hYX] at cs
            clear hEe hv hle hEs
            generalize encU C = u at *
            replace hE := Lib.hid hE
            replace hXb := Lib.hid hXb
            by_cases hsb : signB (C : Int) = true
            · have hn := Lib.hid (hn1.out hsb)
              rw [hsb, ← hYX] at cs
              replace hsb := Lib.hid hsb
              replace hYX := Lib.hid hYX
              clear hn1 hn2
              go_wp2
              go_quiet (fail)
              have hcv : (convert 90 9 (.slice (some ⟨wr.heap.size, 0, none⟩) 1 1)).run Tryz.prog ((wr.drewN nq).alloc (.cells #[.int .i32 Z] 21)) = .ok (.string E) ((wr.drewN nq).alloc (.cells #[.int .i32 Z] 21)) := conv_rune (wr.drewN nq) Z E hEn
              go_wp2_with (go_at_call 47; (with_reducible refine (cs _).mono ?_); rintro e w1 ⟨rfl, rfl⟩)
              have hB2 : Below w.heap.size w ((wr.drewN nq).alloc (.cells #[.int .i32 Z] 21)) := (draw2 hB.out nq).alloc hB.out.size _
              exact ⟨⟨i + 2, S ++ E, by omega, by omega, by go_num, rfl, by rw [size_app]; omega, by rw [bytes_app, hE.out]; exact hn.out, hB2⟩, by simp [RowKit.intOf]; omega⟩
            · have hsb2 : signB (C : Int) = false := by simpa using hsb
              have hn := Lib.hid (hn2.out hsb2)
              rw [hsb2, ← hYX] at cs
              replace hsb := Lib.hid hsb
              replace hsb2 := Lib.hid hsb2
              replace hYX := Lib.hid hYX
              clear hn1 hn2
              go_wp2
              go_quiet (fail)
              go_wp2_with (go_at_call 47; (with_reducible refine (cs _).mono ?_); rintro e w1 ⟨rfl, rfl⟩)
              go_ret2
              exact plainR_none hn.out (draw2 hB.out nq)
          · have g1 : 55296 ≤ Z := by omega
            have g2 : ¬ Z ≤ 57343 := by omega
            have g3 : Z ≤ 65535 := by omega
            have hYX : Z = (C : Int) := hZ
            clear hlo hs1 hZ hCb
            obtain ⟨E, hEe⟩ : ∃ E, E = Utf8.encode (C : Int) := ⟨_, rfl⟩
            have hEn : Utf8.encode Z = E := by rw [hYX]; exact hEe.symm
            have hv : validB (C : Int) = true := by
              unfold validB; simp only [Bool.or_eq_true, Bool.and_eq_true, decide_eq_true_eq]; omega
            have hle := enc_le C hv
            have hE : E.data.toList = encU C := by rw [hEe]; exact enc_data C
            have hEs : E.size = (encU C).length := by rw [← hE]; exact Array.length_toList.symm
            have hEs4 : E.size ≤ 4 := by omega
            have cs := fun (w : World) => ref_sign (w := w) Z
            rw [hYX] at cs
            clear hEe hv hle hEs
            generalize encU C = u at *
            replace hE := Lib.hid hE
            replace hXb := Lib.hid hXb
            by_cases hsb : signB (C : Int) = true
            · have hn := Lib.hid (hn1.out hsb)
              rw [hsb, ← hYX] at cs
              replace hsb := Lib.hid hsb
              replace hYX := Lib.hid hYX
              clear hn1 hn2
              go_wp2
              go_quiet (fail)
              have hcv : (convert 90 9 (.slice (some ⟨wr.heap.size, 0, none⟩) 1 1)).run Tryz.prog ((wr.drewN nq).alloc (.cells #[.int .i32 Z] 21)) = .ok (.string E) ((wr.drewN nq).alloc (.cells #[.int .i32 Z] 21)) := conv_rune (wr.drewN nq) Z E hEn
              go_wp2_with (go_at_call 47; (with_reducible refine (cs _).mono ?_); rintro e w1 ⟨rfl, rfl⟩)
              have hB2 : Below w.heap.size w ((wr.drewN nq).alloc (.cells #[.int .i32 Z] 21)) := (draw2 hB.out nq).alloc hB.out.size _
              exact ⟨⟨i + 2, S ++ E, by omega, by omega, by go_num, rfl, by rw [size_app]; omega, by rw [bytes_app, hE.out]; exact hn.out, hB2⟩, by simp [RowKit.intOf]; omega⟩
            · have hsb2 : signB (C : Int) = false := by simpa using hsb
              have hn := Lib.hid (hn2.out hsb2)
              rw [hsb2, ← hYX] at cs
              replace hsb := Lib.hid hsb
              replace hsb2 := Lib.hid hsb2
              replace hYX := Lib.hid hYX
              clear hn1 hn2
              go_wp2
              go_quiet (fail)
              go_wp2_with (go_at_call 47; (with_reducible refine (cs _).mono ?_); rintro e w1 ⟨rfl, rfl⟩)
              go_ret2
              exact plainR_none hn.out (draw2 hB.out nq)
      · obtain rfl : i = bs.length := by omega
        rw [List.drop_length] at hRi
        have hn : R = some S.data.toList := by rw [hRi]; simp [wS]
        replace hn := Lib.hid hn
        clear hRi hb hlt
        replace hB := Lib.hid hB
        go_wp2
        go_ret2
        exact ⟨by rw [hn.out]; rfl, hB.out⟩
  · have hod : ((bs.length : Int) % 2 == 1) = true := by simp; omega
    have hn : R = none := by
      rw [hR.out]
      exact wS_odd (bs.length - 2) _ _ (by simp) (by omega)
    replace hn := Lib.hid hn
    go_enter Tryz.func22, Tryz.ntmps22
    go_wp2
    go_ret2
    exact plainR_none hn.out (Below.refl _ _)
def LatR (R : Option (List UInt8)) (bs : List UInt8) (w : World) (s4 s8 : Value) (wr : World) : Prop :=
  ∃ (k : Nat) (S : ByteArray), k ≤ bs.length ∧ s8 = .int .i64 k ∧ s4 = .string S ∧ S.size ≤ 4 * k ∧ R = (lS (bs.drop k)).map (S.data.toList ++ ·) ∧ Below w.heap.size w wr
set_option maxHeartbeats 4000000 in
set_option maxRecDepth 100000 in
theorem ref_Plain_lat {w : World} {A : Option Addr} {bs : List UInt8} (c : Nat) (hb : Byt w A bs) (hl : bs.length ≤ 1000) (hp : hasPrefix bs [254, 255] = false) :
    Calls Tryz.prog 22 #[.slice A bs.length c] w (PlainR (lS bs) w) := by
  obtain ⟨R, hR⟩ : ∃ R, R = lS bs := ⟨_, rfl⟩
  rw [← hR]
  have hcs : bs.length < 2 ∨ ∃ (h : 1 < bs.length), bs[0] ≠ 254 ∨ (bs[0] = 254 ∧ bs[1] ≠ 255) := by
    match bs, hp with
    | [], _ => left; simp
    | [_], _ => left; simp
    | a :: b :: r, hp =>
      right
      refine ⟨by simp, ?_⟩
      by_cases ha : a = 254
      · right
        refine ⟨ha, fun hb => ?_⟩
        have hb' : b = 255 := hb
        subst ha; subst hb'
        simp [hasPrefix, List.isPrefixOf] at hp
      · left; exact ha
  replace hR := Lib.hid hR
  replace hp := Lib.hid hp
  have hb0 := Lib.hid hb
  have hne : ∀ (x : UInt8) (n : UInt8), x ≠ n → ((x.toNat : Int) == (n.toNat : Int)) = false := fun x n h => by
    rw [beq_eq_false_iff_ne]; intro e; exact h (UInt8.toNat_inj.1 (by omega))
  rcases hcs with hsh | ⟨h1, hsh⟩
  · have g1 : (bs.length : Int) < 2 := by omega
    clear hb hne
    go_enter Tryz.func22, Tryz.ntmps22
    go_wp2
    clear hsh g1
    go_loopw [4, 8] (fun s4 s8 wr => LatR R bs w s4 s8 wr) (fun _ i _ => bs.length - (RowKit.intOf i).toNat)
    case atStart => exact ⟨0, ⟨#[]⟩, Nat.zero_le _, rfl, rfl, by simp [ByteArray.size], by rw [hR.out]; simp, Below.refl _ _⟩
    case round =>
      obtain ⟨k, S, hk, rfl, rfl, hSl, hRk, hB⟩ := hrel
      by_cases hlt : k < bs.length
      · obtain ⟨b, off, rfl, hcell⟩ := (hb0.out.below hB).2 (by omega)
        have hck := hcell k hlt
        have hu := u8_lt bs[k]
        have hu0 : (0 : Int) ≤ (bs[k].toNat : Int) := Int.natCast_nonneg _
        have hdr : bs.drop k = bs[k] :: bs.drop (k + 1) := List.drop_eq_getElem_cons hlt
        rw [hdr] at hRk
        have hok := okB_cases bs[k]
        have hn1 := Lib.hid (fun h => lS_yes hRk h)
        have hn2 := Lib.hid (fun h => lS_no hRk h)
        clear hdr hcell hb0 hRk
        generalize bs[k] = x at *
        obtain ⟨E, hEe⟩ : ∃ E, E = Utf8.encode (x.toNat : Int) := ⟨_, rfl⟩
        have hEn : Utf8.encode (x.toNat : Int) = E := hEe.symm
        have hv : validB (x.toNat : Int) = true := by
          unfold validB; simp only [Bool.or_eq_true, Bool.and_eq_true, decide_eq_true_eq]; omega
        have hle := enc_le x.toNat hv
        have hE : E.data.toList = encU x.toNat := by rw [hEe]; exact enc_data _
        have hEs : E.size = (encU x.toNat).length := by rw [← hE]; exact Array.length_toList.symm
        have hEs4 : E.size ≤ 4 := by omega
        clear hEe hv hEs hle
        generalize encU x.toNat = u at *
        generalize okB x = K at *
        generalize hZ : (x.toNat : Int) = Z at *
        replace hE := Lib.hid hE
        replace hok := Lib.hid hok
        replace hB := Lib.hid hB
        have hcv : (convert 90 9 (.slice (some ⟨wr.heap.size, 0, none⟩) 1 1)).run Tryz.prog (wr.alloc (.cells #[.int .i32 Z] 21)) = .ok (.string E) (wr.alloc (.cells #[.int .i32 Z] 21)) := conv_rune wr Z E hEn
        have hB2 := Lib.hid (hB.out.alloc hB.out.size (.cells #[.int .i32 Z] 21))
        have hcs : Z = 9 ∨ Z = 10 ∨ Z = 13 ∨ (32 ≤ Z ∧ Z ≤ 126) ∨ 161 ≤ Z ∨ (Z < 32 ∧ ¬ Z = 9 ∧ ¬ Z = 10 ∧ ¬ Z = 13) ∨ (126 < Z ∧ Z < 161) := by omega
        rcases hcs with rfl | rfl | rfl | ⟨h1, h2⟩ | h1 | ⟨h1, h2, h3, h4⟩ | ⟨h1, h2⟩
        · have hK : K = true := by rw [hok.out]; simp; try omega
          have hn := Lib.hid (hn1.out hK)
          replace hZ := Lib.hid hZ
          replace hK := Lib.hid hK
          clear hn1 hn2
          go_wp2
          exact ⟨⟨k + 1, S ++ E, by omega, by go_num, rfl, by rw [size_app]; omega, by rw [bytes_app, hE.out]; exact hn.out, hB2.out⟩, by simp [RowKit.intOf]; omega⟩
        · have hK : K = true := by rw [hok.out]; simp; try omega
          have hn := Lib.hid (hn1.out hK)
          replace hZ := Lib.hid hZ
          replace hK := Lib.hid hK
          clear hn1 hn2
          go_wp2
          exact ⟨⟨k + 1, S ++ E, by omega, by go_num, rfl, by rw [size_app]; omega, by rw [bytes_app, hE.out]; exact hn.out, hB2.out⟩, by simp [RowKit.intOf]; omega⟩
        · have hK : K = true := by rw [hok.out]; simp; try omega
          have hn := Lib.hid (hn1.out hK)
          replace hZ := Lib.hid hZ
          replace hK := Lib.hid hK
          clear hn1 hn2
          go_wp2
          exact ⟨⟨k + 1, S ++ E, by omega, by go_num, rfl, by rw [size_app]; omega, by rw [bytes_app, hE.out]; exact hn.out, hB2.out⟩, by simp [RowKit.intOf]; omega⟩
        · have g1 : ¬ 126 < Z := by omega
          have hK : K = true := by rw [hok.out]; simp; try omega
          have hn := Lib.hid (hn1.out hK)
          replace hZ := Lib.hid hZ
          replace hK := Lib.hid hK
          clear hn1 hn2
          go_wp2
          exact ⟨⟨k + 1, S ++ E, by omega, by go_num, rfl, by rw [size_app]; omega, by rw [bytes_app, hE.out]; exact hn.out, hB2.out⟩, by simp [RowKit.intOf]; omega⟩
        · have g1 : 32 ≤ Z := by omega
          have g2 : 126 < Z := by omega
          have g3 : (Z == 9) = false := by simp; omega
          have g4 : (Z == 10) = false := by simp; omega
          have g5 : (Z == 13) = false := by simp; omega
          have g6 : ¬ Z ≤ 126 := by omega
          have hK : K = true := by rw [hok.out]; simp; try omega
          have hn := Lib.hid (hn1.out hK)
          replace hZ := Lib.hid hZ
          replace hK := Lib.hid hK
          clear hn1 hn2
          go_wp2
          exact ⟨⟨k + 1, S ++ E, by omega, by go_num, rfl, by rw [size_app]; omega, by rw [bytes_app, hE.out]; exact hn.out, hB2.out⟩, by simp [RowKit.intOf]; omega⟩
        · have g1 : ¬ 32 ≤ Z := by omega
          have g2 : ¬ 161 ≤ Z := by omega
          have g3 : (Z == 9) = false := by simp; omega
          have g4 : (Z == 10) = false := by simp; omega
          have g5 : (Z == 13) = false := by simp; omega
          have hK : K = false := by rw [hok.out]; simp; try omega
          have hn := Lib.hid (hn2.out hK)
          replace hZ := Lib.hid hZ
          replace hK := Lib.hid hK
          clear hn1 hn2
          go_wp2
          go_ret2
          exact plainR_none hn.out hB.out
        · have g1 : 32 ≤ Z := by omega
          have g2 : ¬ 161 ≤ Z := by omega
          have g3 : (Z == 9) = false := by simp; omega
          have g4 : (Z == 10) = false := by simp; omega
          have g5 : (Z == 13) = false := by simp; omega
          have g6 : ¬ Z ≤ 126 := by omega
          have hK : K = false := by rw [hok.out]; simp; try omega
          have hn := Lib.hid (hn2.out hK)
          replace hZ := Lib.hid hZ
          replace hK := Lib.hid hK
          clear hn1 hn2
          go_wp2
          go_ret2
          exact plainR_none hn.out hB.out
      · obtain rfl : k = bs.length := by omega
        rw [List.drop_length] at hRk
        have hn : R = some S.data.toList := by rw [hRk]; simp [lS]
        replace hn := Lib.hid hn
        clear hRk hb0 hlt
        replace hB := Lib.hid hB
        go_wp2
        go_ret2
        exact ⟨by rw [hn.out]; rfl, hB.out⟩
  · obtain ⟨b, off, rfl, hcell⟩ := hb.2 (by omega)
    have q0 : w.cell? ⟨b, off, none⟩ = some (.int .u8 (bs[0].toNat : Int)) := hcell 0 (by omega)
    have q1 : w.cell? ⟨b, off + 1, none⟩ = some (.int .u8 (bs[1].toNat : Int)) := hcell 1 h1
    have g1 : ¬ (bs.length : Int) < 2 := by omega
    rcases hsh with h | ⟨h, h2⟩
    · have g2 : ((bs[0].toNat : Int) == 254) = false := hne _ 254 h
      generalize (bs[0].toNat : Int) = v0 at *
      clear hcell hb hne q1 h
      go_enter Tryz.func22, Tryz.ntmps22
      go_wp2
      clear g1 g2 q0
      go_loopw [4, 8] (fun s4 s8 wr => LatR R bs w s4 s8 wr) (fun _ i _ => bs.length - (RowKit.intOf i).toNat)
      case atStart => exact ⟨0, ⟨#[]⟩, Nat.zero_le _, rfl, rfl, by simp [ByteArray.size], by rw [hR.out]; simp, Below.refl _ _⟩
      case round =>
        obtain ⟨k, S, hk, rfl, rfl, hSl, hRk, hB⟩ := hrel
        by_cases hlt : k < bs.length
        · obtain ⟨b2, off2, he, hcell⟩ := (hb0.out.below hB).2 (by omega)
          cases he
          have hck := hcell k hlt
          have hu := u8_lt bs[k]
          have hu0 : (0 : Int) ≤ (bs[k].toNat : Int) := Int.natCast_nonneg _
          have hdr : bs.drop k = bs[k] :: bs.drop (k + 1) := List.drop_eq_getElem_cons hlt
          rw [hdr] at hRk
          have hok := okB_cases bs[k]
          have hn1 := Lib.hid (fun h => lS_yes hRk h)
          have hn2 := Lib.hid (fun h => lS_no hRk h)
          clear hdr hcell hb0 hRk
          generalize bs[k] = x at *
          obtain ⟨E, hEe⟩ : ∃ E, E = Utf8.encode (x.toNat : Int) := ⟨_, rfl⟩
          have hEn : Utf8.encode (x.toNat : Int) = E := hEe.symm
          have hv : validB (x.toNat : Int) = true := by
            unfold validB; simp only [Bool.or_eq_true, Bool.and_eq_true, decide_eq_true_eq]; omega
          have hle := enc_le x.toNat hv
          have hE : E.data.toList = encU x.toNat := by rw [hEe]; exact enc_data _
          have hEs : E.size = (encU x.toNat).length := by rw [← hE]; exact Array.length_toList.symm
          have hEs4 : E.size ≤ 4 := by omega
          clear hEe hv hEs hle
          generalize encU x.toNat = u at *
          generalize okB x = K at *
          generalize hZ : (x.toNat : Int) = Z at *
          replace hE := Lib.hid hE
          replace hok := Lib.hid hok
          replace hB := Lib.hid hB
          have hcv : (convert 90 9 (.slice (some ⟨wr.heap.size, 0, none⟩) 1 1)).run Tryz.prog (wr.alloc (.cells #[.int .i32 Z] 21)) = .ok (.string E) (wr.alloc (.cells #[.int .i32 Z] 21)) := conv_rune wr Z E hEn
          have hB2 := Lib.hid (hB.out.alloc hB.out.size (.cells #[.int .i32 Z] 21))
          have hcs : Z = 9 ∨ Z = 10 ∨ Z = 13 ∨ (32 ≤ Z ∧ Z ≤ 126) ∨ 161 ≤ Z ∨ (Z < 32 ∧ ¬ Z = 9 ∧ ¬ Z = 10 ∧ ¬ Z = 13) ∨ (126 < Z ∧ Z < 161) := by omega
          rcases hcs with rfl | rfl | rfl | ⟨h1, h2⟩ | h1 | ⟨h1, h2, h3, h4⟩ | ⟨h1, h2⟩
          · have hK : K = true := by rw [hok.out]; simp; try omega
            have hn := Lib.hid (hn1.out hK)
            replace hZ := Lib.hid hZ
            replace hK := Lib.hid hK
            clear hn1 hn2
            go_wp2
            exact ⟨⟨k + 1, S ++ E, by omega, by go_num, rfl, by rw [size_app]; omega, by rw [bytes_app, hE.out]; exact hn.out, hB2.out⟩, by simp [RowKit.intOf]; omega⟩
          · have hK : K = true := by rw [hok.out]; simp; try omega
            have hn := Lib.hid (hn1.out hK)
            replace hZ := Lib.hid hZ
            replace hK := Lib.hid hK
            clear hn1 hn2
            go_wp2
            exact ⟨⟨k + 1, S ++ E, by omega, by go_num, rfl, by rw [size_app]; omega, by rw [bytes_app, hE.out]; exact hn.out, hB2.out⟩, by simp [RowKit.intOf]; omega⟩
          · have hK : K = true := by rw [hok.out]; simp; try omega
            have hn := Lib.hid (hn1.out hK)
            replace hZ := Lib.hid hZ
            replace hK := Lib.hid hK
            clear hn1 hn2
            go_wp2
            exact ⟨⟨k + 1, S ++ E, by omega, by go_num, rfl, by rw [size_app]; omega, by rw [bytes_app, hE.out]; exact hn.out, hB2.out⟩, by simp [RowKit.intOf]; omega⟩
          · have g1 : ¬ 126 < Z := by omega
            have hK : K = true := by rw [hok.out]; simp; try omega
            have hn := Lib.hid (hn1.out hK)
            replace hZ := Lib.hid hZ
            replace hK := Lib.hid hK
            clear hn1 hn2
            go_wp2
            exact ⟨⟨k + 1, S ++ E, by omega, by go_num, rfl, by rw [size_app]; omega, by rw [bytes_app, hE.out]; exact hn.out, hB2.out⟩, by simp [RowKit.intOf]; omega⟩
          · have g1 : 32 ≤ Z := by omega
            have g2 : 126 < Z := by omega
            have g3 : (Z == 9) = false := by simp; omega
            have g4 : (Z == 10) = false := by simp; omega
            have g5 : (Z == 13) = false := by simp; omega
            have g6 : ¬ Z ≤ 126 := by omega
            have hK : K = true := by rw [hok.out]; simp; try omega
            have hn := Lib.hid (hn1.out hK)
            replace hZ := Lib.hid hZ
            replace hK := Lib.hid hK
            clear hn1 hn2
            go_wp2
            exact ⟨⟨k + 1, S ++ E, by omega, by go_num, rfl, by rw [size_app]; omega, by rw [bytes_app, hE.out]; exact hn.out, hB2.out⟩, by simp [RowKit.intOf]; omega⟩
          · have g1 : ¬ 32 ≤ Z := by omega
            have g2 : ¬ 161 ≤ Z := by omega
            have g3 : (Z == 9) = false := by simp; omega
            have g4 : (Z == 10) = false := by simp; omega
            have g5 : (Z == 13) = false := by simp; omega
            have hK : K = false := by rw [hok.out]; simp; try omega
            have hn := Lib.hid (hn2.out hK)
            replace hZ := Lib.hid hZ
            replace hK := Lib.hid hK
            clear hn1 hn2
            go_wp2
            go_ret2
            exact plainR_none hn.out hB.out
          · have g1 : 32 ≤ Z := by omega
            have g2 : ¬ 161 ≤ Z := by omega
            have g3 : (Z == 9) = false := by simp; omega
            have g4 : (Z == 10) = false := by simp; omega
            have g5 : (Z == 13) = false := by simp; omega
            have g6 : ¬ Z ≤ 126 := by omega
            have hK : K = false := by rw [hok.out]; simp; try omega
            have hn := Lib.hid (hn2.out hK)
            replace hZ := Lib.hid hZ
            replace hK := Lib.hid hK
            clear hn1 hn2
            go_wp2
            go_ret2
            exact plainR_none hn.out hB.out
        · obtain rfl : k = bs.length := by omega
          rw [List.drop_length] at hRk
          have hn : R = some S.data.toList := by rw [hRk]; simp [lS]
          replace hn := Lib.hid hn
          clear hRk hb0 hlt
          replace hB := Lib.hid hB
          go_wp2
          go_ret2
          exact ⟨by rw [hn.out]; rfl, hB.out⟩
    · have g2 : ((bs[1].toNat : Int) == 255) = false := hne _ 255 h2
      rw [h] at q0
      have q0 : w.cell? ⟨b, off, none⟩ = some (.int .u8 254) := q0
      generalize (bs[1].toNat : Int) = v1 at *
      clear hcell hb hne h h2
      go_enter Tryz.func22, Tryz.ntmps22
      go_wp2
      clear g1 g2 q0 q1
      go_loopw [4, 8] (fun s4 s8 wr => LatR R bs w s4 s8 wr) (fun _ i _ => bs.length - (RowKit.intOf i).toNat)
      case atStart => exact ⟨0, ⟨#[]⟩, Nat.zero_le _, rfl, rfl, by simp [ByteArray.size], by rw [hR.out]; simp, Below.refl _ _⟩
      case round =>
        obtain ⟨k, S, hk, rfl, rfl, hSl, hRk, hB⟩ := hrel
        by_cases hlt : k < bs.length
        · obtain ⟨b2, off2, he, hcell⟩ := (hb0.out.below hB).2 (by omega)
          cases he
          have hck := hcell k hlt
          have hu := u8_lt bs[k]
          have hu0 : (0 : Int) ≤ (bs[k].toNat : Int) := Int.natCast_nonneg _
          have hdr : bs.drop k = bs[k] :: bs.drop (k + 1) := List.drop_eq_getElem_cons hlt
          rw [hdr] at hRk
          have hok := okB_cases bs[k]
          have hn1 := Lib.hid (fun h => lS_yes hRk h)
          have hn2 := Lib.hid (fun h => lS_no hRk h)
          clear hdr hcell hb0 hRk
          generalize bs[k] = x at *
          obtain ⟨E, hEe⟩ : ∃ E, E = Utf8.encode (x.toNat : Int) := ⟨_, rfl⟩
          have hEn : Utf8.encode (x.toNat : Int) = E := hEe.symm
          have hv : validB (x.toNat : Int) = true := by
            unfold validB; simp only [Bool.or_eq_true, Bool.and_eq_true, decide_eq_true_eq]; omega
          have hle := enc_le x.toNat hv
          have hE : E.data.toList = encU x.toNat := by rw [hEe]; exact enc_data _
          have hEs : E.size = (encU x.toNat).length := by rw [← hE]; exact Array.length_toList.symm
          have hEs4 : E.size ≤ 4 := by omega
          clear hEe hv hEs hle
          generalize encU x.toNat = u at *
          generalize okB x = K at *
          generalize hZ : (x.toNat : Int) = Z at *
          replace hE := Lib.hid hE
          replace hok := Lib.hid hok
          replace hB := Lib.hid hB
          have hcv : (convert 90 9 (.slice (some ⟨wr.heap.size, 0, none⟩) 1 1)).run Tryz.prog (wr.alloc (.cells #[.int .i32 Z] 21)) = .ok (.string E) (wr.alloc (.cells #[.int .i32 Z] 21)) := conv_rune wr Z E hEn
          have hB2 := Lib.hid (hB.out.alloc hB.out.size (.cells #[.int .i32 Z] 21))
          have hcs : Z = 9 ∨ Z = 10 ∨ Z = 13 ∨ (32 ≤ Z ∧ Z ≤ 126) ∨ 161 ≤ Z ∨ (Z < 32 ∧ ¬ Z = 9 ∧ ¬ Z = 10 ∧ ¬ Z = 13) ∨ (126 < Z ∧ Z < 161) := by omega
          rcases hcs with rfl | rfl | rfl | ⟨h1, h2⟩ | h1 | ⟨h1, h2, h3, h4⟩ | ⟨h1, h2⟩
          · have hK : K = true := by rw [hok.out]; simp; try omega
            have hn := Lib.hid (hn1.out hK)
            replace hZ := Lib.hid hZ
            replace hK := Lib.hid hK
            clear hn1 hn2
            go_wp2
            exact ⟨⟨k + 1, S ++ E, by omega, by go_num, rfl, by rw [size_app]; omega, by rw [bytes_app, hE.out]; exact hn.out, hB2.out⟩, by simp [RowKit.intOf]; omega⟩
          · have hK : K = true := by rw [hok.out]; simp; try omega
            have hn := Lib.hid (hn1.out hK)
            replace hZ := Lib.hid hZ
            replace hK := Lib.hid hK
            clear hn1 hn2
            go_wp2
            exact ⟨⟨k + 1, S ++ E, by omega, by go_num, rfl, by rw [size_app]; omega, by rw [bytes_app, hE.out]; exact hn.out, hB2.out⟩, by simp [RowKit.intOf]; omega⟩
          · have hK : K = true := by rw [hok.out]; simp; try omega
            have hn := Lib.hid (hn1.out hK)
            replace hZ := Lib.hid hZ
            replace hK := Lib.hid hK
            clear hn1 hn2
            go_wp2
            exact ⟨⟨k + 1, S ++ E, by omega, by go_num, rfl, by rw [size_app]; omega, by rw [bytes_app, hE.out]; exact hn.out, hB2.out⟩, by simp [RowKit.intOf]; omega⟩
          · have g1 : ¬ 126 < Z := by omega
            have hK : K = true := by rw [hok.out]; simp; try omega
            have hn := Lib.hid (hn1.out hK)
            replace hZ := Lib.hid hZ
            replace hK := Lib.hid hK
            clear hn1 hn2
            go_wp2
            exact ⟨⟨k + 1, S ++ E, by omega, by go_num, rfl, by rw [size_app]; omega, by rw [bytes_app, hE.out]; exact hn.out, hB2.out⟩, by simp [RowKit.intOf]; omega⟩
          · have g1 : 32 ≤ Z := by omega
            have g2 : 126 < Z := by omega
            have g3 : (Z == 9) = false := by simp; omega
            have g4 : (Z == 10) = false := by simp; omega
            have g5 : (Z == 13) = false := by simp; omega
            have g6 : ¬ Z ≤ 126 := by omega
            have hK : K = true := by rw [hok.out]; simp; try omega
            have hn := Lib.hid (hn1.out hK)
            replace hZ := Lib.hid hZ
            replace hK := Lib.hid hK
            clear hn1 hn2
            go_wp2
            exact ⟨⟨k + 1, S ++ E, by omega, by go_num, rfl, by rw [size_app]; omega, by rw [bytes_app, hE.out]; exact hn.out, hB2.out⟩, by simp [RowKit.intOf]; omega⟩
          · have g1 : ¬ 32 ≤ Z := by omega
            have g2 : ¬ 161 ≤ Z := by omega
            have g3 : (Z == 9) = false := by simp; omega
            have g4 : (Z == 10) = false := by simp; omega
            have g5 : (Z == 13) = false := by simp; omega
            have hK : K = false := by rw [hok.out]; simp; try omega
            have hn := Lib.hid (hn2.out hK)
            replace hZ := Lib.hid hZ
            replace hK := Lib.hid hK
            clear hn1 hn2
            go_wp2
            go_ret2
            exact plainR_none hn.out hB.out
          · have g1 : 32 ≤ Z := by omega
            have g2 : ¬ 161 ≤ Z := by omega
            have g3 : (Z == 9) = false := by simp; omega
            have g4 : (Z == 10) = false := by simp; omega
            have g5 : (Z == 13) = false := by simp; omega
            have g6 : ¬ Z ≤ 126 := by omega
            have hK : K = false := by rw [hok.out]; simp; try omega
            have hn := Lib.hid (hn2.out hK)
            replace hZ := Lib.hid hZ
            replace hK := Lib.hid hK
            clear hn1 hn2
            go_wp2
            go_ret2
            exact plainR_none hn.out hB.out
        · obtain rfl : k = bs.length := by omega
          rw [List.drop_length] at hRk
          have hn : R = some S.data.toList := by rw [hRk]; simp [lS]
          replace hn := Lib.hid hn
          clear hRk hb0 hlt
          replace hB := Lib.hid hB
          go_wp2
          go_ret2
          exact ⟨by rw [hn.out]; rfl, hB.out⟩
theorem ref_Plain {w : World} {A : Option Addr} {bs : List UInt8} (c : Nat) (hb : Byt w A bs) (hc : bs.length ≤ c) (hl : bs.length ≤ 1000) :
    Calls Tryz.prog 22 #[.slice A bs.length c] w (PlainR (plainS bs) w) := by
  cases hp : hasPrefix bs [254, 255] with
  | false => rw [plainS_not bs hp]; exact ref_Plain_lat c hb hl hp
  | true =>
    obtain ⟨r, rfl⟩ := pre_shape bs hp
    exact ref_Plain_wide c r hb (by simpa using hc) (by simp at hl; omega)
end Go.Proofs.YtkpikpaepgknnaaGreatDoor

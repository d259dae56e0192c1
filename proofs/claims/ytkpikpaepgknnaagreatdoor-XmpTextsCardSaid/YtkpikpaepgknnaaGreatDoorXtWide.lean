/- A text of two bytes a sign. No condition. -/
import Derived.Test.YtkpikpaepgknnaaGreatDoorXtSigns
import Derived.Lib.AppendStr
import Derived.Laws.BitsAllLaws
set_option linter.unusedVariables false
namespace Go.Proofs.YtkpikpaepgknnaaGreatDoor
open Go Go.RowKit Go.Wk Go.Xt Go.Lib
def WideR (R : Option (List UInt8)) (w : World) (e : Ending) (w' : World) : Prop := ∃ o, e = .returned (.tuple #[str o, .bool R.isSome]) ∧ (∀ r, R = some r → o = r) ∧ Below w.heap.size w w'
theorem signs_enc (x : Nat) (h : validB (x : Int) = true) : signsB (encU x) = signB (x : Int) := by
  have hp := enc_pos x h
  have hd := dec_enc x h
  have hne : encU x ≠ [] := List.length_pos_iff.1 hp
  unfold signsB
  rw [partsS_cons _ hne, hd]
  simp only [List.drop_length, partsS_nil, List.all_cons, List.all_nil, Bool.and_true]
  unfold nextOk signV
  rw [hd, h]
  by_cases hx : x = 65533
  · subst hx
    have : (encU 65533).length = 3 := by
      rcases enc_cases 65533 h with ⟨h1, e⟩ | ⟨h1, h2, e⟩ | ⟨h1, h2, h3, e⟩ | ⟨h1, h2, e⟩
      · omega
      · omega
      · rw [e]; rfl
      · omega
    rw [this]; simp
  · simp [hx]
def WideL (R : Option (List UInt8)) (bs : List UInt8) (w : World) (s4 s5 s6 : Value) (wr : World) : Prop :=
  ∃ (i half : Nat) (o : List UInt8), i ≤ bs.length ∧ i % 2 = 0 ∧ s6 = .int .i64 i ∧ s5 = .int .i32 half ∧ (half = 0 ∨ 55296 ≤ half ∧ half < 56320) ∧ wr.ownsRow w.heap.size 5 1 s4 o.length (valsB o) ∧ o.length ≤ 4 * i ∧ R = (wS half (bs.drop i)).map (o ++ ·) ∧ Below w.heap.size w wr
theorem or16 (a b : Nat) (ha : a < 256) (hb : b < 256) : bits .or .i32 ((a : Int) * 256) (b : Int) = ((a * 256 + b : Nat) : Int) := by
  have h2 : a * 256 ||| b = a * 256 + b := by
    have := Nat.shiftLeft_add_eq_or_of_lt (b := b) (i := 8) (by omega) a
    rw [Nat.shiftLeft_eq] at this
    exact this.symm
  have e : (a : Int) * 256 = ((a * 256 : Nat) : Int) := by omega
  rw [e]
  show IntKind.i32.wrap ((BitVec.ofInt 32 ((a * 256 : Nat) : Int) ||| BitVec.ofInt 32 (b : Int)).toNat : Int) = _
  rw [BitVec.toNat_or, ofInt_u32 (a * 256) (by omega), ofInt_u32 b (by omega), h2]
  exact IntWalk.i32_in _ (by omega)
theorem own_below {w w' : World} {B e s n : Nat} {v : Value} {xs : List Value} (h : w.ownsRow B e s v n xs) (hb : Below w.heap.size w w') : w'.ownsRow B e s v n xs :=
  h.kept (row := none) ⟨hb.os, hb.tape, hb.output, hb.size, fun k hk _ => hb.block k hk⟩ (by cases v.ownBlock <;> simp)
section
variable (half : Nat) (x0 x1 : UInt8) (r : List UInt8)
theorem wS_bad1 (h : half ≠ 0) (hc : two x0 x1 < 56320 ∨ 57343 < two x0 x1) : wS half (x0 :: x1 :: r) = none := by
  rw [wS, if_pos h, if_pos hc]
theorem wS_pair (h : half ≠ 0) (hc : ¬ (two x0 x1 < 56320 ∨ 57343 < two x0 x1)) : wS half (x0 :: x1 :: r) = if signB ((pairS half (two x0 x1) : Nat) : Int) then (wS 0 r).map (encU (pairS half (two x0 x1)) ++ ·) else none := by
  rw [wS, if_pos h, if_neg hc]
theorem wS_half (hc : 55296 ≤ two x0 x1 ∧ two x0 x1 < 56320) : wS 0 (x0 :: x1 :: r) = wS (two x0 x1) r := by
  rw [wS, if_neg (by simp), if_pos hc]
theorem wS_bad2 (hc : 56320 ≤ two x0 x1 ∧ two x0 x1 ≤ 57343) : wS 0 (x0 :: x1 :: r) = none := by
  rw [wS, if_neg (by simp), if_neg (by omega), if_pos hc]
theorem wS_one (hc : ¬ (55296 ≤ two x0 x1 ∧ two x0 x1 ≤ 57343)) : wS 0 (x0 :: x1 :: r) = if signB ((two x0 x1 : Nat) : Int) then (wS 0 r).map (encU (two x0 x1) ++ ·) else none := by
  rw [wS, if_neg (by simp), if_neg (by omega), if_neg (by omega)]
end
theorem rel_next {R : Option (List UInt8)} {o u r : List UInt8} {half : Nat} {l : List UInt8} (h : R = (wS half l).map (o ++ ·)) (hw : wS half l = (wS 0 r).map (u ++ ·)) : R = (wS 0 r).map ((o ++ u) ++ ·) := by
  rw [h, hw, map_app]
theorem rel_none {R : Option (List UInt8)} {o : List UInt8} {half : Nat} {l : List UInt8} (h : R = (wS half l).map (o ++ ·)) (hw : wS half l = none) : R = none := by rw [h, hw]; rfl
theorem wideR_none {R : Option (List UInt8)} {w w' : World} (h : R = none) (hb : Below w.heap.size w w') : WideR R w (.returned (.tuple #[.string ⟨#[]⟩, .bool false])) w' := ⟨[], by rw [h]; rfl, (fun r hr => by rw [h] at hr; cases hr), hb⟩
set_option maxRecDepth 100000 in
theorem enc_data (X : Nat) : (Utf8.encode (X : Int)).data.toList = encU X := by delta encU; with_reducible rfl
set_option maxRecDepth 100000 in
theorem s2b (W : World) (E : ByteArray) (l : List UInt8) (hE : E.data.toList = l) (hl : l.length ≤ 100000) : ∃ c w', (convert 9 25 (.string E)).run Tryz.prog W = .ok (.slice (some ⟨W.heap.size, 0, none⟩) l.length c) w' ∧ l.length ≤ c ∧ Byt w' (some ⟨W.heap.size, 0, none⟩) l ∧ (∀ B a, Below B a W → B ≤ W.heap.size → Below B a w') := by
  subst hE
  have h := run_bytes_of_string (P := Tryz.prog) W 9 25 5 E Tryz.underlying9 Tryz.underlying25 Tryz.underlying5
  have hz : E.size = E.data.toList.length := (Array.length_toList).symm
  rw [hz] at h
  refine ⟨_, _, h, grownCap_ge W _ _ _, ⟨by unfold maxLen; omega, fun _ => ⟨W.heap.size, 0, rfl, fun i hi => ?_⟩⟩, fun B a hb hB => (hb.drew).alloc hB _⟩
  have := World.cell?_alloc_mark W.drew (bytesRow E (grownCap W E.data.toList.length 0 5)) 5 ((bytesRow E (grownCap W E.data.toList.length 0 5)).size, (bytesRow E (grownCap W E.data.toList.length 0 5)).size + 1) (0 + i)
  refine this.trans ?_
  rw [Nat.zero_add]
  exact bytesRow_at _ _ _ (by simpa using hi)
set_option maxRecDepth 100000 in
theorem byte_info : ∃ i, Tryz.prog.info? 5 = some i ∧ i.zero = some (.int .u8 0) ∧ i.size = 1 ∧ i.bytes = 1 := ⟨_, rfl, by kernel_rfl, by kernel_rfl, by kernel_rfl⟩
set_option maxHeartbeats 4000000 in
set_option maxRecDepth 100000 in
theorem xmp_wide {w : World} {A : Option Addr} {bs : List UInt8} (c : Nat) (hb : Byt w A bs) (hl : bs.length ≤ 1000) (hT : Lib.Utf8Tabs 0 1 w) (h2 : 2 ≤ w.heap.size) :
    Calls Tryz.prog 46 #[.slice A bs.length c] w (WideR (wS 0 bs) w) := by
  obtain ⟨R, hR⟩ : ∃ R, R = wS 0 bs := ⟨_, rfl⟩
  rw [← hR]
  replace hR := Lib.hid hR
  replace hb := Lib.hid hb
  replace hT := Lib.hid hT
  obtain ⟨i0, hi0, hz0, hz1, hz2⟩ := byte_info
  by_cases hodd : bs.length % 2 = 0
  · go_enter Tryz.func46, Tryz.ntmps46
    have hod : ((bs.length : Int) % 2 != 0) = false := by simp; omega
    go_wp2
    clear hod
    go_loopw [4, 5, 6] (fun s4 s5 s6 wr => WideL R bs w s4 s5 s6 wr) (fun _ _ i _ => bs.length - (RowKit.intOf i).toNat)
    case atStart => exact ⟨0, 0, [], Nat.zero_le _, rfl, rfl, rfl, .inl rfl, ⟨by simp [valsB], .inl ⟨rfl, by simp⟩⟩, Nat.le_refl _, by rw [hR.out]; simp, Below.refl _ _⟩
    case round =>
      obtain ⟨i, half, o, hi, hi2, rfl, rfl, hh, hown, hol, hRi, hB⟩ := hrel
      by_cases hlt : i < bs.length
      · have hlt1 : i + 1 < bs.length := by omega
        obtain ⟨b, off, rfl, hc⟩ := (hb.out.below hB).2 (by omega)
        have hc0 := hc i hlt
        have hc1 := hc (i + 1) hlt1
        have hu0 := u8_lt bs[i]
        have hu1 := u8_lt bs[i + 1]
        have hdr : bs.drop i = bs[i] :: bs[i + 1] :: bs.drop (i + 2) := by
          rw [List.drop_eq_getElem_cons hlt, List.drop_eq_getElem_cons hlt1]
        rw [hdr] at hRi
        replace hRi := Lib.hid hRi
        clear hdr hc hb
        generalize hr' : bs.drop (i + 2) = r at *
        replace hr' := Lib.hid hr'
        generalize bs[i] = x0 at *
        generalize bs[i + 1] = x1 at *
        have hor := or16 x0.toNat x1.toNat (by omega) (by omega)
        obtain ⟨C, hC⟩ : ∃ C, C = two x0 x1 := ⟨_, rfl⟩
        have hCb : C < 65536 := by rw [hC]; exact two_lt _ _
        rw [show x0.toNat * 256 + x1.toNat = C from hC.symm] at hor
        replace hC := Lib.hid hC
        obtain ⟨Z, hZ⟩ : ∃ Z : Int, Z = (C : Int) := ⟨_, rfl⟩
        rw [← hZ] at hor
        replace hown := Lib.hid hown
        replace hB := Lib.hid hB
        by_cases h0 : half = 0
        · obtain ⟨H, hH⟩ : ∃ H : Int, H = (half : Int) := ⟨_, rfl⟩
          rw [← hH]
          subst h0
          obtain rfl : H = 0 := hH
          clear hh
          by_cases hc1 : 55296 ≤ C ∧ C < 56320
          · have hn := (hRi.out.trans (congrArg (fun z => z.map (o ++ ·)) (wS_half x0 x1 r (by rw [← hC.out]; exact hc1))))
            rw [← hC.out, ← hr'.out] at hn
            replace hn := Lib.hid hn
            have hc2 : 55296 ≤ Z := by omega
            have hc3 : Z < 56320 := by omega
            replace hZ := Lib.hid hZ
            replace hc1 := Lib.hid hc1
            replace hCb := Lib.hid hCb
            clear hRi
            go_wp2
            go_quiet (fail)
            go_wp2
            exact ⟨⟨i + 2, C, o, by omega, by omega, by go_num, by rw [hZ.out], .inr hc1.out, hown.out, by omega, hn.out, bthen hB.out (below_drawn wr nq)⟩, by simp [RowKit.intOf]; omega⟩
          · by_cases hc2 : 56320 ≤ C ∧ C ≤ 57343
            · have hn := Lib.hid (rel_none hRi.out (wS_bad2 x0 x1 r (by rw [← hC.out]; exact hc2)))
              have hc3 : 56320 ≤ Z := by omega
              have hc4 : Z ≤ 57343 := by omega
              clear hRi hc1 hc2 hZ hCb
              go_wp2
              go_quiet (fail)
              go_wp2
              go_ret2
              exact wideR_none hn.out (bthen hB.out (below_drawn wr nq))
            · have hw1 := wS_one x0 x1 r (by rw [← hC.out]; omega)
              rw [← hC.out, ← hr'.out] at hw1
              rw [← hr'.out] at hRi
              have hn1 : Hid (signB (C : Int) = true → R = (wS 0 (bs.drop (i + 2))).map ((o ++ encU C) ++ ·)) := Lib.hid fun hs => rel_next hRi.out (by rw [hr'.out]; rw [hr'.out] at hw1; rw [hw1, if_pos hs])
              have hn2 : Hid (signB (C : Int) = false → R = none) := Lib.hid fun hs => rel_none hRi.out (by rw [hr'.out]; rw [hr'.out] at hw1; rw [hw1, hs]; rfl)
              clear hw1 hRi hr'
              have hXb : C ≤ 1114111 ∧ (C < 55296 ∨ 57343 < C) := by omega
              have hYX := hZ
              by_cases hlo : C < 55296
              · have hc3 : Z < 55296 := by omega
                have hc5 : ¬ 55296 ≤ Z := by omega
                have hc6 : ¬ 56320 ≤ Z := by omega
                have hc4 : 0 ≤ Z := by omega
                clear hc1 hc2 hlo hZ hCb
                obtain ⟨E, hEe⟩ : ∃ E, E = Utf8.encode (C : Int) := ⟨_, rfl⟩
                have hEn : Utf8.encode Z = E := by rw [hYX]; exact hEe.symm
                have hv : validB (C : Int) = true := by
                  unfold validB; simp only [Bool.or_eq_true, Bool.and_eq_true, decide_eq_true_eq]; omega
                have hle := enc_le C hv
                have hsg := signs_enc C hv
                have hE : E.data.toList = encU C := by rw [hEe]; exact enc_data C
                have hEs : E.size = (encU C).length := by rw [← hE]; exact Array.length_toList.symm
                have hvl : valsB (encU C) = strCells E := by unfold valsB strCells; rw [hE]
                clear hEe hv hYX
                generalize encU C = u at *
                replace hE := Lib.hid hE
                replace hvl := Lib.hid hvl
                replace hEs := Lib.hid hEs
                replace hXb := Lib.hid hXb
                by_cases hsb : signB (C : Int) = true
                · rw [hsb] at hsg
                  have hn := Lib.hid (hn1.out hsb)
                  replace hsb := Lib.hid hsb
                  replace hsg := Lib.hid hsg
                  clear hn1 hn2
                  go_wp2
                  go_quiet (fail)
                  obtain ⟨cc, w3, hcv, hcl, hby, hbe⟩ := s2b (wr.drewN nq) E u hE.out (by omega)
                  have hb3 : Below wr.heap.size wr w3 := hbe _ _ (below_drawn wr nq) (Nat.le_refl _)
                  have hBw3 : Below w.heap.size w w3 := bthen hB.out hb3
                  have hcv : (convert 9 25 (.string E)).run Tryz.prog (wr.drewN nq) = .ok (.slice (some ⟨wr.heap.size, 0, none⟩) u.length cc) w3 := hcv
                  have csg : Calls Tryz.prog 53 #[.slice (some ⟨wr.heap.size, 0, none⟩) u.length cc] w3 fun e w' => e = .returned (.bool (signsB u)) ∧ Below w3.heap.size w3 w' := xml_Signs cc hby (by omega) (tabs_kept hT.out (hBw3.block 0 (by omega)) (hBw3.block 1 (by omega))) (by have := hBw3.size; omega)
                  rw [hsg.out] at csg
                  have hown3 := Lib.hid (own_below hown.out hb3)
                  replace hBw3 := Lib.hid hBw3
                  replace hby := Lib.hid hby
                  replace hb3 := Lib.hid hb3
                  clear hbe
                  go_wp2_with (first
                    | (go_at_call 53; (with_reducible refine csg.mono ?_); rintro e w4 ⟨rfl, hb4⟩; have hown4 := own_below hown3.out hb4; have hBw4 := bthen hBw3.out hb4; have hsz4 := hBw4.size; replace hBw4 := Lib.hid hBw4; replace hb4 := Lib.hid hb4)
                    | (at_builtin; refine wpList_append_own_string _ rfl (.tmp 69) (.tmp 70) 25 9 rfl w.heap.size 5 i0 Tryz.underlying25 Tryz.underlying9 hi0 hz0 hz1 hz2 _ _ _ rfl hown4 E rfl (by have := hEs.out; unfold maxLen; omega) (by have := hEs.out; omega) hsz4 ?_; intro v5 w5 hown5 hg5 _; have hBw5 := hBw4.out.grown hg5 hsz4 (fun j hj => (hown4.lt j hj).1)))
                  rw [hEs.out, ← hvl.out, ← valsB_app, ← List.length_append] at hown5
                  exact ⟨⟨i + 2, 0, o ++ u, by omega, by omega, by go_num, rfl, .inl rfl, hown5, by rw [List.length_append]; omega, hn.out, hBw5⟩, by simp [RowKit.intOf]; omega⟩
                · have hsb2 : signB (C : Int) = false := by simpa using hsb
                  rw [hsb2] at hsg
                  have hn := Lib.hid (hn2.out hsb2)
                  replace hsb := Lib.hid hsb
                  replace hsb2 := Lib.hid hsb2
                  replace hsg := Lib.hid hsg
                  clear hn1 hn2
                  go_wp2
                  go_quiet (fail)
                  obtain ⟨cc, w3, hcv, hcl, hby, hbe⟩ := s2b (wr.drewN nq) E u hE.out (by omega)
                  have hb3 : Below wr.heap.size wr w3 := hbe _ _ (below_drawn wr nq) (Nat.le_refl _)
                  have hBw3 : Below w.heap.size w w3 := bthen hB.out hb3
                  have hcv : (convert 9 25 (.string E)).run Tryz.prog (wr.drewN nq) = .ok (.slice (some ⟨wr.heap.size, 0, none⟩) u.length cc) w3 := hcv
                  have csg : Calls Tryz.prog 53 #[.slice (some ⟨wr.heap.size, 0, none⟩) u.length cc] w3 fun e w' => e = .returned (.bool (signsB u)) ∧ Below w3.heap.size w3 w' := xml_Signs cc hby (by omega) (tabs_kept hT.out (hBw3.block 0 (by omega)) (hBw3.block 1 (by omega))) (by have := hBw3.size; omega)
                  rw [hsg.out] at csg
                  replace hBw3 := Lib.hid hBw3
                  replace hby := Lib.hid hby
                  replace hb3 := Lib.hid hb3
                  clear hbe
                  go_wp2_with (go_at_call 53; (with_reducible refine csg.mono ?_); rintro e w4 ⟨rfl, hb4⟩; replace hb4 := Lib.hid hb4)
                  go_ret2
                  exact wideR_none hn.out (bthen hBw3.out hb4.out)
              · have hc3 : 57343 < Z := by omega
                have hc5 : ¬ Z < 56320 := by omega
                have hc6 : ¬ Z ≤ 57343 := by omega
                have hc4 : 55296 ≤ Z := by omega
                have hc7 : 56320 ≤ Z := by omega
                have hc8 : Z ≤ 65535 := by omega
                clear hc1 hc2 hlo hZ hCb
                obtain ⟨E, hEe⟩ : ∃ E, E = Utf8.encode (C : Int) := ⟨_, rfl⟩
                have hEn : Utf8.encode Z = E := by rw [hYX]; exact hEe.symm
                have hv : validB (C : Int) = true := by
                  unfold validB; simp only [Bool.or_eq_true, Bool.and_eq_true, decide_eq_true_eq]; omega
                have hle := enc_le C hv
                have hsg := signs_enc C hv
                have hE : E.data.toList = encU C := by rw [hEe]; exact enc_data C
                have hEs : E.size = (encU C).length := by rw [← hE]; exact Array.length_toList.symm
                have hvl : valsB (encU C) = strCells E := by unfold valsB strCells; rw [hE]
                clear hEe hv hYX
                generalize encU C = u at *
                replace hE := Lib.hid hE
                replace hvl := Lib.hid hvl
                replace hEs := Lib.hid hEs
                replace hXb := Lib.hid hXb
                by_cases hsb : signB (C : Int) = true
                · rw [hsb] at hsg
                  have hn := Lib.hid (hn1.out hsb)
                  replace hsb := Lib.hid hsb
                  replace hsg := Lib.hid hsg
                  clear hn1 hn2
                  go_wp2
                  go_quiet (fail)
                  obtain ⟨cc, w3, hcv, hcl, hby, hbe⟩ := s2b (wr.drewN nq) E u hE.out (by omega)
                  have hb3 : Below wr.heap.size wr w3 := hbe _ _ (below_drawn wr nq) (Nat.le_refl _)
                  have hBw3 : Below w.heap.size w w3 := bthen hB.out hb3
                  have hcv : (convert 9 25 (.string E)).run Tryz.prog (wr.drewN nq) = .ok (.slice (some ⟨wr.heap.size, 0, none⟩) u.length cc) w3 := hcv
                  have csg : Calls Tryz.prog 53 #[.slice (some ⟨wr.heap.size, 0, none⟩) u.length cc] w3 fun e w' => e = .returned (.bool (signsB u)) ∧ Below w3.heap.size w3 w' := xml_Signs cc hby (by omega) (tabs_kept hT.out (hBw3.block 0 (by omega)) (hBw3.block 1 (by omega))) (by have := hBw3.size; omega)
                  rw [hsg.out] at csg
                  have hown3 := Lib.hid (own_below hown.out hb3)
                  replace hBw3 := Lib.hid hBw3
                  replace hby := Lib.hid hby
                  replace hb3 := Lib.hid hb3
                  clear hbe
                  go_wp2_with (first
                    | (go_at_call 53; (with_reducible refine csg.mono ?_); rintro e w4 ⟨rfl, hb4⟩; have hown4 := own_below hown3.out hb4; have hBw4 := bthen hBw3.out hb4; have hsz4 := hBw4.size; replace hBw4 := Lib.hid hBw4; replace hb4 := Lib.hid hb4)
                    | (at_builtin; refine wpList_append_own_string _ rfl (.tmp 69) (.tmp 70) 25 9 rfl w.heap.size 5 i0 Tryz.underlying25 Tryz.underlying9 hi0 hz0 hz1 hz2 _ _ _ rfl hown4 E rfl (by have := hEs.out; unfold maxLen; omega) (by have := hEs.out; omega) hsz4 ?_; intro v5 w5 hown5 hg5 _; have hBw5 := hBw4.out.grown hg5 hsz4 (fun j hj => (hown4.lt j hj).1)))
                  rw [hEs.out, ← hvl.out, ← valsB_app, ← List.length_append] at hown5
                  exact ⟨⟨i + 2, 0, o ++ u, by omega, by omega, by go_num, rfl, .inl rfl, hown5, by rw [List.length_append]; omega, hn.out, hBw5⟩, by simp [RowKit.intOf]; omega⟩
                · have hsb2 : signB (C : Int) = false := by simpa using hsb
                  rw [hsb2] at hsg
                  have hn := Lib.hid (hn2.out hsb2)
                  replace hsb := Lib.hid hsb
                  replace hsb2 := Lib.hid hsb2
                  replace hsg := Lib.hid hsg
                  clear hn1 hn2
                  go_wp2
                  go_quiet (fail)
                  obtain ⟨cc, w3, hcv, hcl, hby, hbe⟩ := s2b (wr.drewN nq) E u hE.out (by omega)
                  have hb3 : Below wr.heap.size wr w3 := hbe _ _ (below_drawn wr nq) (Nat.le_refl _)
                  have hBw3 : Below w.heap.size w w3 := bthen hB.out hb3
                  have hcv : (convert 9 25 (.string E)).run Tryz.prog (wr.drewN nq) = .ok (.slice (some ⟨wr.heap.size, 0, none⟩) u.length cc) w3 := hcv
                  have csg : Calls Tryz.prog 53 #[.slice (some ⟨wr.heap.size, 0, none⟩) u.length cc] w3 fun e w' => e = .returned (.bool (signsB u)) ∧ Below w3.heap.size w3 w' := xml_Signs cc hby (by omega) (tabs_kept hT.out (hBw3.block 0 (by omega)) (hBw3.block 1 (by omega))) (by have := hBw3.size; omega)
                  rw [hsg.out] at csg
                  replace hBw3 := Lib.hid hBw3
                  replace hby := Lib.hid hby
                  replace hb3 := Lib.hid hb3
                  clear hbe
                  go_wp2_with (go_at_call 53; (with_reducible refine csg.mono ?_); rintro e w4 ⟨rfl, hb4⟩; replace hb4 := Lib.hid hb4)
                  go_ret2
                  exact wideR_none hn.out (bthen hBw3.out hb4.out)
        · have hh2 : 55296 ≤ half ∧ half < 56320 := by omega
          obtain ⟨hh3, hh4⟩ := hh2
          clear hh
          have hhb : ((half : Int) != 0) = true := by simp; omega
          by_cases hc1 : C < 56320 ∨ 57343 < C
          · have hn := Lib.hid (rel_none hRi.out (wS_bad1 half x0 x1 r h0 (by rw [← hC.out]; exact hc1)))
            clear h0 hRi
            by_cases hc2 : C < 56320
            · have hc3 : Z < 56320 := by omega
              clear hc1 hc2 hZ hCb
              go_wp2
              go_quiet (fail)
              go_wp2
              go_ret2
              exact wideR_none hn.out (bthen hB.out (below_drawn wr nq))
            · have hc3 : 57343 < Z := by omega
              have hc4 : ¬ Z < 56320 := by omega
              clear hc1 hc2 hZ hCb
              go_wp2
              go_quiet (fail)
              go_wp2
              go_ret2
              exact wideR_none hn.out (bthen hB.out (below_drawn wr nq))
          · have hw1 := wS_pair half x0 x1 r h0 (by rw [← hC.out]; exact hc1)
            rw [← hC.out] at hw1
            have hn1 : Hid (signB ((pairS half C : Nat) : Int) = true → R = (wS 0 (bs.drop (i + 2))).map ((o ++ encU (pairS half C)) ++ ·)) := Lib.hid fun hs => by
              rw [hr'.out]; exact rel_next hRi.out (by rw [hw1, if_pos hs])
            have hn2 : Hid (signB ((pairS half C : Nat) : Int) = false → R = none) := Lib.hid fun hs => rel_none hRi.out (by rw [hw1, hs]; rfl)
            clear hw1 hRi hr'
            have hbd := pairS_bd half C hh3 hh4 (by omega) (by omega)
            have hXi := pairS_int half C hh3 (by omega)
            rw [← hZ] at hXi
            generalize pairS half C = X at *
            have hXb : X ≤ 1114111 ∧ (X < 55296 ∨ 57343 < X) := by omega
            obtain ⟨Y, hYX⟩ : ∃ Y : Int, Y = (X : Int) := ⟨_, rfl⟩
            have hYe : 65536 + ((half : Int) - 55296) * 1024 + Z - 56320 = Y := by rw [hYX, hXi]
            have hc3 : 56320 ≤ Z := by omega
            have hc4 : Z ≤ 57343 := by omega
            have hc5 : ¬ Z < 56320 := by omega
            have hc6 : ¬ 57343 < Z := by omega
            have hY1 : 65536 ≤ Y := by omega
            have hY2 : Y ≤ 1114111 := by omega
            clear hc1 hZ hCb hXi hbd h0
            obtain ⟨E, hEe⟩ : ∃ E, E = Utf8.encode (X : Int) := ⟨_, rfl⟩
            have hEn : Utf8.encode Y = E := by rw [hYX]; exact hEe.symm
            have hv : validB (X : Int) = true := by
              unfold validB; simp only [Bool.or_eq_true, Bool.and_eq_true, decide_eq_true_eq]; omega
            have hle := enc_le X hv
            have hsg := signs_enc X hv
            have hE : E.data.toList = encU X := by rw [hEe]; exact enc_data X
            have hEs : E.size = (encU X).length := by rw [← hE]; exact Array.length_toList.symm
            have hvl : valsB (encU X) = strCells E := by unfold valsB strCells; rw [hE]
            clear hEe hv hYX
            generalize encU X = u at *
            replace hE := Lib.hid hE
            replace hvl := Lib.hid hvl
            replace hEs := Lib.hid hEs
            replace hXb := Lib.hid hXb
            by_cases hsb : signB (X : Int) = true
            · rw [hsb] at hsg
              have hn := Lib.hid (hn1.out hsb)
              replace hsb := Lib.hid hsb
              replace hsg := Lib.hid hsg
              clear hn1 hn2
              go_wp2
              go_quiet (fail)
              obtain ⟨cc, w3, hcv, hcl, hby, hbe⟩ := s2b (wr.drewN nq) E u hE.out (by omega)
              have hb3 : Below wr.heap.size wr w3 := hbe _ _ (below_drawn wr nq) (Nat.le_refl _)
              have hBw3 : Below w.heap.size w w3 := bthen hB.out hb3
              have hcv : (convert 9 25 (.string E)).run Tryz.prog (wr.drewN nq) = .ok (.slice (some ⟨wr.heap.size, 0, none⟩) u.length cc) w3 := hcv
              have csg : Calls Tryz.prog 53 #[.slice (some ⟨wr.heap.size, 0, none⟩) u.length cc] w3 fun e w' => e = .returned (.bool (signsB u)) ∧ Below w3.heap.size w3 w' := xml_Signs cc hby (by omega) (tabs_kept hT.out (hBw3.block 0 (by omega)) (hBw3.block 1 (by omega))) (by have := hBw3.size; omega)
              rw [hsg.out] at csg
              have hown3 := Lib.hid (own_below hown.out hb3)
              replace hBw3 := Lib.hid hBw3
              replace hby := Lib.hid hby
              replace hb3 := Lib.hid hb3
              clear hbe
              go_wp2_with (first
                | (go_at_call 53; (with_reducible refine csg.mono ?_); rintro e w4 ⟨rfl, hb4⟩; have hown4 := own_below hown3.out hb4; have hBw4 := bthen hBw3.out hb4; have hsz4 := hBw4.size; replace hBw4 := Lib.hid hBw4; replace hb4 := Lib.hid hb4)
                | (at_builtin; refine wpList_append_own_string _ rfl (.tmp 69) (.tmp 70) 25 9 rfl w.heap.size 5 i0 Tryz.underlying25 Tryz.underlying9 hi0 hz0 hz1 hz2 _ _ _ rfl hown4 E rfl (by have := hEs.out; unfold maxLen; omega) (by have := hEs.out; omega) hsz4 ?_; intro v5 w5 hown5 hg5 _; have hBw5 := hBw4.out.grown hg5 hsz4 (fun j hj => (hown4.lt j hj).1)))
              rw [hEs.out, ← hvl.out, ← valsB_app, ← List.length_append] at hown5
              exact ⟨⟨i + 2, 0, o ++ u, by omega, by omega, by go_num, rfl, .inl rfl, hown5, by rw [List.length_append]; omega, hn.out, hBw5⟩, by simp [RowKit.intOf]; omega⟩
            · have hsb2 : signB (X : Int) = false := by simpa using hsb
              rw [hsb2] at hsg
              have hn := Lib.hid (hn2.out hsb2)
              replace hsb := Lib.hid hsb
              replace hsb2 := Lib.hid hsb2
              replace hsg := Lib.hid hsg
              clear hn1 hn2
              go_wp2
              go_quiet (fail)
              obtain ⟨cc, w3, hcv, hcl, hby, hbe⟩ := s2b (wr.drewN nq) E u hE.out (by omega)
              have hb3 : Below wr.heap.size wr w3 := hbe _ _ (below_drawn wr nq) (Nat.le_refl _)
              have hBw3 : Below w.heap.size w w3 := bthen hB.out hb3
              have hcv : (convert 9 25 (.string E)).run Tryz.prog (wr.drewN nq) = .ok (.slice (some ⟨wr.heap.size, 0, none⟩) u.length cc) w3 := hcv
              have csg : Calls Tryz.prog 53 #[.slice (some ⟨wr.heap.size, 0, none⟩) u.length cc] w3 fun e w' => e = .returned (.bool (signsB u)) ∧ Below w3.heap.size w3 w' := xml_Signs cc hby (by omega) (tabs_kept hT.out (hBw3.block 0 (by omega)) (hBw3.block 1 (by omega))) (by have := hBw3.size; omega)
              rw [hsg.out] at csg
              replace hBw3 := Lib.hid hBw3
              replace hby := Lib.hid hby
              replace hb3 := Lib.hid hb3
              clear hbe
              go_wp2_with (go_at_call 53; (with_reducible refine csg.mono ?_); rintro e w4 ⟨rfl, hb4⟩; replace hb4 := Lib.hid hb4)
              go_ret2
              exact wideR_none hn.out (bthen hBw3.out hb4.out)
      · have hi3 : i = bs.length := by omega
        subst hi3
        rw [List.drop_length] at hRi
        obtain ⟨A', c', rfl, hBy⟩ := own_byt hown
        have hBy2 := hBy (by unfold maxLen; omega)
        have hcv := conv_byt (c := c') hBy2
        clear hBy
        have hfin : (∀ x, R = some x → o = x) ∧ R.isSome = ((half : Int) == 0) := by
          rw [hRi]
          by_cases h0 : half = 0
          · subst h0; simp [wS]
          · have : ¬ ((half : Int) = 0) := by omega
            simp [wS, h0]
        replace hfin := Lib.hid hfin
        replace hRi := Lib.hid hRi
        replace hBy2 := Lib.hid hBy2
        replace hB := Lib.hid hB
        replace hh := Lib.hid hh
        clear hown hb hlt
        generalize o.length = m at *
        go_wp2
        go_ret2
        refine ⟨o, ?_, hfin.out.1, hB.out⟩
        rw [hfin.out.2]; rfl
  · go_enter Tryz.func46, Tryz.ntmps46
    have hod : ((bs.length : Int) % 2 != 0) = true := by simp; omega
    have hn : R = none := by
      rw [hR.out]
      have key : ∀ (n half : Nat) (l : List UInt8), l.length = n → n % 2 ≠ 0 → wS half l = none := by
        intro n
        induction n using Nat.strongRecOn with
        | _ n ih =>
          intro half l hln hn2
          match l, hln with
          | [], h => simp at h; omega
          | [_], _ => rfl
          | x :: y :: r, h =>
            have h4 : r.length + 2 = n := by simpa using h
            have hr := fun half => ih (n - 2) (by omega) half r (by omega) (by omega)
            rw [wS]
            repeat' split
            all_goals first | rfl | exact hr _ | (rw [hr]; rfl)
      exact key _ _ _ rfl hodd
    replace hn := Lib.hid hn
    go_wp2
    go_ret2
    exact wideR_none hn.out (Below.refl _ _)
end Go.Proofs.YtkpikpaepgknnaaGreatDoor

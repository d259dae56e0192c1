/- Walks and laws, joined: part E. No condition. -/
import Derived.Test.YtgomlebemefdcaaDoorXeJD
import Derived.Test.YtgomlebemefdcaaDoorRows
import Derived.Lib.LaidU8T
set_option linter.unusedSimpArgs false
set_option linter.unusedVariables false
/- The law of escaped texts. No condition. -/
namespace Go.Proofs.YtgomlebemefdcaaDoor
open Go Go.RowKit Go.Wk Go.Xt Go.Xe
theorem size_of_list (l : List UInt8) : (⟨l.toArray⟩ : ByteArray).size = l.length := by show l.toArray.size = _; simp
theorem inner_any {w : World} {t : List UInt8} (ht : t.length ≤ 100000) (N0 N1 N2 : ByteArray) (a1 : Option Addr) (n1 c1 : Nat) (a2 : Option Addr) (n2 c2 : Nat) (h : KidAt w t (.slice a2 n2 c2)) :
    Calls Tryd.prog 12 #[.agg #[.string N0, .string N1, .string N2, .slice a1 n1 c1, .slice a2 n2 c2]] w fun e w' => e = .returned (.tuple #[str t, .bool true]) ∧ Below w.heap.size w w' := by
  rcases h with ⟨rfl, a, c, e⟩ | ⟨g, cap, e, hc, h0, h1, h2, h3, h4⟩
  · injection e with e1 e2 e3
    subst e1 e2 e3
    exact xml_Inner_nil N0 N1 N2 a1 n1 c1 a2 c2
  · injection e with e1 e2 e3
    subst e1 e2 e3
    exact xml_Inner_one N0 N1 N2 a1 n1 c1 g c2 t ht hc h0 h1 h2 h3 h4
set_option maxHeartbeats 4000000 in
set_option maxRecDepth 100000 in
theorem esc_law {w : World} {S : ByteArray} (hT : Lib.Utf8Tabs 0 1 w) (h2 : 2 ≤ w.heap.size)
    (haw : Calls Tryd.prog 8 #[] w fun e w' => e = .returned (.bool true) ∧ Below w.heap.size w w') :
    Calls Tryd.prog 7 #[.string S] w fun e w' => e = .returned (.bool true) ∧ Below w.heap.size w w' := by
  by_cases h500 : 500 < S.size
  · have hg : decide ((500 : Int) < (S.size : Int)) = true := by simp; omega
    replace hT := Lib.hid hT
    go_enter Tryd.func7, Tryd.ntmps7
    go_wp2_with (go_at_call 8; (with_reducible refine haw.mono ?_); rintro e w1 ⟨rfl, b1⟩; replace b1 := Lib.hid b1)
    go_ret
    exact ⟨rfl, b1.out⟩
  have hg : decide ((500 : Int) < (S.size : Int)) = false := by simp; omega
  obtain ⟨l, hl⟩ : ∃ l, l = S.data.toList := ⟨_, rfl⟩
  have hll : l.length = S.size := by rw [hl]; exact Array.length_toList
  have hSl : (⟨l.toArray⟩ : ByteArray) = S := bytes_ext (by rw [hl])
  have hSs : str l = .string S := by rw [← hSl]; rfl
  have hTW : ∀ W, Below w.heap.size w W → Lib.Utf8Tabs 0 1 W ∧ 2 ≤ W.heap.size := fun W hB => ⟨tabs_kept hT (hB.block 0 (by omega)) (hB.block 1 (by omega)), by have := hB.size; omega⟩
  obtain ⟨X, hX⟩ : ∃ X : ByteArray, X = ⟨(escS l).toArray⟩ := ⟨_, rfl⟩
  have hXs : str (escS l) = .string X := by rw [hX]; rfl
  have hXl : X.data.toList = escS l := by rw [hX]
  have zX : X.size = (escS l).length := by rw [hX]; exact size_of_list _
  have zX2 : X.size ≤ 3000 := by rw [zX]; have := escS_len6 l.length l (Nat.le_refl _); omega
  obtain ⟨O, hO⟩ : ∃ X : ByteArray, X = ⟨(outS l).toArray⟩ := ⟨_, rfl⟩
  have hOs : str (outS l) = .string O := by rw [hO]; rfl
  have hOl : (outS l).length ≤ 100000 := by rw [outS_len l.length l (Nat.le_refl _)]; omega
  have kE : ∀ W, Below w.heap.size w W → Calls Tryd.prog 13 #[.string S] W fun e w' => e = .returned (.string X) ∧ Below W.heap.size W w' := fun W hB => by
    rw [← hSs, ← hXs]; exact xml_Escape (by omega) (hTW W hB).1 (hTW W hB).2
  have kR : ∀ W, Below w.heap.size w W → Calls Tryd.prog 15 #[.string S] W fun e w' => e = .returned (.string X) ∧ Below W.heap.size W w' := fun W hB => by
    rw [← hXs, hl]; exact ref_Escape S (by omega) (hTW W hB).1 (hTW W hB).2
  obtain ⟨T, hTe⟩ : ∃ T : ByteArray, T = ⟨#[60, 97, 32, 98, 61, 34]⟩ ++ X ++ ⟨#[34, 62]⟩ ++ X ++ ⟨#[60, 47, 97, 62]⟩ := ⟨_, rfl⟩
  have hTl : T.data.toList = escT (escS l) := by
    rw [hTe]; unfold escT; simp only [bytes_app, hXl, List.append_assoc]
  have zT : T.size = (escT (escS l)).length := by rw [← hTl, Array.length_toList]; rfl
  have zT2 : T.size ≤ 100000 := by rw [zT]; unfold escT; simp; omega
  have kP : ∀ W A c, Below w.heap.size w W → Byt W A (escT (escS l)) → T.size ≤ c → Calls Tryd.prog 9 #[.slice A T.size c] W fun e w' => ∃ (g cap : Nat) (a2 : Option Addr) (n2 c2 : Nat), e = .returned (.tuple #[.agg #[.string ⟨#[]⟩, .string ⟨#[97]⟩, .string ⟨#[]⟩, .slice (some ⟨g, 0, none⟩) 1 cap, .slice a2 n2 c2], .int .i64 0]) ∧
      1 ≤ cap ∧ w'.cell? ⟨g, 2, none⟩ = some (.string O) ∧ KidAt w' (outS l) (.slice a2 n2 c2) ∧ Below W.heap.size W w' := fun W A c hB hb hc => by
    rw [← hOs]
    rw [zT] at hc ⊢
    exact parse_esc hb hc (by omega) (hTW W hB).1 (hTW W hB).2
  have kI : ∀ W (N0 N1 N2 : ByteArray) (a1 : Option Addr) (n1 c1 : Nat) (a2 : Option Addr) (n2 c2 : Nat), KidAt W (outS l) (.slice a2 n2 c2) → Calls Tryd.prog 12 #[.agg #[.string N0, .string N1, .string N2, .slice a1 n1 c1, .slice a2 n2 c2]] W fun e w' => e = .returned (.tuple #[.string O, .bool true]) ∧ Below W.heap.size W w' := fun W N0 N1 N2 a1 n1 c1 a2 n2 c2 h => by
    rw [← hOs]; exact inner_any hOl N0 N1 N2 a1 n1 c1 a2 n2 c2 h
  have kS : ∀ W A c, Below w.heap.size w W → Byt W A (escS l) → Calls Tryd.prog 14 #[.slice A X.size c] W fun e w' => e = .returned (.bool true) ∧ Below W.heap.size W w' := fun W A c hB hb => by
    rw [zX, ← esc_signs0 l]; exact xml_Signs c hb (by omega) (hTW W hB).1 (hTW W hB).2
  have kS2 : ∀ W A c, Below w.heap.size w W → Byt W A l → Calls Tryd.prog 14 #[.slice A S.size c] W fun e w' => e = .returned (.bool (signsB l)) ∧ Below W.heap.size W w' := fun W A c hB hb => by
    rw [← hll]; exact xml_Signs c hb (by omega) (hTW W hB).1 (hTW W hB).2
  have hOS : signsB l = true → O = S := fun h => by rw [hO, outS_ok l.length l (Nat.le_refl _) h, hSl]
  obtain ⟨sg, hsg⟩ : ∃ b, b = signsB l := ⟨_, rfl⟩
  rw [← hsg] at kS2 hOS
  have hsk : sg = false ∨ (sg = true ∧ O = S) := by
    cases h : sg with
    | false => exact .inl rfl
    | true => exact .inr ⟨rfl, hOS h⟩
  have hcS := fun (W : World) => conv_bytes W S (by omega)
  have hcX := fun (W : World) => conv_bytes W X (by omega)
  have hcT := fun (W : World) => conv_bytes W T zT2
  rw [hXl] at hcX
  rw [hTl] at hcT
  obtain ⟨tl, htl⟩ : ∃ t, t = T.size := ⟨_, rfl⟩
  rw [← htl] at kP zT2
  simp only [← htl] at hcT
  rw [← hl] at hcS
  obtain ⟨n, hn⟩ : ∃ n, n = S.size := ⟨_, rfl⟩
  replace hn := Lib.hid hn
  replace htl := Lib.hid htl
  replace kE := Lib.hid kE
  replace kR := Lib.hid kR
  replace kP := Lib.hid kP
  replace kI := Lib.hid kI
  replace kS := Lib.hid kS
  replace kS2 := Lib.hid kS2
  replace hcS := Lib.hid hcS
  replace hcX := Lib.hid hcX
  replace hcT := Lib.hid hcT
  replace hTW := Lib.hid hTW
  replace hT := Lib.hid hT
  clear hOS hsg
  replace hTe := Lib.hid hTe
  clear hX hXs hXl hO hOs hOl hTl hSs hSl hl hll zX zT
  rcases hsk with rfl | ⟨rfl, rfl⟩
  all_goals
   go_enter Tryd.func7, Tryd.ntmps7
   go_wp2_with (first
    | (go_at_call 8; (with_reducible refine haw.mono ?_); rintro e w1 ⟨rfl, b1⟩; have k13 := kE.out w1 b1; replace b1 := Lib.hid b1)
    | (go_at_call 13; (with_reducible refine k13.mono ?_); rintro e w2 ⟨rfl, b2⟩; have c2 := bthen b1.out b2; have k15 := kR.out w2 c2; replace b2 := Lib.hid b2; replace c2 := Lib.hid c2)
    | (go_at_call 15; (with_reducible refine k15.mono ?_); rintro e w3 ⟨rfl, b3⟩; have c3 := bthen c2.out b3; obtain ⟨cX, W4, hcv, hbX, hBX, _, _⟩ := hcX.out w3; have c4 := bthen c3 hBX; have k14 := kS.out W4 _ cX c4 hbX; replace b3 := Lib.hid b3; replace c3 := Lib.hid c3; replace hbX := Lib.hid hbX; replace hBX := Lib.hid hBX; replace c4 := Lib.hid c4)
    | (go_at_call 14; (with_reducible refine k14.mono ?_); rintro e w5 ⟨rfl, b5⟩; have c5 := bthen c4.out b5; obtain ⟨cT, W6, hcv6, hbT, hBT, hcT6, _⟩ := hcT.out w5; have c6 := bthen c5 hBT; have k9 := kP.out W6 _ cT c6 hbT hcT6; rw [hTe.out] at hcv6; replace b5 := Lib.hid b5; replace c5 := Lib.hid c5; replace hbT := Lib.hid hbT; replace hBT := Lib.hid hBT; replace c6 := Lib.hid c6)
    | (go_at_call 9; (with_reducible refine k9.mono ?_); rintro e w7 ⟨g, cap, a2, n2, c2', rfl, hcap, hcell, hkid, b7⟩; have c7 := bthen c6.out b7; have hbn : Below w7.heap.size w7 (w7.alloc (.cells #[.string ⟨#[]⟩, .string ⟨#[97]⟩, .string ⟨#[]⟩, .slice (some ⟨g, 0, none⟩) 1 cap, .slice a2 n2 c2'] 27)) := (Below.refl _ _).alloc (Nat.le_refl _) _; have c8 := bthen c7 hbn; have hz8 := Blk.new w7 27 #[.string ⟨#[]⟩, .string ⟨#[97]⟩, .string ⟨#[]⟩, .slice (some ⟨g, 0, none⟩) 1 cap, .slice a2 n2 c2']; have k12 := kI.out _ ⟨#[]⟩ ⟨#[97]⟩ ⟨#[]⟩ (some ⟨g, 0, none⟩) 1 cap a2 n2 c2' (hkid.below hbn); have hg2 := (hbn.cell (cell_lt hcell)).trans hcell; replace c7 := Lib.hid c7; replace c8 := Lib.hid c8; replace hbn := Lib.hid hbn; replace hz8 := Lib.hid hz8; replace hkid := Lib.hid hkid; replace hcell := Lib.hid hcell; replace b7 := Lib.hid b7; replace hg2 := Lib.hid hg2)
    | (go_at_call 12; (with_reducible refine k12.mono ?_); rintro e w9 ⟨rfl, b9⟩; have c9 := bthen c8.out b9; have hg9 := (b9.cell (cell_lt hg2.out)).trans hg2.out; have hz9 := hz8.out.below b9 hz8.out.lt; have q3 := hz9.cell 3; obtain ⟨cS, W10, hcv10, hbS, hBS, _, _⟩ := hcS.out w9; have c10 := bthen c9 hBS; have k14b := kS2.out W10 _ cS c10 hbS; replace c9 := Lib.hid c9; replace c10 := Lib.hid c10; replace b9 := Lib.hid b9; replace hz9 := Lib.hid hz9; replace hbS := Lib.hid hbS; replace hBS := Lib.hid hBS)
    | (go_at_call 14; (with_reducible refine k14b.mono ?_); rintro e w11 ⟨rfl, b11⟩; have c11 := bthen c10.out b11; replace c11 := Lib.hid c11; replace b11 := Lib.hid b11))
   go_ret
   exact ⟨rfl, c11.out⟩
end Go.Proofs.YtgomlebemefdcaaDoor

/- The tables that lie as the row says. No condition. -/
namespace Go.Proofs.YtgomlebemefdcaaDoor
open Go Go.RowKit Go.Wk Go.Xt
set_option maxRecDepth 100000 in
theorem tabs_ofE {w : World} (h : laidMet Tryd.prog Rows.xmlEscapesRow.laid w) : Lib.Utf8Tabs 0 1 w :=
  utf8Tabs_of_readsT (P := Tryd.prog) (ρ := ⟨fun n => n, fun | 5 => 5 | 119 => 95 | 138 => 97 | 139 => 98 | n => n, fun | 3 => 0 | 4 => 1 | n => n⟩) ⟨Tryd.underlying5, Tryd.underlying95, Tryd.underlying97, Tryd.underlying98⟩ ⟨by kernel_rfl, by kernel_rfl, by kernel_rfl, by kernel_rfl, by kernel_rfl, by kernel_rfl, by kernel_rfl⟩
    (Go.Lib.laidMet.reads h (List.mem_of_getElem? (i := 1) (by kernel_rfl))) (Go.Lib.laidMet.reads h (List.mem_of_getElem? (i := 0) (by kernel_rfl)))
theorem globsE : Tryd.prog.globals.size = 3 := by kernel_rfl
end Go.Proofs.YtgomlebemefdcaaDoor

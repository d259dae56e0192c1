/- Walks and laws, joined: part M. No condition. -/
import Derived.Test.YtkpikpaepgknnaaGreatDoorXkJL
import Derived.Test.YtkpikpaepgknnaaGreatDoorXkJJ
set_option linter.unusedSimpArgs false
set_option linter.unusedVariables false
/- The law of XmpBack, but for what awake answers. No condition. -/
namespace Go.Proofs.YtkpikpaepgknnaaGreatDoor
open Go Go.RowKit Go.Wk Go.Xt Go.Xe Go.Xw
attribute [local go_sem ↓] Go.wp_at_zero Go.wp_at_succ
def H14 (vv sv : Value) (i g f : Nat) (y : Pr) (S : Nat) : Nat → Value → World → Prop := fun j v w => match j with
  | 0 => v = vv
  | 1 => v = sv
  | 2 => v = .int .i64 (i : Nat)
  | 3 => v = .pointer (some ⟨g, f, none⟩)
  | 4 => v = .pointer (some ⟨g, f, none⟩)
  | 5 => v = .string y.sp
  | 6 => v = sv
  | 7 => v = .int .i64 (i : Nat)
  | 8 => v = .pointer (some ⟨g, f, none⟩)
  | 9 => v = .pointer (some ⟨g, f + 1, none⟩)
  | 10 => v = .string y.nm
  | 11 => ∃ A c, v = .tuple #[prV y (.slice A y.it.length c), .bool true] ∧ EnsAt w A y.it ∧ y.it.length ≤ c ∧ ∀ a, A = some a → ∃ cs, Blk w a.block 55 cs
  | 12 => ∃ A c, v = .tuple #[prV y (.slice A y.it.length c), .bool true] ∧ EnsAt w A y.it ∧ y.it.length ≤ c ∧ ∀ a, A = some a → ∃ cs, Blk w a.block 55 cs
  | 13 => ∃ A c, v = prV y (.slice A y.it.length c) ∧ EnsAt w A y.it ∧ y.it.length ≤ c ∧ ∀ a, A = some a → ∃ cs, Blk w a.block 55 cs
  | 14 => v = .bool true
  | _ => ∃ q, v = .pointer (some ⟨q, 0, none⟩) ∧ Blk w q 38 #[.string ⟨#[]⟩, .string ⟨#[]⟩, .int .i64 0, .slice none 0 0] ∧ S ≤ q
theorem H14_mono {vv sv : Value} {i g f : Nat} {y : Pr} {S : Nat} (j : Nat) (v : Value) (w w' : World) (hG : H14 vv sv i g f y S j v w) (hk : Below w.heap.size w w') : H14 vv sv i g f y S j v w' := by
  unfold H14 at hG ⊢
  split at hG <;> first
    | exact hG
    | (obtain ⟨q, h1, h2, h3⟩ := hG; exact ⟨q, h1, h2.below hk h2.lt, h3⟩)
    | (obtain ⟨A, c, h1, h2, h3, h4⟩ := hG; exact ⟨A, c, h1, h2.below hk, h3, fun a ha => by obtain ⟨cs, h5⟩ := h4 a ha; exact ⟨cs, h5.below hk h5.lt⟩⟩)
def H15 (sv : Value) (i g f : Nat) (y : Pr) (A5 : Option Addr) (c5 : Nat) (Ay : Option Addr) (cy : Nat) : Nat → Value → World → Prop := fun j v w => match j with
  | 0 => v = .bool true
  | 1 => v = .bool false
  | 2 => v = .bool false
  | 3 => v = .agg (prs (y, A5, c5)).toArray
  | 4 => ∃ q, v = .slice (some ⟨q, 0, none⟩) 1 1 ∧ Blk w q 38 (prs (y, A5, c5)).toArray
  | 5 => ∃ g6 c6 A6 d6, v = .slice (some ⟨g6, 0, none⟩) 1 c6 ∧ w.cell? ⟨g6, 0, none⟩ = some (.string y.sp) ∧ w.cell? ⟨g6, 1, none⟩ = some (.string y.nm) ∧ w.cell? ⟨g6, 2, none⟩ = some (.int .i64 y.kd) ∧ w.cell? ⟨g6, 3, none⟩ = some (.slice A6 y.it.length d6) ∧ EnsAt w A6 y.it ∧ y.it.length ≤ d6
  | 6 => v = sv
  | 7 => v = .int .i64 (i : Nat)
  | 8 => v = .pointer (some ⟨g, f, none⟩)
  | 9 => v = .agg (prs (y, Ay, cy)).toArray
  | 10 => ∃ q, v = .slice (some ⟨q, 0, none⟩) 1 1 ∧ Blk w q 43 (prs (y, Ay, cy)).toArray
  | 11 => v = .bool true
  | _ => v = .bool false
theorem H15_mono {sv : Value} {i g f : Nat} {y : Pr} {A5 : Option Addr} {c5 : Nat} {Ay : Option Addr} {cy : Nat} (j : Nat) (v : Value) (w w' : World) (hG : H15 sv i g f y A5 c5 Ay cy j v w) (hk : Below w.heap.size w w') : H15 sv i g f y A5 c5 Ay cy j v w' := by
  unfold H15 at hG ⊢
  split at hG <;> first
    | exact hG
    | (obtain ⟨q, h1, h2⟩ := hG; exact ⟨q, h1, h2.below hk h2.lt⟩)
    | (obtain ⟨g6, c6, A6, d6, h1, h2, h3, h4, h5, h6, h7⟩ := hG; exact ⟨g6, c6, A6, d6, h1, (hk.cell (cell_lt h2)).trans h2, (hk.cell (cell_lt h3)).trans h3, (hk.cell (cell_lt h4)).trans h4, (hk.cell (cell_lt h5)).trans h5, h6.below hk, h7⟩)
theorem writeC_out {r : Option (List Pr)} {e : Ending} {w : World} (h : WroteC r e w) : (r = none ∧ e = .returned (.tuple #[.slice none 0 0, .int .i64 1])) ∨ ∃ R A c, r = some R ∧ e = .returned (.tuple #[.slice A (packetL R).length c, .int .i64 0]) ∧ Byt w A (packetL R) ∧ (packetL R).length ≤ c ∧ c ≤ maxLen ∧ (packetL R).length ≤ 10000000 := by
  cases r with
  | none => exact .inl ⟨rfl, h⟩
  | some R => obtain ⟨A, c, h1, h2⟩ := h; exact .inr ⟨R, A, c, rfl, h1, h2⟩
set_option maxHeartbeats 32000000 in
set_option maxRecDepth 100000 in
theorem back_law (A : Option Addr) (g og c : Nat) (l : List PA) (w : World) (hA : 0 < l.length → A = some ⟨g, og, none⟩) (hcp : l.length ≤ c) (hc : CellsO w g og l) (hh : ∀ x ∈ l, Held w x) (hm : l.length ≤ 9223372036854775807) (hT : Lib.Utf8Tabs 0 1 w) (h2 : 2 ≤ w.heap.size) (mx : Int) (hmx : w.cell? ⟨2, 0, none⟩ = some (.int .i64 mx))
    (haw : Calls Tryz.prog 8 #[] w fun e w' => e = .returned (.bool true) ∧ Below w.heap.size w w') :
    Calls Tryz.prog 4 #[.slice A l.length c] w fun e w' => e = .returned (.bool true) ∧ Below w.heap.size w w' := by
  have c9 := fun W (hW : Below w.heap.size w W) => few_walk (w := W) A g og c l hA hcp (hc.below hW) (fun x hx => (hh x hx).below hW) hm
  have c11 := fun (hf : l.length ≤ 20 ∧ ∀ x ∈ l, Xw.Small x.1) W (hW : Below w.heap.size w W) => props_walk (w := W) A g og c l hA hf.1 hcp (hc.below hW) (fun x hx => (hh x hx).below hW) hf.2
  have c10 := fun (hf : l.length ≤ 20 ∧ ∀ x ∈ l, Xw.Small x.1) W (hW : Below w.heap.size w W) (l' : List PA) (A' : Option Addr) (g' c' : Nat) (hp : pl l' = pl l) (h1 : 0 < l'.length → A' = some ⟨g', 0, none⟩) (h3 : l'.length ≤ c') (h4 : CellsP W g' l') (h5 : ∀ x ∈ l', GoodP W x) => xmp_Write (w := W) A' g' c' l' h1 (by have := congrArg List.length hp; rw [pl_len, pl_len] at this; omega) h3 h4 h5 (tabs_below hT h2 hW) (by have := hW.size; omega)
  obtain ⟨RS, hRS⟩ : ∃ R, R = addAll [] (pl l) := ⟨_, rfl⟩
  obtain ⟨n, hn⟩ : ∃ n, n = l.length := ⟨_, rfl⟩
  rw [← hn] at c9 c11 hA hcp ⊢
  replace hn := Lib.hid hn
  replace hRS := Lib.hid hRS
  replace c9 := Lib.hid c9
  replace c10 := Lib.hid c10
  replace c11 := Lib.hid c11
  replace hA := Lib.hid hA
  replace hc := Lib.hid hc
  replace hh := Lib.hid hh
  replace hT := Lib.hid hT
  replace h2 := Lib.hid h2
  replace hmx := Lib.hid hmx
  replace hm := Lib.hid hm
  go_enter Tryz.func4, Tryz.ntmps4
  go_upto_region 3 with (go_at_call 8; (with_reducible refine haw.mono ?_); rintro e w1 ⟨rfl, b1⟩; have k9 := c9.out w1 b1; replace k9 := Lib.hid k9; replace b1 := Lib.hid b1)
  go_upto_region 5 with (go_at_call 9; (with_reducible refine k9.out.mono ?_); rintro e w2 ⟨⟨b, rfl, hf⟩, rfl⟩; replace hf := Lib.hid hf; cases b)
  · go_wp2
    go_ret
    exact ⟨rfl, b1.out⟩
  have hf1 := hf.out (by simp)
  have hf2 : n ≤ 20 ∧ ∀ (x : PA), x ∈ l → Xw.Small x.1 := ⟨by rw [hn.out]; exact hf1.1, hf1.2⟩
  have hn20 := hf2.1
  have k11 := c11.out hf2 w1 b1.out
  replace hf := Lib.hid hf1
  clear hf1 hf2
  go_upto_region 6 with (first
    | (go_at_call 11; (with_reducible refine k11.mono ?_); rintro e w3 ⟨b3, l', A', g', c', rfl, p1, p2, p3, p4, p5⟩; have b13 := bthen b1.out b3; have k10 := c10.out hf.out w3 b13 l' A' g' c' p1 p2 p3 p4 p5; rw [p1, ← hRS.out] at k10; replace k10 := Lib.hid k10; replace b13 := Lib.hid b13; clear b3 p1 p2 p3 p4 p5 k11)
    | (go_at_call 10; (with_reducible refine k10.out.mono ?_); rintro e w4 ⟨b4, q4⟩; have b14 := bthen b13.out b4; replace b14 := Lib.hid b14; replace b4 := Lib.hid b4; rcases writeC_out q4 with ⟨hRn, rfl⟩ | ⟨R, A4, c4, hRe, rfl, hy4, hl4, hm4, hz4⟩))
  · go_wp2
    go_ret
    exact ⟨rfl, b14.out⟩
  obtain ⟨R1, R2, R3, R4⟩ := addAll_ok (pl l) [] R (by rw [← hRS.out]; exact hRe) List.Pairwise.nil (fun p hp => by simp at hp)
  have R4 : R.length = n := by rw [R4, pl_len, hn.out]; simp
  have R3 : ∀ p, p ∈ R ↔ p ∈ pl l := fun p => by rw [R3]; simp
  have hsm : ∀ p ∈ R, Xw.Small p := fun p hp => by
    obtain ⟨x, hx, rfl⟩ := List.mem_map.1 ((R3 p).1 hp)
    exact hf.out.2 x hx
  have c14 := xmp_Read (w := w4) A4 c4 (packetL R) R hy4 rfl hl4 (by unfold maxLen at hm4; exact hm4) hz4 mx ((b14.out.cell (cell_lt hmx.out)).trans hmx.out) (tabs_below hT.out h2.out b14.out) (by have := b14.out.size; have := h2.out; omega) (fun p hp => (R2 p hp).1) R1 (by omega) (fun p hp => (hsm p hp).it) (fun p hp e he => by have := ((hsm p hp).en e he).2; have h9 : e.2.data.toList.length = e.2.size := Array.length_toList; omega) (fun p hp => (R2 p hp).2)
  obtain ⟨m4, hm4e⟩ : ∃ m, m = (packetL R).length := ⟨_, rfl⟩
  rw [← hm4e] at c14 ⊢
  replace hm4e := Lib.hid hm4e
  replace R1 := Lib.hid R1
  replace R2 := Lib.hid R2
  replace R3 := Lib.hid R3
  replace R4 := Lib.hid R4
  replace hsm := Lib.hid hsm
  replace hRe := Lib.hid hRe
  clear q4 hy4 hl4 hm4 hz4
  go_upto_region 9 with (go_at_call 14; (with_reducible refine c14.mono ?_); rintro e w5 ⟨ll, L, vv, rfl, hll, hLs, hM, hLb, hb5⟩; replace hll := Lib.hid hll; replace hLs := Lib.hid hLs; replace hM := Lib.hid hM; replace hLb := Lib.hid hLb; replace hb5 := Lib.hid hb5)
  obtain ⟨⟨v0, hL0, hO0⟩, _, _, hso⟩ := hM.out.list
  have hv0 := blk_one hL0 hLb.out
  subst hv0
  obtain ⟨AL, gL, capL, rfl, hAL, hcpL, hcsL⟩ := row_out hO0
  have hlln : ll.length = n := by have := congrArg List.length hll.out; rw [pl_len, R4.out] at this; exact this
  have hEL : ∀ W, Below w5.heap.size w5 W → ∀ x ∈ ll, EnsAt W x.2.1 x.1.it ∧ x.1.it.length ≤ x.2.2 ∧ x.1.it.length ≤ 20 := fun W hW x hx => by
    obtain ⟨h1, h2, _⟩ := hM.out.items _ hLb.out x hx
    have h3 : x.1 ∈ R := by rw [← hll.out]; exact List.mem_map_of_mem hx
    exact ⟨h1.below hW, h2, (hsm.out _ h3).it⟩
  have hmem : ∀ x ∈ l, ∃ z ∈ ll, z.1 = x.1 := fun x hx => by
    have h1 : x.1 ∈ R := (R3.out _).2 (List.mem_map_of_mem hx)
    rw [← hll.out] at h1
    obtain ⟨z, hz, e⟩ := List.mem_map.1 h1
    exact ⟨z, hz, e⟩
  have cFind := fun (W : World) (hW : Below w5.heap.size w5 W) (y : Pr) (hy : ∃ x ∈ l, x.1 = y) => by
    have hyR : y ∈ R := by obtain ⟨x, hx, rfl⟩ := hy; exact (R3.out _).2 (List.mem_map_of_mem hx)
    have h := xmp_Find (w := W) AL gL capL ll hAL (by rw [hlln]; exact hn20) hcpL (hcsL.below hW) (hEL W hW) y.sp y.nm y (by obtain ⟨x, hx, rfl⟩ := hy; obtain ⟨z, hz, e⟩ := hmem x hx; exact ⟨z, hz, by rw [e]; exact isF_self _⟩) (fun x hx hF => by
      obtain ⟨h1, h2⟩ := isF_eq hF
      exact sorted_one R1.out (by rw [← hll.out]; exact List.mem_map_of_mem hx) hyR h1 h2)
    rw [hlln] at h
    exact h
  rw [hlln] at hcpL hAL ⊢
  replace hlln := Lib.hid hlln
  replace hAL := Lib.hid hAL
  replace hcsL := Lib.hid hcsL
  replace hso := Lib.hid hso
  replace hEL := Lib.hid hEL
  replace hmem := Lib.hid hmem
  replace cFind := Lib.hid cFind
  clear hL0 hO0
  go_wp2
  go_loopw [7] (fun s7 wr => ∃ i : Nat, i ≤ n ∧ s7 = .int .i64 i ∧ Below w5.heap.size w5 wr) (fun s7 _ => n - (RowKit.intOf s7).toNat)
  case atStart => exact ⟨0, Nat.zero_le _, rfl, Below.refl _ _⟩
  case round =>
    obtain ⟨i, hi, rfl, hB⟩ := hrel
    by_cases hin : i < n
    · have hil : i < l.length := by rw [← hn.out]; exact hin
      have hAe := hA.out (by omega)
      subst hAe
      have hBw := bthen b14.out (bthen hb5.out hB)
      obtain ⟨x0, x1, x2, x3⟩ := hc.out.below hBw i hil
      have hxm := List.getElem_mem hil
      obtain ⟨hEy, hcy⟩ := (hh.out _ hxm).below hBw
      have hsy := hf.out.2 _ hxm
      have cF1 := fun W (hW : Below wr.heap.size wr W) => cFind.out W (bthen hB hW) l[i].1 ⟨_, hxm, rfl⟩
      generalize l[i] = x at x0 x1 x2 x3 hEy hcy hsy cF1
      obtain ⟨y, Ay, cy⟩ := x
      simp only at x0 x1 x2 x3 hEy hcy hsy cF1
      have cF : ∀ W, Below wr.heap.size wr W → Calls Tryz.prog 15 #[.slice AL n capL, .string y.sp, .string y.nm] W fun e w' => ∃ A5 c5, e = .returned (.tuple #[prV y (.slice A5 y.it.length c5), .bool true]) ∧ EnsAt w' A5 y.it ∧ y.it.length ≤ c5 ∧ (∀ a, A5 = some a → ∃ cs, Blk w' a.block 55 cs) ∧ Below W.heap.size W w' := cF1
      have kx := fun W (hW : Below wr.heap.size wr W) => And.intro ((hW.cell (cell_lt x0)).trans x0) (And.intro ((hW.cell (cell_lt x1)).trans x1) (And.intro ((hW.cell (cell_lt x2)).trans x2) ((hW.cell (cell_lt x3)).trans x3)))
      replace cF := Lib.hid cF
      replace kx := Lib.hid kx
      replace hEy := Lib.hid hEy
      replace hcy := Lib.hid hcy
      replace hsy := Lib.hid hsy
      replace hB := Lib.hid hB
      replace hBw := Lib.hid hBw
      clear hxm cF1 x0 x1 x2 x3
      replace hil := Lib.hid hil
      go_upto_region 14 with (fail)
      go_cut [8, 9] (fun s8 s9 wx => ∃ (q : Nat) (A5 : Option Addr) (c5 : Nat), s8 = .pointer (some ⟨q, 0, none⟩) ∧ s9 = .bool true ∧ Blk wx q 38 (prs (y, A5, c5)).toArray ∧ EnsAt wx A5 y.it ∧ y.it.length ≤ c5 ∧ Below wr.heap.size wr wx)
      case first =>
        refine wp_lin_late (by kernel_rfl) [none, none, none, none, none, none, none, none, some 15, none, none, none, none, none, none, none, none, none, none, none, none, none, none, none, none, none, none, none, none, none, none, none, none, none, none, none, none, none, none, none, none, none, none, none, some 12, some 0, some 1, some 2, some 3, some 4, some 5, some 6, some 7, some 8, some 9, some 10, some 11, some 13, some 14, none, none, none, none, none, none, none, none, none, none, none, none, none, none, none, none, none, none, none, none, none, none, none, none, none, none, none, none, none, none, none, none, none, none, none, none, none, none, none, none, none, none, none, none, none, none, none, none, none, none, none, none, none, none, none, none, none, none, none, none] (fun w' => Below wr.heap.size wr w') (fun w' w'' => Below w'.heap.size w' w'') (H14 (.slice AL n capL) (.slice (some ⟨g, og, none⟩) n c) i g (og + i * 4) y wr.heap.size) (by rfl) (by kernel_rfl) 16 14 _ _ _ rfl rfl (by decide) (by decide) (by kernel_rfl) (by kernel_rfl) [11, 3, 3, 4, 5, 11, 8, 8, 9, 10, 11, 12, 13, 16, 0, 16] (by kernel_rfl) ?shR ?smono (.cons 15 (Wk.step_of [] rfl (by kernel_rfl) ?s15) (.cons 14 (Wk.step_of [12] rfl (by kernel_rfl) ?s14) (.cons 13 (Wk.step_of [12] rfl (by kernel_rfl) ?s13) (.cons 12 (Wk.step_of [11] rfl (by kernel_rfl) ?s12) (.cons 11 (Wk.step_of [0, 5, 10] rfl (by kernel_rfl) ?s11) (.cons 10 (Wk.step_of [9] rfl (by kernel_rfl) ?s10) (.cons 9 (Wk.step_of [8] rfl (by kernel_rfl) ?s9) (.cons 8 (Wk.step_of [6, 7] rfl (by kernel_rfl) ?s8) (.cons 7 (Wk.step_of [] rfl (by kernel_rfl) ?s7) (.cons 6 (Wk.step_of [] rfl (by kernel_rfl) ?s6) (.cons 5 (Wk.step_of [4] rfl (by kernel_rfl) ?s5) (.cons 4 (Wk.step_of [3] rfl (by kernel_rfl) ?s4) (.cons 3 (Wk.step_of [1, 2] rfl (by kernel_rfl) ?s3) (.cons 2 (Wk.step_of [] rfl (by kernel_rfl) ?s2) (.cons 1 (Wk.step_of [] rfl (by kernel_rfl) ?s1) (.cons 0 (Wk.step_of [] rfl (by kernel_rfl) ?s0) (.nil))))))))))))))))) ?sdone
        case shR => exact (Below.refl _ _).drew
        case smono => exact H14_mono
        case s0 =>
          intro x' w' hRw hd K' hK
          simp only [All, H14] at hd
          simp (config := {decide := true}) only [upd, H14, fillL, if_true, if_false] at hK ⊢
          go_simp
          have hK2 := hK _ _ ⟨hRw, Below.refl _ _, rfl⟩
          exact hK2
        case s1 =>
          intro x' w' hRw hd K' hK
          simp only [All, H14] at hd
          simp (config := {decide := true}) only [upd, H14, fillL, if_true, if_false] at hK ⊢
          go_simp
          have hK2 := hK _ _ ⟨hRw, Below.refl _ _, rfl⟩
          exact hK2
        case s2 =>
          intro x' w' hRw hd K' hK
          simp only [All, H14] at hd
          simp (config := {decide := true}) only [upd, H14, fillL, if_true, if_false] at hK ⊢
          go_simp
          have hK2 := hK _ _ ⟨hRw, Below.refl _ _, rfl⟩
          exact hK2
        case s3 =>
          intro x' w' hRw hd K' hK
          simp only [All, H14] at hd
          obtain ⟨e1, e2, _⟩ := hd
          simp (config := {decide := true}) only [upd, H14, fillL, if_true, if_false] at hK ⊢
          simp only [e1, e2] at hK ⊢
          go_simp
          have hK2 := hK _ _ ⟨hRw, Below.refl _ _, rfl⟩
          exact hK2
        case s4 =>
          intro x' w' hRw hd K' hK
          simp only [All, H14] at hd
          obtain ⟨e3, _⟩ := hd
          simp (config := {decide := true}) only [upd, H14, fillL, if_true, if_false] at hK ⊢
          simp only [e3] at hK ⊢
          go_simp
          have hK2 := hK _ _ ⟨hRw, Below.refl _ _, rfl⟩
          exact hK2
        case s5 =>
          intro x' w' hRw hd K' hK
          simp only [All, H14] at hd
          obtain ⟨e4, _⟩ := hd
          simp (config := {decide := true}) only [upd, H14, fillL, if_true, if_false] at hK ⊢
          simp only [e4] at hK ⊢
          obtain ⟨y0, y1, y2, y3⟩ := kx.out w' hRw
          go_simp
          have hK2 := hK _ _ ⟨hRw, Below.refl _ _, rfl⟩
          exact hK2
        case s6 =>
          intro x' w' hRw hd K' hK
          simp only [All, H14] at hd
          simp (config := {decide := true}) only [upd, H14, fillL, if_true, if_false] at hK ⊢
          go_simp
          have hK2 := hK _ _ ⟨hRw, Below.refl _ _, rfl⟩
          exact hK2
        case s7 =>
          intro x' w' hRw hd K' hK
          simp only [All, H14] at hd
          simp (config := {decide := true}) only [upd, H14, fillL, if_true, if_false] at hK ⊢
          go_simp
          have hK2 := hK _ _ ⟨hRw, Below.refl _ _, rfl⟩
          exact hK2
        case s8 =>
          intro x' w' hRw hd K' hK
          simp only [All, H14] at hd
          obtain ⟨e6, e7, _⟩ := hd
          simp (config := {decide := true}) only [upd, H14, fillL, if_true, if_false] at hK ⊢
          simp only [e6, e7] at hK ⊢
          go_simp
          have hK2 := hK _ _ ⟨hRw, Below.refl _ _, rfl⟩
          exact hK2
        case s9 =>
          intro x' w' hRw hd K' hK
          simp only [All, H14] at hd
          obtain ⟨e8, _⟩ := hd
          simp (config := {decide := true}) only [upd, H14, fillL, if_true, if_false] at hK ⊢
          simp only [e8] at hK ⊢
          go_simp
          have hK2 := hK _ _ ⟨hRw, Below.refl _ _, rfl⟩
          exact hK2
        case s10 =>
          intro x' w' hRw hd K' hK
          simp only [All, H14] at hd
          obtain ⟨e9, _⟩ := hd
          simp (config := {decide := true}) only [upd, H14, fillL, if_true, if_false] at hK ⊢
          simp only [e9] at hK ⊢
          obtain ⟨y0, y1, y2, y3⟩ := kx.out w' hRw
          go_simp
          have hK2 := hK _ _ ⟨hRw, Below.refl _ _, rfl⟩
          exact hK2
        case s11 =>
          intro x' w' hRw hd K' hK
          simp only [All, H14] at hd
          obtain ⟨e0, e5, e10, _⟩ := hd
          simp (config := {decide := true}) only [upd, H14, fillL, if_true, if_false] at hK ⊢
          simp only [e0, e5, e10] at hK ⊢
          go_simp
          refine (cF.out w' hRw).mono ?_
          rintro e' w2 ⟨A5, c5, rfl, hE5, hc5, hT5, hB9⟩
          have hK2 := hK _ _ ⟨bthen hRw hB9, hB9, A5, c5, rfl, hE5, hc5, hT5⟩
          exact hK2
        case s12 =>
          intro x' w' hRw hd K' hK
          simp only [All, H14] at hd
          obtain ⟨⟨A5, c5, e11, hE5, hc5, hT5⟩, _⟩ := hd
          simp (config := {decide := true}) only [upd, H14, fillL, if_true, if_false] at hK ⊢
          simp only [e11] at hK ⊢
          go_simp
          have hK2 := hK _ _ ⟨hRw, Below.refl _ _, A5, c5, rfl, hE5, hc5, hT5⟩
          exact hK2
        case s13 =>
          intro x' w' hRw hd K' hK
          simp only [All, H14] at hd
          obtain ⟨⟨A5, c5, e12, hE5, hc5, hT5⟩, _⟩ := hd
          simp (config := {decide := true}) only [upd, H14, fillL, if_true, if_false] at hK ⊢
          simp only [e12] at hK ⊢
          go_simp
          have hK2 := hK _ _ ⟨hRw, Below.refl _ _, A5, c5, rfl, hE5, hc5, hT5⟩
          exact hK2
        case s14 =>
          intro x' w' hRw hd K' hK
          simp only [All, H14] at hd
          obtain ⟨⟨A5, c5, e12, hE5, hc5, hT5⟩, _⟩ := hd
          simp (config := {decide := true}) only [upd, H14, fillL, if_true, if_false] at hK ⊢
          simp only [e12] at hK ⊢
          go_simp
          have hK2 := hK _ _ ⟨hRw, Below.refl _ _, rfl⟩
          exact hK2
        case s15 =>
          intro x' w' hRw hd K' hK
          simp only [All, H14] at hd
          simp (config := {decide := true}) only [upd, H14, fillL, if_true, if_false] at hK ⊢
          go_simp
          have hba : Below w'.heap.size w' (w'.alloc (.cells #[.string ⟨#[]⟩, .string ⟨#[]⟩, .int .i64 0, .slice none 0 0] 38)) := (Below.refl _ _).alloc (Nat.le_refl _) _
          have hK2 := hK _ _ ⟨bthen hRw hba, hba, _, rfl, Blk.new w' 38 _, hRw.size⟩
          exact hK2
        case sdone =>
          intro l' hl' x' w6 hR6 hG fr hfr
          have e13 := hG 13 (by omega) (fun e => absurd e (by omega))
          have e12 := hG 12 (by omega) (fun e => absurd e (by omega))
          have e15 := hG 15 (by omega) (fun e => absurd e (by omega))
          simp only [H14] at e13 e15 e12
          obtain ⟨A5, c5, e13, hE5, hc5, hT5⟩ := e13
          obtain ⟨A5', c5', e12, _⟩ := e12
          obtain ⟨q, e15, hq, hqS⟩ := e15
          simp only [fillL] at hfr
          rw [e13, e15, e12] at hfr
          clear e13 e15 e12
          have hfin : ∀ W5, W5 = w6.setRow q (prs (y, A5, c5)).toArray → Blk W5 q 38 (prs (y, A5, c5)).toArray ∧ EnsAt W5 A5 y.it ∧ y.it.length ≤ c5 ∧ Below wr.heap.size wr W5 := fun W5 hW5 => by
            subst hW5
            refine ⟨setRow_heap _ _ _ _ _ _ hq, ens_kept hE5 fun a ha => ?_, hc5, ⟨hR6.os, hR6.tape, hR6.output, by rw [setRow_size]; exact hR6.size, fun k hk => (setRow_other _ _ _ _ (by omega)).trans (hR6.block k hk)⟩⟩
            obtain ⟨cs, h5⟩ := hT5 a ha
            refine setRow_other _ _ _ _ (fun e => ?_)
            rw [e] at h5
            have h6 := h5.symm.trans hq
            injection h6 with h6
            injection h6 with _ h7
            exact absurd h7 (by decide)
          replace hfin := Lib.hid hfin
          rcases hl' with rfl | rfl
          all_goals
            (try (have g14 := hG 14 (by omega) (fun _ => rfl); simp only [H14] at g14; rw [g14] at hfr; clear g14))
            clear hG
            subst hfr
            refine wpList_store_row rfl 38 _ _ rfl q (prs (y, A5, c5)).toArray rfl rfl 38 _ hq (by kernel_rfl) rfl (by simp [prs, Value.oneCell']) ?_
            have hf5 := hfin.out _ rfl
            obtain ⟨W5, hW5⟩ : ∃ W, W = w6.setRow q (prs (y, A5, c5)).toArray := ⟨_, rfl⟩
            rw [← hW5] at hf5 ⊢
            replace hW5 := Lib.hid hW5
            replace hf5 := Lib.hid hf5
            clear hq hE5 hT5 hR6
            go_wp2
            go_meet
            exact ⟨q, A5, c5, rfl, rfl, hf5.out.1, hf5.out.2.1, hf5.out.2.2.1, hf5.out.2.2.2⟩
      case rest =>
        obtain ⟨q, A5, c5, rfl, rfl, hQ5, hE5, hc5, hB5⟩ := hcut
        have kq := fun W (hW : Below wc.heap.size wc W) => blk4 (hQ5.below hW hQ5.lt)
        have kx5 := fun W (hW : Below wc.heap.size wc W) => kx.out W (bthen hB5 hW)
        have cP := fun W q4 (hW : Below wc.heap.size wc W) (hq4 : Blk W q4 38 (prs (y, A5, c5)).toArray) => one_props (w := W) q4 y A5 c5 hq4 (hE5.below hW) hc5 hsy.out
        have cS := fun W g6 c6 A6 d6 q10 (hW : Below wc.heap.size wc W) h60 h61 h62 h63 h64 h65 (hq10 : Blk W q10 43 (prs (y, Ay, cy)).toArray) => one_same (w := W) g6 c6 A6 d6 q10 y Ay cy h60 h61 h62 h63 h64 h65 hq10 (hEy.out.below (bthen hB5 hW)) hcy.out hsy.out
        have hB6 := bthen hB.out hB5
        replace kq := Lib.hid kq
        replace kx5 := Lib.hid kx5
        replace cP := Lib.hid cP
        replace cS := Lib.hid cS
        replace hB6 := Lib.hid hB6
        replace hB5 := Lib.hid hB5
        replace hE5 := Lib.hid hE5
        replace hc5 := Lib.hid hc5
        replace hQ5 := Lib.hid hQ5
        go_upto_region 15 with (fail)
        refine wp_lin_tail (by kernel_rfl) [none, none, none, none, none, none, none, none, none, none, none, none, none, none, none, none, none, none, none, none, none, none, none, none, none, none, none, none, none, none, none, none, none, none, none, none, none, none, none, none, none, none, none, none, none, none, none, none, none, none, none, none, none, none, none, none, none, none, none, some 0, some 1, some 2, some 3, some 4, some 5, some 6, some 7, some 8, some 9, some 10, some 11, some 12, none, none, none, none, none, none, none, none, none, none, none, none, none, none, none, none, none, none, none, none, none, none, none, none, none, none, none, none, none, none, none, none, none, none, none, none, none, none, none, none, none, none, none, none, none, none, none] (fun w' => Below wc.heap.size wc w') (fun w' w'' => Below w'.heap.size w' w'') (H15 (.slice (some ⟨g, og, none⟩) n c) i g (og + i * 4) y A5 c5 Ay cy) (by rfl) (by kernel_rfl) 13 _ rfl (by decide) (by kernel_rfl) [1, 2, 3, 4, 5, 11, 8, 8, 9, 10, 11, 12, 13] (by kernel_rfl) ?thR ?tmono (.cons 12 (Wk.step_of [2, 11] rfl (by kernel_rfl) ?t12) (.cons 11 (Wk.step_of [2, 5, 10] rfl (by kernel_rfl) ?t11) (.cons 10 (Wk.step_of [2, 9] rfl (by kernel_rfl) ?t10) (.cons 9 (Wk.step_of [2, 8] rfl (by kernel_rfl) ?t9) (.cons 8 (Wk.step_of [2, 6, 7] rfl (by kernel_rfl) ?t8) (.cons 7 (Wk.step_of [2] rfl (by kernel_rfl) ?t7) (.cons 6 (Wk.step_of [2] rfl (by kernel_rfl) ?t6) (.cons 5 (Wk.step_of [2, 4] rfl (by kernel_rfl) ?t5) (.cons 4 (Wk.step_of [2, 3] rfl (by kernel_rfl) ?t4) (.cons 3 (Wk.step_of [2] rfl (by kernel_rfl) ?t3) (.cons 2 (Wk.step_of [1] rfl (by kernel_rfl) ?t2) (.cons 1 (Wk.step_of [0] rfl (by kernel_rfl) ?t1) (.cons 0 (Wk.step_of [] rfl (by kernel_rfl) ?t0) (.nil)))))))))))))) ?tdone
        case thR => exact (Below.refl _ _).drew
        case tmono => exact H15_mono
        case t0 =>
          intro x' w' hRw hd K' hK
          simp only [All, H15] at hd
          simp (config := {decide := true}) only [upd, H15, fillL, if_true, if_false] at hK ⊢
          go_simp
          have hK2 := hK _ _ ⟨hRw, Below.refl _ _, rfl⟩
          exact hK2
        case t1 =>
          intro x' w' hRw hd K' hK
          simp only [All, H15] at hd
          obtain ⟨e0, _⟩ := hd
          simp (config := {decide := true}) only [upd, H15, fillL, if_true, if_false] at hK ⊢
          simp only [e0] at hK ⊢
          go_simp
          have hK2 := hK _ _ ⟨hRw, Below.refl _ _, rfl⟩
          exact hK2
        case t2 =>
          intro x' w' hRw hd K' hK
          simp only [All, H15] at hd
          obtain ⟨e1, _⟩ := hd
          simp (config := {decide := true}) only [upd, H15, fillL, if_true, if_false] at hK ⊢
          simp only [e1] at hK ⊢
          go_simp
          have hK2 := hK _ _ ⟨hRw, Below.refl _ _, rfl⟩
          exact hK2
        case t3 =>
          intro x' w' hRw hd K' hK
          simp only [All, H15] at hd
          obtain ⟨e2, _⟩ := hd
          simp (config := {decide := true}) only [upd, H15, fillL, if_true, if_false] at hK ⊢
          simp only [e2] at hK ⊢
          obtain ⟨z0, z1, z2, z3⟩ := kq.out w' hRw
          go_simp
          have hK2 := hK _ _ ⟨hRw, Below.refl _ _, rfl⟩
          exact hK2
        case t4 =>
          intro x' w' hRw hd K' hK
          simp only [All, H15] at hd
          obtain ⟨e2, e3, _⟩ := hd
          simp (config := {decide := true}) only [upd, H15, fillL, if_true, if_false] at hK ⊢
          simp only [e2, e3] at hK ⊢
          go_simp
          have hba : Below w'.heap.size w' (w'.alloc (.cells (prs (y, A5, c5)).toArray 38)) := (Below.refl _ _).alloc (Nat.le_refl _) _
          have hK2 := hK _ _ ⟨bthen hRw hba, hba, _, rfl, Blk.new w' 38 _⟩
          exact hK2
        case t5 =>
          intro x' w' hRw hd K' hK
          simp only [All, H15] at hd
          obtain ⟨e2, ⟨q4, e4, hq4⟩, _⟩ := hd
          simp (config := {decide := true}) only [upd, H15, fillL, if_true, if_false] at hK ⊢
          simp only [e2, e4] at hK ⊢
          go_simp
          refine (cP.out w' q4 hRw hq4).mono ?_
          rintro e' w2 ⟨hB9, g6, c6, A6, d6, rfl, h60, h61, h62, h63, h64, h65⟩
          have hK2 := hK _ _ ⟨bthen hRw hB9, hB9, g6, c6, A6, d6, rfl, h60, h61, h62, h63, h64, h65⟩
          exact hK2
        case t6 =>
          intro x' w' hRw hd K' hK
          simp only [All, H15] at hd
          obtain ⟨e2, _⟩ := hd
          simp (config := {decide := true}) only [upd, H15, fillL, if_true, if_false] at hK ⊢
          simp only [e2] at hK ⊢
          go_simp
          have hK2 := hK _ _ ⟨hRw, Below.refl _ _, rfl⟩
          exact hK2
        case t7 =>
          intro x' w' hRw hd K' hK
          simp only [All, H15] at hd
          obtain ⟨e2, _⟩ := hd
          simp (config := {decide := true}) only [upd, H15, fillL, if_true, if_false] at hK ⊢
          simp only [e2] at hK ⊢
          go_simp
          have hK2 := hK _ _ ⟨hRw, Below.refl _ _, rfl⟩
          exact hK2
        case t8 =>
          intro x' w' hRw hd K' hK
          simp only [All, H15] at hd
          obtain ⟨e2, e6, e7, _⟩ := hd
          simp (config := {decide := true}) only [upd, H15, fillL, if_true, if_false] at hK ⊢
          simp only [e2, e6, e7] at hK ⊢
          go_simp
          have hK2 := hK _ _ ⟨hRw, Below.refl _ _, rfl⟩
          exact hK2
        case t9 =>
          intro x' w' hRw hd K' hK
          simp only [All, H15] at hd
          obtain ⟨e2, e8, _⟩ := hd
          simp (config := {decide := true}) only [upd, H15, fillL, if_true, if_false] at hK ⊢
          simp only [e2, e8] at hK ⊢
          obtain ⟨y0, y1, y2, y3⟩ := kx5.out w' hRw
          go_simp
          have hK2 := hK _ _ ⟨hRw, Below.refl _ _, rfl⟩
          exact hK2
        case t10 =>
          intro x' w' hRw hd K' hK
          simp only [All, H15] at hd
          obtain ⟨e2, e9, _⟩ := hd
          simp (config := {decide := true}) only [upd, H15, fillL, if_true, if_false] at hK ⊢
          simp only [e2, e9] at hK ⊢
          go_simp
          have hba : Below w'.heap.size w' (w'.alloc (.cells (prs (y, Ay, cy)).toArray 43)) := (Below.refl _ _).alloc (Nat.le_refl _) _
          have hK2 := hK _ _ ⟨bthen hRw hba, hba, _, rfl, Blk.new w' 43 _⟩
          exact hK2
        case t11 =>
          intro x' w' hRw hd K' hK
          simp only [All, H15] at hd
          obtain ⟨e2, ⟨g6, c6, A6, d6, e5, h60, h61, h62, h63, h64, h65⟩, ⟨q10, e10, hq10⟩, _⟩ := hd
          simp (config := {decide := true}) only [upd, H15, fillL, if_true, if_false] at hK ⊢
          simp only [e2, e5, e10] at hK ⊢
          go_simp
          refine (cS.out w' g6 c6 A6 d6 q10 hRw h60 h61 h62 h63 h64 h65 hq10).mono ?_
          rintro e' w2 ⟨rfl, hB9⟩
          have hK2 := hK _ _ ⟨bthen hRw hB9, hB9, rfl⟩
          exact hK2
        case t12 =>
          intro x' w' hRw hd K' hK
          simp only [All, H15] at hd
          obtain ⟨e2, e11, _⟩ := hd
          simp (config := {decide := true}) only [upd, H15, fillL, if_true, if_false] at hK ⊢
          simp only [e2, e11] at hK ⊢
          go_simp
          have hK2 := hK _ _ ⟨hRw, Below.refl _ _, rfl⟩
          exact hK2
        case tdone =>
          intro x' w7 hR7 hG fr hfr
          have e2 := hG 2 (by omega)
          have e12 := hG 12 (by omega)
          simp only [H15] at e2 e12
          simp only [fillL] at hfr
          rw [e2, e12] at hfr
          clear hG e2 e12
          subst hfr
          have hB7 := bthen hB6.out hR7
          replace hB7 := Lib.hid hB7
          clear hR7
          go_wp2
          go_roundw
          case rel => exact ⟨i + 1, by omega, by go_num, hB7.out⟩
          case measure => simp [RowKit.intOf]; omega
    · obtain rfl : i = n := by omega
      replace hB := Lib.hid hB
      go_wp2
      go_loopw [10] (fun s10 wx => ∃ j : Nat, s10 = .int .i64 ((j : Int) + 1) ∧ Below w5.heap.size w5 wx) (fun s10 _ => i - (RowKit.intOf s10).toNat)
      case atStart => exact ⟨0, rfl, hB.out⟩
      case round =>
        obtain ⟨j, rfl, hBx⟩ := hrel
        by_cases hj : j + 1 < i
        · have hjl : j + 1 < ll.length := by rw [hlln.out]; exact hj
          have hjl0 : j < ll.length := by omega
          have hAe := hAL.out (by omega)
          subst hAe
          obtain ⟨x0, x1, _, _⟩ := hcsL.out.below hBx (j + 1) hjl
          obtain ⟨z0, z1, _, _⟩ := hcsL.out.below hBx j hjl0
          have hord := sorted_at hso.out (i := j) (j := j + 1) (by omega) (by rw [pl_len]; exact hjl)
          rw [pl_at hjl, pl_at hjl0] at hord
          generalize ll[j + 1] = xa at x0 x1 hord
          generalize ll[j] = xb at z0 z1 hord
          obtain ⟨⟨spa, nma, kda, ita⟩, Aa, ca⟩ := xa
          obtain ⟨⟨spb, nmb, kdb, itb⟩, Ab, cb⟩ := xb
          replace x0 : wr.cell? ⟨gL, (j + 1) * 4, none⟩ = some (.string spa) := x0
          replace x1 : wr.cell? ⟨gL, (j + 1) * 4 + 1, none⟩ = some (.string nma) := x1
          replace z0 : wr.cell? ⟨gL, j * 4, none⟩ = some (.string spb) := z0
          replace z1 : wr.cell? ⟨gL, j * 4 + 1, none⟩ = some (.string nmb) := z1
          obtain ⟨o1, hF⟩ := ord_facts hord
          replace hBx := Lib.hid hBx
          replace hjl := Lib.hid hjl
          replace hjl0 := Lib.hid hjl0
          clear hord
          rcases hF with o2 | ⟨o2, o3, o4⟩
          all_goals
            go_wp2_with fail
            go_quiet (fail)
            go_wp2
            go_roundw
            case rel => exact ⟨j + 1, by go_num, hBx.out.trans ⟨rfl, rfl, rfl, Nat.le_refl _, fun _ _ => rfl⟩⟩
            case measure => simp [RowKit.intOf]; omega
        · replace hBx := Lib.hid hBx
          have hj2 : ¬ ((j : Int) + 1 < (i : Int)) := by omega
          go_wp2
          go_ret
          exact ⟨rfl, bthen b14.out (bthen hb5.out hBx.out)⟩
end Go.Proofs.YtkpikpaepgknnaaGreatDoor

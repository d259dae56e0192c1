/- Walks and laws, joined: part G. No condition. -/
import Derived.Test.YthacnnmlephkhaaGreatDoorPrJF
import Derived.Test.YthacnnmlephkhaaGreatDoorPrJE
import Derived.Test.YthacnnmlephkhaaGreatDoorPrJC
import Derived.Test.YthacnnmlephkhaaGreatDoorPrJA
import Derived.Test.YthacnnmlephkhaaGreatDoorRows
import Derived.Lib.LaidTab
import Derived.WideShapes
set_option linter.unusedSimpArgs false
set_option linter.unusedVariables false
/- Bytes of a Stream with its number. No condition. -/
namespace Go.Proofs.YthacnnmlephkhaaGreatDoor
open Go Go.RowKit Go.Wk
theorem rowAnyS (l : List UInt8) (S : ByteArray) (hS : S = ⟨l.toArray⟩) (hl : l.length ≤ 1000) (g : Nat) (W : World) (h : W.cell? ⟨g, 0, none⟩ = some (.string S)) : Calls Tryz.prog 34 #[.slice (some ⟨g, 0, none⟩) 1 1] W (RB W l) := by
 subst hS
 have h := prt_row g 0 1 [⟨l.toArray⟩] W (fun i hi => by
  match i, hi with
  | 0, _ => exact h) (by simp; omega) (by simp)
 exact h.mono fun e w' hr => by
  have h2 := hr.rb (by simp; unfold maxLen; omega)
  simpa using h2
def G8 (p : Nat) (ag vb : Value) (n B : Nat) (R : Ob) : Nat → Value → World → Prop := fun j v w => match j with
 | 0 => v = ag
 | 1 => v = .pointer (some ⟨p, 2, none⟩)
 | 2 => v = vb
 | 3 => v = .int .i64 n
 | 4 => v = .agg #[.int .i64 2, .int .i64 n, .slice none 0 0, .slice none 0 0, .slice none 0 0]
 | 5 => ∃ us, v = .agg (List.toArray (.string ⟨#[76, 101, 110, 103, 116, 104]⟩ :: us)) ∧ ObAt w (numO n) us
 | 6 => ∃ g us, v = .slice (some ⟨g, 0, none⟩) 1 1 ∧ ObAt w (numO n) us ∧ ∀ j u, (Value.string ⟨#[76, 101, 110, 103, 116, 104]⟩ :: us)[j]? = some u → w.cell? ⟨g, j, none⟩ = some u
 | 7 => ∃ us lo hi, v = .agg (List.toArray us) ∧ B ≤ lo ∧ ObI lo hi w R us
 | _ => ∃ q, v = .pointer (some ⟨q, 0, none⟩) ∧ B ≤ q ∧ Blk w q 26 #[.int .i64 0, .int .i64 0, .slice none 0 0, .slice none 0 0, .slice none 0 0]
theorem G8_mono {p : Nat} {ag vb : Value} {n B : Nat} {R : Ob} (j : Nat) (v : Value) (w w' : World) (hG : G8 p ag vb n B R j v w) (hk : Below w.heap.size w w') : G8 p ag vb n B R j v w' := by
 unfold G8 at hG ⊢
 split at hG <;> first
  | exact hG
  | (obtain ⟨us, e, hb⟩ := hG; exact ⟨us, e, hb.kept hk⟩)
  | (obtain ⟨us, lo, hi, e, hB, hb⟩ := hG; exact ⟨us, lo, hi, e, hB, obI_below hb hk⟩)
  | (obtain ⟨g, us, e, hb, hc⟩ := hG; exact ⟨g, us, e, hb.kept hk, fun j u hj => (hk.cell (cell_lt (hc j u hj))).trans (hc j u hj)⟩)
  | (obtain ⟨q, e, hB, hb⟩ := hG; exact ⟨q, e, hB, hb.below hk hb.lt⟩)
def D8 (B : Nat) (R : Ob) (a b : Value) (w : World) : Prop := ∃ us lo hi q, a = .agg (List.toArray us) ∧ b = .pointer (some ⟨q, 0, none⟩) ∧ B ≤ lo ∧ B ≤ q ∧ ObI lo hi w R us ∧ (q < lo ∨ hi ≤ q) ∧ Blk w q 26 #[.int .i64 0, .int .i64 0, .slice none 0 0, .slice none 0 0, .slice none 0 0]
theorem D8_mono {B : Nat} {R : Ob} (a b : Value) (w w' : World) (h : D8 B R a b w) (hk : Below w.heap.size w w') : D8 B R a b w' := by
 obtain ⟨us, lo, hi, q, h1, h2, h3, h4, h5, h6, h7⟩ := h
 exact ⟨us, lo, hi, q, h1, h2, h3, h4, obI_below h5 hk, h6, h7.below hk h7.lt⟩
theorem dict_call {k n : Int} {b : List UInt8} {l : List Ob} {d : List (List UInt8 × Ob)} {w : World} {v0 v1 v2 v3 : Value} {AD : Option Addr} {m cD : Nat} (h : ObAt w (.mk k n b l d) [v0, v1, v2, v3, .slice AD m cD]) (hN : bulkD d ≤ 1048576) (hT : Tab w) :
 m = d.length ∧ Calls Tryz.prog 46 #[.slice AD m cD] w (RB w (dictB d)) := by
 cases h with
 | mk k n b l d A AL AD c cL cD gL oL gD oD vl vd h1 h2 h3 h4 h5 h6 h7 h8 h9 h10 h11 h12 h13 h14 hA hl hkey hlv =>
  exact ⟨rfl, prt_dict 1048576 (Nat.le_refl _) (showC_up 1048576 (Nat.le_refl _)) w AD gD oD cD d vd hT hA hl hkey hlv hN⟩
def G9 (p q : Nat) (v0 v2 v7 : Value) (D E : List UInt8) (S8 : ByteArray) : Nat → Value → World → Prop := fun j v w => match j with
 | 0 => v = v0
 | 1 => v = .pointer (some ⟨q, 4, none⟩)
 | 2 => v = v2
 | 3 => ∃ A c, v = .slice A D.length c ∧ Byt w A D
 | 4 => ∃ g, v = .slice (some ⟨g, 0, none⟩) 1 1 ∧ w.cell? ⟨g, 0, none⟩ = some (.string ⟨#[10, 115, 116, 114, 101, 97, 109, 10]⟩)
 | 5 => ∃ A c, v = .slice A strmL.length c ∧ Byt w A strmL
 | 6 => v = .pointer (some ⟨p, 2, none⟩)
 | 7 => v = v7
 | 8 => ∃ g, v = .slice (some ⟨g, 0, none⟩) 1 1 ∧ w.cell? ⟨g, 0, none⟩ = some (.string S8)
 | _ => ∃ A c, v = .slice A E.length c ∧ Byt w A E
theorem G9_mono {p q : Nat} {v0 v2 v7 : Value} {D E : List UInt8} {S8 : ByteArray} (j : Nat) (v : Value) (w w' : World) (hG : G9 p q v0 v2 v7 D E S8 j v w) (hk : Below w.heap.size w w') : G9 p q v0 v2 v7 D E S8 j v w' := by
 unfold G9 at hG ⊢
 split at hG <;> first
  | exact hG
  | (obtain ⟨A, c, e, hb⟩ := hG; exact ⟨A, c, e, hb.below hk⟩)
  | (obtain ⟨g, e, hb⟩ := hG; exact ⟨g, e, (hk.cell (cell_lt hb)).trans hb⟩)
set_option maxHeartbeats 8000000 in
set_option maxRecDepth 100000 in
theorem item_str (num : Int) (hn : i64 num) (n : Int) (b : List UInt8) (l : List Ob) (d : List (List UInt8 × Ob)) (vs : List Value) (w : World) (h : ObAt w (.mk 8 n b l d) vs) (hbk : (Ob.mk 8 n b l d).bulk ≤ 1048569) (hT : Tab w) (hgood : itemB num (.mk 8 n b l d) = true) : Calls Tryz.prog 17 #[.agg (List.toArray (.int .i64 num :: vs))] w (VI w num (.mk 8 n b l d)) := by
 obtain ⟨o, ho⟩ : ∃ o, o = Ob.mk 8 n b l d := ⟨_, rfl⟩
 have hvs : ∃ (A1 A2 A3 : Option Addr) (c1 c2 c3 : Nat), vs = [.int .i64 8, .int .i64 n, .slice A1 b.length c1, .slice A2 l.length c2, .slice A3 d.length c3] ∧ Byt w A1 b := by
  cases h with
  | mk k n b l d A AL AD c cL cD gL oL gD oD vl vd h1 h2 h3 h4 h5 h6 h7 h8 h9 h10 h11 h12 h13 h14 hA hl hkey hlv => exact ⟨A, AL, AD, c, cL, cD, rfl, by assumption⟩
 obtain ⟨E1, E2, E3, ec1, ec2, ec3, hys, hbb⟩ := hvs
 subst hys
 have zk : b.length + bulkL l + bulkD d + 1 ≤ 1048569 := hbk
 have hfd : ∀ e ∈ d, Fits e.2 := by have := h.fits; cases this with | mk _ _ _ _ _ _ _ hd => exact hd
 have zd := ins_len b d hfd (by omega)
 have zdb : bulkD (insE lenL (numO b.length) d) ≤ 1048576 + 8 := by
  rw [insE_bulk, numO_bulk]; have : lenL.length = 6 := rfl; omega
 have hg2 := hgood
 unfold itemB at hg2
 simp only [Bool.and_eq_true, decide_eq_true_eq] at hg2
 obtain ⟨⟨⟨t1, t2⟩, t3⟩, t4⟩ := hg2
 have t4 : (Ob.get lenL (.mk 8 n b l d)).kind = 0 := by
  have e : (Ob.mk 8 n b l d).kind = 8 := rfl
  rw [e] at t4
  simpa using t4
 have hno := get_null t3 rfl t4 rfl
 have zd2 : bulkD (insE lenL (numO b.length) d) ≤ 1048576 := by
  rw [insE_bulk, numO_bulk]; have : lenL.length = 6 := rfl; omega
 obtain ⟨W1, hW1⟩ : ∃ W, W = w.alloc (.cells #[.int .i64 num, .int .i64 8, .int .i64 n, .slice E1 b.length ec1, .slice E2 l.length ec2, .slice E3 d.length ec3] 41) := ⟨_, rfl⟩
 obtain ⟨W2, hW2⟩ : ∃ W, W = W1.alloc (.cells #[.int .i64 8, .int .i64 n, .slice E1 b.length ec1, .slice E2 l.length ec2, .slice E3 d.length ec3] 26) := ⟨_, rfl⟩
 have hb1 : Below w.heap.size w W1 := by rw [hW1]; exact (Below.refl _ _).alloc (Nat.le_refl _) _
 have z1 : W1.heap.size = w.heap.size + 1 := by rw [hW1, World.size_alloc]
 have hb12 : Below W1.heap.size W1 W2 := by rw [hW2]; exact (Below.refl _ _).alloc (Nat.le_refl _) _
 have z2 : W2.heap.size = w.heap.size + 2 := by rw [hW2, World.size_alloc, z1]
 have hb2 : Below w.heap.size w W2 := bthen hb1 hb12
 have ff := five_cells hW2
 rw [z1] at ff
 obtain ⟨f0, f1, f2, f3, f4⟩ := id ff
 obtain ⟨g0, g1, g2, g3, g4, g5⟩ := six_cells41 hW1
 have g0' := (hb12.cell (cell_lt g0)).trans g0
 have gg := fun W (hW : Below W2.heap.size W2 W) => (hW.cell (cell_lt g0')).trans g0'
 have hbulk : o.bulk ≤ 1048576 := by rw [ho]; omega
 have cm := cos_May o _ W2 (by rw [ho]; exact h.kept hb2) hbulk
 have cg := fun W (hW : Below W2.heap.size W2 W) => cos_Get o _ W (by rw [ho]; exact h.kept (bthen hb2 hW)) hbulk lenB
 have ct := fun W (hW : Below W2.heap.size W2 W) => fixed_Text_whole num hn W (hT.below (bthen hb2 hW))
 have hob := fun W (hW : Below W2.heap.size W2 W) => h.kept (bthen hb2 hW)
 have hbw := fun W (hW : Below W2.heap.size W2 W) => hbb.below (bthen hb2 hW)
 have hTw := fun W (hW : Below W2.heap.size W2 W) => hT.below (bthen hb2 hW)
 have zt := numT_le num hn
 have hX5 : ∀ e ∈ insE lenL (numO b.length) d, Fits e.2 := fun e he => by
  rcases insE_mem he with rfl | he
  ·exact numO_fits _ (by omega)
  ·exact hfd e he
 obtain ⟨D, hD⟩ : ∃ D, D = dictB (insE lenL (numO b.length) d) := ⟨_, rfl⟩
 obtain ⟨E, hE⟩ : ∃ E, E = endsL ++ endoL := ⟨_, rfl⟩
 have zE : E.length = 18 := by rw [hE]; rfl
 rw [← hD] at zd
 obtain ⟨T, hT2⟩ : ∃ T, T = numT num true := ⟨_, rfl⟩
 obtain ⟨TB, hTB⟩ : ∃ B : ByteArray, B = ⟨T.toArray⟩ := ⟨_, rfl⟩
 obtain ⟨H, hH⟩ : ∃ H, H = T ++ objL := ⟨_, rfl⟩
 obtain ⟨R, hR⟩ : ∃ R, R = H ++ (D ++ (strmL ++ (b ++ E))) := ⟨_, rfl⟩
 have hend : itmS num (.mk 8 n b l d) = R := by
  unfold itmS
  rw [if_pos hgood]
  have e : itmB (.mk 8 n b l d) = dictB (insE lenL (numO b.length) d) ++ (strmL ++ (b ++ endsL)) := by
   show (if (8 : Int) = 8 then dictB (insE lenL (numO b.length) d) ++ (strmL ++ (b ++ endsL)) else (Ob.mk 8 n b l d).show) = _
   rw [if_pos rfl]
  rw [e, hR, hH, hT2, hD, hE]
  simp only [List.append_assoc]
 have hz : itmZ num (.mk 8 n b l d) = 0 := by unfold itmZ; rw [if_pos hgood]
 have hfin : ∀ A c w', Byt w' A R → Below w.heap.size w w' → VI w num (.mk 8 n b l d) (.returned (.tuple #[.slice A R.length c, .int .i64 0])) w' := fun A c w' h1 h2 => ⟨A, c, by rw [hend, hz], by rw [hend]; exact h1, h2⟩
 have ct2 : ∀ W, Below W2.heap.size W2 W → Calls Tryz.prog 41 #[.int .i64 num, .bool true] W fun e w' => e = .returned (.string TB) ∧ Below W.heap.size W w' := by rw [hTB, hT2]; exact ct
 have t3o : o.may 28 = true := by rw [ho]; exact t3
 rw [t3o] at cm
 have zH : H.length ≤ 110 := by rw [← hT2] at zt; rw [hH]; simp only [List.length_append, objL, List.length_cons, List.length_nil]; omega
 rw [← hT2] at zt
 have d1 : decide (num < 1) = false := decide_eq_false (by omega)
 have d2 : decide (8388607 < num) = false := decide_eq_false (by omega)
 have cg2 : ∀ W (hW : Below W2.heap.size W2 W), Calls Tryz.prog 40 #[.agg #[.int .i64 8, .int .i64 n, .slice E1 b.length ec1, .slice E2 l.length ec2, .slice E3 d.length ec3], .string ⟨#[76, 101, 110, 103, 116, 104]⟩] W fun e w' => ∃ u1 u2 u3 u4, e = .returned (.agg #[.int .i64 0, u1, u2, u3, u4]) ∧ Below W.heap.size W w' := fun W hW => (cg W hW).mono fun e w' ⟨us, h1, h2, h3⟩ => by
  obtain ⟨gn, G1, G2, G3, gn1, gc1, gn2, gc2, gn3, gc3, hus⟩ := ob_five2 h2.ob
  subst hus
  have e1 : (Ob.get lenB.data.toList o).kind = 0 := by rw [ho]; exact t4
  rw [e1] at h1
  exact ⟨_, _, _, _, h1, h3⟩
 obtain ⟨nb, hnb⟩ : ∃ m, m = b.length := ⟨_, rfl⟩
 obtain ⟨nl, hnl⟩ : ∃ m, m = l.length := ⟨_, rfl⟩
 obtain ⟨nd, hnd⟩ : ∃ m, m = d.length := ⟨_, rfl⟩
 have zz : nb ≤ 1048576 := by omega
 have zR : nb + D.length + 200 ≤ 100000000 := by omega
 have zdl := bulkD_len d
 rw [← hnb, ← hnl, ← hnd] at hW1 hW2 ff cg2 hob
 rw [← hnb] at f2
 rw [← hnl] at f3
 rw [← hnd] at f4
 have hff := field0 0
 rw [← hnb, ← hnl, ← hnd]
 have cm2 : Calls Tryz.prog 30 #[.agg #[.int .i64 8, .int .i64 n, .slice E1 nb ec1, .slice E2 nl ec2, .slice E3 nd ec3]] W2 fun e w' => e = .returned (.bool true) ∧ Below W2.heap.size W2 w' := by rw [hnb, hnl, hnd]; exact cm
 have hbk := Nat.le_trans hbk (by omega : 1048569 ≤ 1048576)
 clear cm cg ct h hgood t1 t2 t3 t4 hend hz hT t3o hbulk hT2 zdb hbb
 replace hn := hi_ hn
 replace ho := hi_ ho
 replace hb1 := hi_ hb1
 replace hb12 := hi_ hb12
 replace hb2 := hi_ hb2
 replace ff := hi_ ff
 replace gg := hi_ gg
 replace hob := hi_ hob
 replace hbw := hi_ hbw
 replace hTw := hi_ hTw
 replace ct2 := hi_ ct2
 replace cg2 := hi_ cg2
 replace hfin := hi_ hfin
 replace z1 := hi_ z1
 replace z2 := hi_ z2
 replace hTB := hi_ hTB
 replace hH := hi_ hH
 replace hR := hi_ hR
 replace hD := hi_ hD
 replace hE := hi_ hE
 replace zE := hi_ zE
 replace hX5 := hi_ hX5
 replace hno := hi_ hno
 replace hnb := hi_ hnb
 replace hbk := hi_ hbk
 replace hnl := hi_ hnl
 replace hnd := hi_ hnd
 replace zdl := hi_ zdl
 replace zd := hi_ zd
 replace zk := hi_ zk
 go_enter Tryz.func17, Tryz.ntmps17
 go_upto_region 2 with (fail)
 rw [← hW1, ← hW2]
 replace hW1 := hi_ hW1
 replace hW2 := hi_ hW2
 go_upto_region 8 with (first
  | (go_at_call 30; (with_reducible refine cm2.mono ?_); rintro e w3 ⟨rfl, hB3⟩; have g3' := gg.out w3 hB3; have cg3 := cg2.out w3 hB3; obtain ⟨f0, f1, f2, f3, f4⟩ := five_kept ff.out hB3; replace hB3 := hi_ hB3)
  | (go_at_call 40; (with_reducible refine cg3.mono ?_); rintro e w3b ⟨u1, u2, u3, u4, rfl, hB3b⟩; have hD3 := bthen hB3.out hB3b; have g3' := gg.out w3b hD3; have ct3 := ct2.out w3b hD3; have cr4 := fun W => row_head W T TB hTB.out H hH.out zt; replace cr4 := hi_ cr4; replace hD3 := hi_ hD3; replace hB3b := hi_ hB3b)
  | (go_at_call 41; (with_reducible refine ct3.mono ?_); rintro e w4 ⟨rfl, hB4⟩; have cr5 := cr4.out w4; have hD4 := bthen hD3.out hB4; replace hB4 := hi_ hB4; replace hD4 := hi_ hD4)
  | (go_at_call 34; (with_reducible refine cr5.mono ?_); rintro e w5 ⟨A5, c5, rfl, hb5, hA5, hB5⟩; have hD5 := bthen hD4.out hB5; obtain ⟨f0, f1, f2, f3, f4⟩ := five_kept ff.out hD5; replace hB5 := hi_ hB5; replace hD5 := hi_ hD5; replace hb5 := hi_ hb5; replace hA5 := hi_ hA5; clear cr5))
 refine wp_lin_pair (by kernel_rfl) [none, none, none, none, none, none, none, some 8, none, none, none, none, none, none, none, none, none, none, none, none, none, none, none, none, none, none, none, none, none, none, none, none, none, none, none, none, none, none, none, none, none, none, none, none, none, none, none, none, none, some 0, some 1, some 2, some 3, some 4, some 5, some 6, some 7, none, none, none, none, none, none, none, none, none, none, none, none] (fun w' => Below w5.heap.size w5 w') (fun w' w'' => Below w'.heap.size w' w'') (G8 (w.heap.size + 1) (.agg #[.int .i64 8, .int .i64 n, .slice E1 nb ec1, .slice E2 nl ec2, .slice E3 nd ec3]) (.slice E1 nb ec1) nb w5.heap.size (.mk 8 n b l (insE lenL (numO nb) d))) (D8 w5.heap.size (.mk 8 n b l (insE lenL (numO nb) d))) (by rfl) (by kernel_rfl) 9 7 8 (by decide) (by decide) (by decide) _ rfl (by decide) (by kernel_rfl) [9, 9, 9, 9, 9, 9, 9, 9, 9, 0] (by kernel_rfl) ?hR ?mono D8_mono (stepX_of [0, 6, 5] rfl (by kernel_rfl) ?s7) (stepX_of [] rfl (by kernel_rfl) ?s8) (.cons 8 (.inr (.inl rfl)) (.cons 7 (.inl rfl) (.cons 6 (.inr (.inr (step_of [5] rfl (by kernel_rfl) ?s6))) (.cons 5 (.inr (.inr (step_of [4] rfl (by kernel_rfl) ?s5))) (.cons 4 (.inr (.inr (step_of [3] rfl (by kernel_rfl) ?s4))) (.cons 3 (.inr (.inr (step_of [2] rfl (by kernel_rfl) ?s3))) (.cons 2 (.inr (.inr (step_of [1] rfl (by kernel_rfl) ?s2))) (.cons 1 (.inr (.inr (step_of [] rfl (by kernel_rfl) ?s1))) (.cons 0 (.inr (.inr (step_of [] rfl (by kernel_rfl) ?s0))) (.nil)))))))))) ?done
 case hR => exact (Below.refl _ _).drew
 case mono => exact G8_mono
 case s0 =>
  intro x w' hRw hd K' hK
  simp only [All, G8] at hd
  have tf0 := (hRw.cell (cell_lt f0)).trans f0
  have tf1 := (hRw.cell (cell_lt f1)).trans f1
  have tf2 := (hRw.cell (cell_lt f2)).trans f2
  have tf3 := (hRw.cell (cell_lt f3)).trans f3
  have tf4 := (hRw.cell (cell_lt f4)).trans f4
  simp +decide only [upd, G8, fillL, if_true, if_false] at hK ⊢
  go_simp
  have hK2 := hK _ _ ⟨hRw, Below.refl _ _, rfl⟩
  exact hK2
 case s1 =>
  intro x w' hRw hd K' hK
  simp only [All, G8] at hd
  simp +decide only [upd, G8, fillL, if_true, if_false] at hK ⊢
  go_simp
  have hK2 := hK _ _ ⟨hRw, Below.refl _ _, rfl⟩
  exact hK2
 case s2 =>
  intro x w' hRw hd K' hK
  simp only [All, G8] at hd
  obtain ⟨e1, _⟩ := hd
  have tf2 := (hRw.cell (cell_lt f2)).trans f2
  simp +decide only [upd, G8, fillL, if_true, if_false] at hK ⊢
  simp only [e1] at hK ⊢
  go_simp
  have hK2 := hK _ _ ⟨hRw, Below.refl _ _, rfl⟩
  exact hK2
 case s3 =>
  intro x w' hRw hd K' hK
  simp only [All, G8] at hd
  obtain ⟨e2, _⟩ := hd
  simp +decide only [upd, G8, fillL, if_true, if_false] at hK ⊢
  simp only [e2] at hK ⊢
  go_simp
  have hK2 := hK _ _ ⟨hRw, Below.refl _ _, rfl⟩
  exact hK2
 case s4 =>
  intro x w' hRw hd K' hK
  simp only [All, G8] at hd
  obtain ⟨e3, _⟩ := hd
  simp +decide only [upd, G8, fillL, if_true, if_false] at hK ⊢
  simp only [e3] at hK ⊢
  go_simp
  refine (cos_Int nb w' (by omega) (by omega)).mono ?_
  rintro e' w2 ⟨rfl, hB9⟩
  have hK2 := hK _ _ ⟨bthen hRw hB9, hB9, rfl⟩
  exact hK2
 case s5 =>
  intro x w' hRw hd K' hK
  simp only [All, G8] at hd
  obtain ⟨e4, _⟩ := hd
  simp +decide only [upd, G8, fillL, if_true, if_false] at hK ⊢
  simp only [e4] at hK ⊢
  go_simp
  refine (cos_Pair (numO nb) _ w' (num_I (B := 0) (w := w') nb (by omega) (by omega)).ob (by rw [numO_bulk]; omega) ⟨#[76, 101, 110, 103, 116, 104]⟩).mono ?_
  rintro e' w2 ⟨us, rfl, hI9, hB9⟩
  have hK2 := hK _ _ ⟨bthen hRw hB9, hB9, us, rfl, hI9.ob⟩
  exact hK2
 case s6 =>
  intro x w' hRw hd K' hK
  simp only [All, G8] at hd
  obtain ⟨⟨us5, e5, h5⟩, _⟩ := hd
  simp +decide only [upd, G8, fillL, if_true, if_false] at hK ⊢
  simp only [e5] at hK ⊢
  obtain ⟨xn, F1, F2, F3, fn1, fc1, fn2, fc2, fn3, fc3, hxs⟩ := ob_five2 h5
  have hkd : (numO nb).kind = 2 := rfl
  rw [hkd] at hxs
  subst hxs
  have al : Below w'.heap.size w' (w'.alloc (.cells #[.string ⟨#[76, 101, 110, 103, 116, 104]⟩, .int .i64 2, .int .i64 xn, .slice F1 fn1 fc1, .slice F2 fn2 fc2, .slice F3 fn3 fc3] 53)) := (Below.refl _ _).alloc (Nat.le_refl _) _
  have hcl : ∀ j u, ([.string ⟨#[76, 101, 110, 103, 116, 104]⟩, .int .i64 2, .int .i64 xn, .slice F1 fn1 fc1, .slice F2 fn2 fc2, .slice F3 fn3 fc3] : List Value)[j]? = some u → (w'.alloc (.cells #[.string ⟨#[76, 101, 110, 103, 116, 104]⟩, .int .i64 2, .int .i64 xn, .slice F1 fn1 fc1, .slice F2 fn2 fc2, .slice F3 fn3 fc3] 53)).cell? ⟨w'.heap.size, j, none⟩ = some u := fun j u hj => by
   have h0 := alloc_cell (w := w') (vs := #[.string ⟨#[76, 101, 110, 103, 116, 104]⟩, .int .i64 2, .int .i64 xn, .slice F1 fn1 fc1, .slice F2 fn2 fc2, .slice F3 fn3 fc3]) (e := 53) (i := j)
   rw [Nat.zero_add] at h0
   rw [h0, ← hj]; simp
  go_simp
  have hK2 := hK _ _ ⟨bthen hRw al, al, w'.heap.size, _, rfl, h5.kept al, hcl⟩
  exact hK2
 case s7 =>
  intro bp x w' hRw hd hb8 K' hK
  simp only [All, G8] at hd hb8
  obtain ⟨e0, ⟨g6, us6, e6, hx6, hc6⟩, _⟩ := hd
  simp +decide only [upd, G8, fillL, if_true, if_false] at hK ⊢
  simp only [e0, e6] at hK ⊢
  go_simp
  refine (cos_Set 8 n b l d _ w' (hob.out w' (bthen hD5.out hRw)) hbk.out rfl (numO nb) us6 g6 ⟨#[76, 101, 110, 103, 116, 104]⟩ hx6 (by rw [numO_bulk]; omega) rfl hc6 hno.out (by decide)).mono ?_
  rintro e' w2 ⟨us, rfl, hI9, hB9⟩
  have hI9' : ObI w'.heap.size w2.heap.size w2 (.mk 8 n b l (insE lenL (numO nb) d)) us := hI9
  have zw := hRw.size
  have hK2 := hK _ _ ⟨bthen hRw hB9, hB9, ⟨us, _, _, rfl, zw, hI9'⟩, fun hbp => by
   obtain ⟨q, hq, hBq, hblk⟩ := hb8 hbp
   exact ⟨us, _, _, q, rfl, hq, zw, hBq, hI9', .inl hblk.lt, hblk.below hB9 hblk.lt⟩⟩
  exact hK2
 case s8 =>
  intro bp x w' hRw hd hb7 K' hK
  simp only [G8] at hb7
  simp +decide only [upd, G8, fillL, if_true, if_false] at hK ⊢
  have zw := hRw.size
  have al : Below w'.heap.size w' (w'.alloc (.cells #[.int .i64 0, .int .i64 0, .slice none 0 0, .slice none 0 0, .slice none 0 0] 26)) := (Below.refl _ _).alloc (Nat.le_refl _) _
  have bl := Blk.new w' 26 #[.int .i64 0, .int .i64 0, .slice none 0 0, .slice none 0 0, .slice none 0 0]
  go_simp
  have hK2 := hK _ _ ⟨bthen hRw al, al, ⟨_, rfl, zw, bl⟩, fun hbp => by
   obtain ⟨us, lo, hi, h1, h2, h3⟩ := hb7 hbp
   exact ⟨us, lo, hi, _, h1, rfl, h2, zw, obI_below h3 al, .inr h3.1, bl⟩⟩
  exact hK2
 case done =>
  intro x w6 hR2 hG hDD fr hfr
  obtain ⟨us, lo, hi, q, a7, a8, hlo, hBq, hI6, hdis, hblk⟩ := hDD
  obtain ⟨en', A1, A2, A3, n1, c1, n2, c2, n3, c3, hus⟩ := ob_five2 hI6.ob
  have hkd : (Ob.mk 8 n b l (insE lenL (numO nb) d)).kind = 8 := rfl
  rw [hkd] at hus
  subst hus
  simp only [fillL] at hfr
  rw [a7, a8] at hfr
  subst hfr
  clear hG a7 a8 f0 f1 f2 f3 f4
  have v0 := hblk.frozen 0
  have v1 := hblk.frozen 1
  have v2 := hblk.frozen 2
  have v3 := hblk.frozen 3
  have v4 := hblk.frozen 4
  have y0 := hblk.cell 0
  have y1 := hblk.cell 1
  have y2 := hblk.cell 2
  have y3 := hblk.cell 3
  have y4 := hblk.cell 4
  have z56 := hR2.size
  have zq := hblk.lt
  replace hblk := hi_ hblk
  replace hI6 := hi_ hI6
  replace hR2 := hi_ hR2
  replace hdis := hi_ hdis
  go_upto_region 9 with (fail)
  obtain ⟨Wf, hWf⟩ : ∃ W, W = ((((w6.setCell ⟨q, 0, none⟩ (.int .i64 8)).setCell ⟨q, 1, none⟩ (.int .i64 en')).setCell ⟨q, 2, none⟩ (.slice A1 n1 c1)).setCell ⟨q, 3, none⟩ (.slice A2 n2 c2)).setCell ⟨q, 4, none⟩ (.slice A3 n3 c3) := ⟨_, rfl⟩
  rw [← hWf]
  obtain ⟨hbf, hgf, hzf⟩ := set_five hblk.out hWf
  have q4 := hbf.cell 4
  have hIt := hI6.out.1
  have hBf : Below w5.heap.size w5 Wf := hR2.out.grown hgf (by omega) (fun r hr => by injection hr with hr; omega)
  have hIf : ObAt Wf (.mk 8 n b l (insE lenL (numO nb) d)) [.int .i64 8, .int .i64 en', .slice A1 n1 c1, .slice A2 n2 c2, .slice A3 n3 c3] :=
   (hI6.out.keep (fun r h1 h2 => hgf.block r (by omega) (fun e => by injection e with e; rcases hdis.out with h | h <;> omega)) (by omega)).ob
  have hDf := bthen hD5.out hBf
  have hdc := fun W (hW : Below Wf.heap.size Wf W) => (dict_call (hIf.kept hW) (by rw [hnb.out]; exact zd2) (hTw.out W (bthen hDf hW))).2
  have eD : dictB (insE lenL (numO nb) d) = D := by rw [hnb.out]; exact hD.out.symm
  rw [eD] at hdc
  obtain ⟨k0, k1, f2, k3, k4⟩ := five_kept ff.out hDf
  have hb5f := hb5.out.below hBf
  have hbwf := fun W (hW : Below Wf.heap.size Wf W) => hbw.out W (bthen hDf hW)
  clear v0 v1 v2 v3 v4 y0 y1 y2 y3 y4 k0 k1 k3 k4 eD
  replace hdc := hi_ hdc
  replace hIf := hi_ hIf
  replace hDf := hi_ hDf
  replace hBf := hi_ hBf
  replace hWf := hi_ hWf
  replace hb5f := hi_ hb5f
  replace hbwf := hi_ hbwf
  replace hbf := hi_ hbf
  replace hgf := hi_ hgf
  refine wp_lin_tail (by kernel_rfl) [none, none, none, none, none, none, none, none, none, none, none, none, none, none, none, none, none, none, none, none, none, none, none, none, none, none, none, none, none, none, none, none, none, none, none, none, none, none, none, none, none, none, none, none, none, none, none, none, none, none, none, none, none, none, none, none, none, some 0, some 1, some 2, some 3, some 4, some 5, some 6, some 7, some 8, some 9, none, none] (fun w' => Below Wf.heap.size Wf w') (fun w' w'' => Below w'.heap.size w' w'') (G9 (w.heap.size + 1) q (.slice A5 H.length c5) (.slice A3 n3 c3) (.slice E1 nb ec1) D E ⟨#[10, 101, 110, 100, 115, 116, 114, 101, 97, 109, 10, 101, 110, 100, 111, 98, 106, 10]⟩) (by rfl) (by kernel_rfl) 10 _ rfl (by decide) (by kernel_rfl) [10, 2, 3, 10, 5, 10, 7, 10, 9, 10, 0] (by kernel_rfl) ?hR9 ?mono9 (.cons 9 (step_of [8, 5] rfl (by kernel_rfl) ?r9) (.cons 8 (step_of [] rfl (by kernel_rfl) ?r8) (.cons 7 (step_of [6] rfl (by kernel_rfl) ?r7) (.cons 6 (step_of [] rfl (by kernel_rfl) ?r6) (.cons 5 (step_of [4, 3] rfl (by kernel_rfl) ?r5) (.cons 4 (step_of [] rfl (by kernel_rfl) ?r4) (.cons 3 (step_of [2] rfl (by kernel_rfl) ?r3) (.cons 2 (step_of [1] rfl (by kernel_rfl) ?r2) (.cons 1 (step_of [] rfl (by kernel_rfl) ?r1) (.cons 0 (step_of [] rfl (by kernel_rfl) ?r0) (.nil))))))))))) ?done9
  case hR9 => exact (Below.refl _ _).drew
  case mono9 => exact G9_mono
  case r0 =>
   intro x w' hRw hd K' hK
   simp only [All, G9] at hd
   simp +decide only [upd, G9, fillL, if_true, if_false] at hK ⊢
   go_simp
   have hK2 := hK _ _ ⟨hRw, Below.refl _ _, rfl⟩
   exact hK2
  case r1 =>
   intro x w' hRw hd K' hK
   simp only [All, G9] at hd
   simp +decide only [upd, G9, fillL, if_true, if_false] at hK ⊢
   go_simp
   have hK2 := hK _ _ ⟨hRw, Below.refl _ _, rfl⟩
   exact hK2
  case r2 =>
   intro x w' hRw hd K' hK
   simp only [All, G9] at hd
   obtain ⟨e1, _⟩ := hd
   have tq4 := (hRw.cell (cell_lt q4)).trans q4
   simp +decide only [upd, G9, fillL, if_true, if_false] at hK ⊢
   simp only [e1] at hK ⊢
   go_simp
   have hK2 := hK _ _ ⟨hRw, Below.refl _ _, rfl⟩
   exact hK2
  case r3 =>
   intro x w' hRw hd K' hK
   simp only [All, G9] at hd
   obtain ⟨e2, _⟩ := hd
   simp +decide only [upd, G9, fillL, if_true, if_false] at hK ⊢
   simp only [e2] at hK ⊢
   go_simp
   refine (hdc.out w' hRw).mono ?_
   rintro e' w2 ⟨A9, c9, rfl, hb9, hA9, hB9⟩
   have hK2 := hK _ _ ⟨bthen hRw hB9, hB9, A9, c9, rfl, hb9⟩
   exact hK2
  case r4 =>
   intro x w' hRw hd K' hK
   simp only [All, G9] at hd
   simp +decide only [upd, G9, fillL, if_true, if_false] at hK ⊢
   have al : Below w'.heap.size w' (w'.alloc (.cells #[.string ⟨#[10, 115, 116, 114, 101, 97, 109, 10]⟩] 9)) := (Below.refl _ _).alloc (Nat.le_refl _) _
   go_simp
   have hK2 := hK _ _ ⟨bthen hRw al, al, w'.heap.size, rfl, one_cell w' _ 9⟩
   exact hK2
  case r5 =>
   intro x w' hRw hd K' hK
   simp only [All, G9] at hd
   obtain ⟨⟨g4, e4, h4⟩, _⟩ := hd
   simp +decide only [upd, G9, fillL, if_true, if_false] at hK ⊢
   simp only [e4] at hK ⊢
   go_simp
   refine (rowAnyS strmL ⟨#[10, 115, 116, 114, 101, 97, 109, 10]⟩ rfl (by decide) g4 w' h4).mono ?_
   rintro e' w2 ⟨A9, c9, rfl, hb9, hA9, hB9⟩
   have hK2 := hK _ _ ⟨bthen hRw hB9, hB9, A9, c9, rfl, hb9⟩
   exact hK2
  case r6 =>
   intro x w' hRw hd K' hK
   simp only [All, G9] at hd
   simp +decide only [upd, G9, fillL, if_true, if_false] at hK ⊢
   go_simp
   have hK2 := hK _ _ ⟨hRw, Below.refl _ _, rfl⟩
   exact hK2
  case r7 =>
   intro x w' hRw hd K' hK
   simp only [All, G9] at hd
   obtain ⟨e6, _⟩ := hd
   have tf2 := (hRw.cell (cell_lt f2)).trans f2
   simp +decide only [upd, G9, fillL, if_true, if_false] at hK ⊢
   simp only [e6] at hK ⊢
   go_simp
   have hK2 := hK _ _ ⟨hRw, Below.refl _ _, rfl⟩
   exact hK2
  case r8 =>
   intro x w' hRw hd K' hK
   simp only [All, G9] at hd
   simp +decide only [upd, G9, fillL, if_true, if_false] at hK ⊢
   have al : Below w'.heap.size w' (w'.alloc (.cells #[.string ⟨#[10, 101, 110, 100, 115, 116, 114, 101, 97, 109, 10, 101, 110, 100, 111, 98, 106, 10]⟩] 9)) := (Below.refl _ _).alloc (Nat.le_refl _) _
   go_simp
   have hK2 := hK _ _ ⟨bthen hRw al, al, w'.heap.size, rfl, one_cell w' _ 9⟩
   exact hK2
  case r9 =>
   intro x w' hRw hd K' hK
   simp only [All, G9] at hd
   obtain ⟨⟨g8, e8, h8⟩, _⟩ := hd
   simp +decide only [upd, G9, fillL, if_true, if_false] at hK ⊢
   simp only [e8] at hK ⊢
   go_simp
   refine (rowAnyS E ⟨#[10, 101, 110, 100, 115, 116, 114, 101, 97, 109, 10, 101, 110, 100, 111, 98, 106, 10]⟩ (by rw [hE.out]; rfl) (by rw [zE.out]; decide) g8 w' h8).mono ?_
   rintro e' w2 ⟨A9, c9, rfl, hb9, hA9, hB9⟩
   have hK2 := hK _ _ ⟨bthen hRw hB9, hB9, A9, c9, rfl, hb9⟩
   exact hK2
  case done9 =>
   intro x w7 hR9 hG fr hfr
   have a0 := hG 0 (by omega)
   have a3 := hG 3 (by omega)
   have a5 := hG 5 (by omega)
   have a7 := hG 7 (by omega)
   have a9 := hG 9 (by omega)
   simp only [G9] at a0 a3 a5 a7 a9
   obtain ⟨A3', c3', a3, hb3'⟩ := a3
   obtain ⟨A5', c5', a5, hb5'⟩ := a5
   obtain ⟨A9', c9', a9, hb9'⟩ := a9
   clear hG
   simp only [fillL] at hfr
   rw [a0, a3, a5, a7, a9] at hfr
   subst hfr
   have cc := cur_Of5 w7 A5 A3' A5' E1 A9' c5 c3' c5' ec1 c9' H D strmL b E (hb5f.out.below hR9) hb3' hb5' (hbwf.out w7 hR9) hb9' (by have h1 := zE.out; have h2 := hnb.out; have h3 := zd.out; have h4 := zk.out; have h5 : strmL.length = 8 := rfl; omega)
   rw [← hR.out, ← hnb.out] at cc
   replace hR9 := hi_ hR9
   clear a0 a3 a5 a7 a9 q4 f2
   go_wp2_with (go_at_call 42; (with_reducible refine cc.mono ?_); rintro e w8 ⟨A8, c8, rfl, hb8, hA8, hB8⟩; replace hB8 := hi_ hB8; replace hb8 := hi_ hb8; replace hA8 := hi_ hA8)
   go_ret2
   exact hfin.out _ _ _ hb8.out (bthen hb2.out (bthen hDf.out (bthen hR9.out (bthen ((Below.refl _ _).alloc (Nat.le_refl _) _) hB8.out))))

/- Bytes appended to bytes that were made of a text: the row is marked, and may have room. No condition. -/
theorem store_m {P : Program} (g o : Nat) (t : TypeId) (lo hi : Nat) : ∀ (vs : List Value) (i : Nat) (cur : Array Value) (w : World), w.heap[g]? = some (.cells cur t (lo, hi)) → cur.size ≤ lo → o + i + vs.length ≤ cur.size → (∀ v ∈ vs, v.oneCell' = true) →
 (storeCells ⟨g, o, none⟩ vs i).run P w = .ok () (w.setRow g (cur.toList.take (o + i) ++ vs ++ cur.toList.drop (o + i + vs.length)).toArray)
 | [], i, cur, w, hg, _, _, _ => by
  simp only [storeCells, List.append_nil, List.length_nil, Nat.add_zero, List.take_append_drop, Array.toArray_toList]
  rw [setRow_self w g cur t (lo, hi) hg]
  rfl
 | v :: rest, i, cur, w, hg, hlo, hl, h1 => by
  have hi' : o + i < cur.size := by simp at hl; omega
  have hadd : (⟨g, o, none⟩ : Addr).add i = ⟨g, o + i, none⟩ := by unfold Addr.add; split <;> simp_all
  have hcell : w.cell? ⟨g, o + i, none⟩ = some cur[o + i] := by simp [World.cell?, hg, hi']
  have hfro : w.frozen? ⟨g, o + i, none⟩ = false := by simp [World.frozen?, hg]; omega
  have hst : (store ((⟨g, o, none⟩ : Addr).add i) v).run P w = .ok () (w.setRow g (cur.setIfInBounds (o + i) v)) := by
   rw [hadd, run_store P w _ v _ (h1 v (by simp)), hcell]
   simp [hfro, setCell_eq_setRow w g (o + i) cur t (lo, hi) v hg]
  have ih := store_m (P := P) g o t lo hi rest (i + 1) (cur.setIfInBounds (o + i) v) (w.setRow g (cur.setIfInBounds (o + i) v)) (setRow_heap w g cur _ t _ hg) (by simpa using hlo) (by simp at hl ⊢; omega) (fun x hx => h1 x (by simp [hx]))
  simp only [storeCells, Sem.run_bind, hst, Result.andThen_ok, ih, setRow_setRow]
  congr 3
  have e := list_seg_step cur.toList (o + i) v rest (by simp at hl ⊢; omega)
  simpa [Array.toList_setIfInBounds, Nat.add_assoc] using e
def OwnM (B : Nat) (w : World) (v : Value) (bs : List UInt8) : Prop := Own B w v bs ∨ ∃ g cap cur lo hi, v = .slice (some ⟨g, 0, none⟩) bs.length cap ∧ B ≤ g ∧ w.heap[g]? = some (.cells cur 5 (lo, hi)) ∧ cap ≤ lo ∧ bs.length ≤ cap ∧ cap ≤ maxLen ∧ cur.size = cap ∧ cur.toList.take bs.length = valsB bs
theorem OwnM.below {B : Nat} {w w' : World} {v : Value} {bs : List UInt8} (h : OwnM B w v bs) (hb : Below w.heap.size w w') : OwnM B w' v bs := by
 rcases h with h | ⟨g, cap, cur, lo, hi, h1, h2, h3, rest⟩
 ·exact .inl (h.below hb)
 ·exact .inr ⟨g, cap, cur, lo, hi, h1, h2, (hb.block g (Array.getElem?_eq_some_iff.1 h3).1).trans h3, rest⟩
theorem row_byt {w : World} {g : Nat} {cur : Array Value} {m : Nat × Nat} {bs : List UInt8} (h : w.heap[g]? = some (.cells cur 5 m)) (ht : cur.toList.take bs.length = valsB bs) (hm : bs.length ≤ maxLen) : Byt w (some ⟨g, 0, none⟩) bs := by
 refine ⟨hm, fun _ => ⟨g, 0, rfl, fun i hi => ?_⟩⟩
 have h1 : w.cell? ⟨g, 0 + i, none⟩ = cur[i]? := by rw [Nat.zero_add, cell_of_row w g i cur 5 m h]
 have h2 : (valsB bs)[i]? = some (.int .u8 (bs[i].toNat : Int)) := by simp [valsB, hi]
 rw [← ht, List.getElem?_take, if_pos hi] at h2
 rw [h1]; simpa using h2
theorem OwnM.out {B : Nat} {w : World} {v : Value} {bs : List UInt8} (h : OwnM B w v bs) (hm : bs.length ≤ maxLen) : ∃ A c, v = .slice A bs.length c ∧ Byt w A bs ∧ (A = none → c = 0) := by
 rcases h with h | ⟨g, cap, cur, lo, hi, rfl, h2, h3, h4, h5, h6, h7, h8⟩
 ·exact h.out hm
 ·exact ⟨_, _, rfl, row_byt h3 h8 hm, fun e => by cases e⟩
theorem room_m (w : World) (t ty : TypeId) (i : TypeInfo) (e : TypeId) (ht : Tryz.prog.underlying t = some (.slice e)) (hi : Tryz.prog.info? e = some i) (h1s : i.size = 1)
 (g sLen sCap lo hh : Nat) (cur : Array Value) (hg : w.heap[g]? = some (.cells cur e (lo, hh))) (hlo : cur.size ≤ lo)
 (a : Addr) (m c : Nat) (news : List Value) (hl : news.length = m) (hnews : ∀ j u, news[j]? = some u → w.cell? (a.add j) = some u) (h1 : ∀ u ∈ news, u.oneCell' = true)
 (hroom : sLen + m ≤ sCap) (hfit : sLen + news.length ≤ cur.size) :
 (Builtin.append_ #[t, t] ty #[.slice (some ⟨g, 0, none⟩) sLen sCap, .slice (some a) m c]).run Tryz.prog w =
  .ok (.slice (some ⟨g, 0, none⟩) (sLen + m) sCap) (w.setRow g (cur.toList.take sLen ++ news ++ cur.toList.drop (sLen + news.length)).toArray) := by
 have hf := run_firstCells_some (P := Tryz.prog) w i.size m a m c news (by rw [h1s]; omega) hnews
 have hst := store_m (P := Tryz.prog) g sLen e lo hh news 0 cur w hg hlo (by simpa using hfit) h1
 simp only [Nat.add_zero] at hst
 rw [h1s] at hf
 simp [Builtin.append_, run_underlying ht, sizeOf, typeInfo, hi, h1s, Builtin.lenOf, hroom, hf, Addr.add_lit, hst]
theorem room_s (w : World) (t u ty : TypeId) (i : TypeInfo) (e : TypeId) (ht : Tryz.prog.underlying t = some (.slice e)) (hu : Tryz.prog.underlying u = some .string) (hi : Tryz.prog.info? e = some i) (h1s : i.size = 1)
 (g sLen sCap lo hh : Nat) (cur : Array Value) (hg : w.heap[g]? = some (.cells cur e (lo, hh))) (hlo : cur.size ≤ lo) (S : ByteArray)
 (hroom : sLen + S.size ≤ sCap) (hfit : sLen + S.size ≤ cur.size) :
 (Builtin.append_ #[t, u] ty #[.slice (some ⟨g, 0, none⟩) sLen sCap, .string S]).run Tryz.prog w =
  .ok (.slice (some ⟨g, 0, none⟩) (sLen + S.size) sCap) (w.setRow g (cur.toList.take sLen ++ Lib.strCells S ++ cur.toList.drop (sLen + S.size)).toArray) := by
 have hf := Lib.run_firstCells_string (P := Tryz.prog) w 1 S
 have hst := store_m (P := Tryz.prog) g sLen e lo hh (Lib.strCells S) 0 cur w hg hlo (by simpa [Lib.strCells_length] using hfit) (Lib.strCells_oneCell S)
 simp only [Nat.add_zero, Lib.strCells_length] at hst
 simp [Builtin.append_, run_underlying ht, run_underlying hu, sizeOf, typeInfo, hi, h1s, Builtin.lenOf, hroom, hf, Addr.add_lit, hst]
theorem m_more {w w' : World} {B g cap lo hh : Nat} {cur : Array Value} {out bs : List UInt8} (hB : B ≤ g) (hh3 : w.heap[g]? = some (.cells cur 5 (lo, hh))) (h4 : cap ≤ lo) (h6 : cap ≤ maxLen) (h7 : cur.size = cap) (h8 : cur.toList.take out.length = valsB out) (hroom : out.length + bs.length ≤ cap)
 (hw : w' = w.setRow g (cur.toList.take out.length ++ valsB bs ++ cur.toList.drop (out.length + bs.length)).toArray) :
 OwnM B w' (.slice (some ⟨g, 0, none⟩) (out.length + bs.length) cap) (out ++ bs) ∧ w.grownBy w' (some g) := by
 subst hw
 refine ⟨.inr ⟨g, cap, _, lo, hh, by rw [List.length_append], hB, setRow_heap w g cur _ 5 _ hh3, h4, by rw [List.length_append]; exact hroom, h6, ?_, ?_⟩, ⟨rfl, rfl, rfl, by simp, fun k hk hne => setRow_other w g k _ (fun e => hne (by rw [e]))⟩⟩
 ·have hl : cur.toList.length = cap := by simpa using h7
  simp only [List.size_toArray, List.length_append, List.length_take, List.length_drop, valsB_len, hl]
  omega
 ·rw [h8, valsB_app, List.length_append]
  have hv : (valsB out ++ valsB bs).length = out.length + bs.length := by simp [valsB_len]
  show List.take _ (valsB out ++ valsB bs ++ _) = _
  rw [← hv, List.take_left]
theorem app_m {w : World} {ops : Array Oper} {rest : List Oper} {o : Oper} {a : Act} {Q : Exit → Act → World → Prop} (hgd : o.guard = none) (s x : Operand)
 (ho : o.op = .call { callee := .builtin .append, args := #[s, x], argTypes := #[22, 22] }) (B : Nat) (v : Value) (out : List UInt8) (hs : a.eval s = v) (hown : OwnM B w v out)
 (A : Option Addr) (n c : Nat) (bs : List UInt8) (hx : a.eval x = .slice A n c) (hn : n = bs.length) (hb : Byt w A bs) (hA : A = none → c = 0) (hl : out.length + bs.length ≤ 70368744177664) (hB : B ≤ w.heap.size)
 (h : ∀ v' w', OwnM B w' v' (out ++ bs) → Below B w w' → wpList Tryz.prog ops Q rest (a.put o.dst v') w') : wpList Tryz.prog ops Q (o :: rest) a w := by
 rcases hown with hown | ⟨g, cap, cur, lo, hh, rfl, hBg, h3, h4, h5, h6, h7, h8⟩
 ·exact app_b hgd s x ho B v out hs hown A n c bs hx hn hb hA hl hB fun v' w' h1 h2 => h v' w' (.inl h1) h2
 obtain ⟨i0, hi, hz0, hz1, hz2⟩ := byte_info
 have hself : (cur.toList.take out.length ++ valsB [] ++ cur.toList.drop (out.length + ([] : List UInt8).length)).toArray = cur := by simp [valsB]
 cases A with
 | none =>
  have hbs : bs = [] := by
   cases bs with
   | nil => rfl
   | cons y l => obtain ⟨b, o, e, _⟩ := hb.2 (by simp); cases e
  subst hbs
  have hc := hA rfl
  subst hc
  obtain rfl : n = 0 := hn
  refine wpList_plain hgd fun K hK => ?_
  have hr : (Builtin.append_ #[22, 22] o.type #[.slice (some ⟨g, 0, none⟩) out.length cap, .slice none 0 0]).run Tryz.prog w = .ok (.slice (some ⟨g, 0, none⟩) out.length cap) w := by
   simp [Builtin.append_, run_underlying Tryz.underlying22, sizeOf, typeInfo, hi, hz1, Builtin.lenOf, h5, Builtin.firstCells, storeCells]
  unfold Oper.wp execOp
  simp only [ho, resolve, invoke, builtin, Sem.run_bind, Sem.run_pure, Result.andThen_ok, List.map_toArray, List.map_cons, List.map_nil, hs, hx, hr]
  exact hK _ _ (h _ _ (by rw [List.append_nil]; exact .inr ⟨g, cap, cur, lo, hh, rfl, hBg, h3, h4, h5, h6, h7, h8⟩) (Below.refl _ _ |>.mono hB))
 | some ad =>
  subst hn
  by_cases hroom : out.length + bs.length ≤ cap
  ·refine wpList_plain hgd fun K hK => ?_
   have hr := room_m w 22 o.type i0 5 Tryz.underlying22 hi hz1 g out.length cap lo hh cur h3 (by omega) ad bs.length c (valsB bs) (valsB_len bs) hb.news (valsB_one bs) hroom (by rw [valsB_len]; omega)
   rw [valsB_len] at hr
   unfold Oper.wp execOp
   simp only [ho, resolve, invoke, builtin, Sem.run_bind, Sem.run_pure, Result.andThen_ok, List.map_toArray, List.map_cons, List.map_nil, hs, hx, hr]
   obtain ⟨h9, h10⟩ := m_more (bs := bs) hBg h3 h4 h6 h7 h8 hroom rfl
   exact hK _ _ (h _ _ h9 ((Below.refl _ _ |>.mono hB).grown h10 hB fun k hk => by injection hk with hk; omega))
  ·refine wpList_plain hgd fun K hK => ?_
   have hr := run_append_grow (P := Tryz.prog) w 22 o.type 5 i0 (.int .u8 0) Tryz.underlying22 hi hz0 ⟨g, 0, none⟩ out.length cap (valsB out) (by rw [hz1, valsB_len, Nat.mul_one]) (row_byt h3 h8 (by omega)).news ad bs.length c (valsB bs) (by rw [valsB_len, hz1, Nat.mul_one]) hb.news (by omega) (by omega) (growslice_fits (by omega) (by rw [hz2]; omega))
   unfold Oper.wp execOp
   simp only [ho, resolve, invoke, builtin, Sem.run_bind, Sem.run_pure, Result.andThen_ok, List.map_toArray, List.map_cons, List.map_nil, hs, hx, hr]
   have hge := grownCap_ge w (out.length + bs.length) cap 5
   refine hK _ _ (h _ _ (.inl ⟨?_, .inr ⟨w.heap.size, grownCap w (out.length + bs.length) cap 5, ((valsB out).toArray ++ (valsB bs).toArray ++ Builtin.zeroCells (Value.int IntKind.u8 0).cells (grownCap w (out.length + bs.length) cap 5 - (out.length + bs.length))), ?_, hB, heap_alloc_new w.drew _, ?_, grownCap_le_maxLen w _ _ _ (by unfold maxLen; omega), ?_, ?_⟩⟩) ((Below.refl _ _ |>.mono hB).drew.alloc hB _))
   ·rw [valsB_len, Nat.mul_one]
   ·rw [List.length_append]
   ·rw [List.length_append]; exact hge
   ·have hz : (Value.int IntKind.u8 0).cells.size = 1 := rfl
    simp only [Array.size_append, List.size_toArray, size_zeroCells, hz, valsB_len]
    omega
   ·simp only [Array.toList_append, List.append_assoc]
    rw [← List.append_assoc, valsB_app, List.take_left' (by simp [valsB_len])]
theorem app_ms {w : World} {ops : Array Oper} {rest : List Oper} {o : Oper} {a : Act} {Q : Exit → Act → World → Prop} (hgd : o.guard = none) (s x : Operand)
 (ho : o.op = .call { callee := .builtin .append, args := #[s, x], argTypes := #[22, 9] }) (B : Nat) (v : Value) (out : List UInt8) (hs : a.eval s = v) (hown : OwnM B w v out)
 (S : ByteArray) (bs : List UInt8) (hx : a.eval x = .string S) (hS : S.data.toList = bs) (hl : out.length + bs.length ≤ 70368744177664) (hB : B ≤ w.heap.size)
 (h : ∀ v' w', OwnM B w' v' (out ++ bs) → Below B w w' → wpList Tryz.prog ops Q rest (a.put o.dst v') w') : wpList Tryz.prog ops Q (o :: rest) a w := by
 rcases hown with hown | ⟨g, cap, cur, lo, hh, rfl, hBg, h3, h4, h5, h6, h7, h8⟩
 ·exact app_s hgd s x ho B v out hs hown S bs hx hS hl hB fun v' w' h1 h2 => h v' w' (.inl h1) h2
 obtain ⟨i0, hi, hz0, hz1, hz2⟩ := byte_info
 subst hS
 have hlen : S.data.toList.length = S.size := Array.length_toList
 have e : Lib.strCells S = valsB S.data.toList := rfl
 by_cases hroom : out.length + S.size ≤ cap
 ·refine wpList_plain hgd fun K hK => ?_
  have hr := room_s w 22 9 o.type i0 5 Tryz.underlying22 Tryz.underlying9 hi hz1 g out.length cap lo hh cur h3 (by omega) S hroom (by omega)
  unfold Oper.wp execOp
  simp only [ho, resolve, invoke, builtin, Sem.run_bind, Sem.run_pure, Result.andThen_ok, List.map_toArray, List.map_cons, List.map_nil, hs, hx, hr]
  obtain ⟨h9, h10⟩ := m_more (bs := S.data.toList) hBg h3 h4 h6 h7 h8 (by rw [hlen]; exact hroom) rfl
  rw [hlen, ← e] at h9 h10
  exact hK _ _ (h _ _ h9 ((Below.refl _ _ |>.mono hB).grown h10 hB fun k hk => by injection hk with hk; omega))
 ·refine wpList_plain hgd fun K hK => ?_
  have hr := Lib.run_append_grow_string (P := Tryz.prog) w 22 9 o.type 5 i0 (.int .u8 0) Tryz.underlying22 Tryz.underlying9 hi hz0 ⟨g, 0, none⟩ out.length cap (valsB out) (by rw [hz1, valsB_len, Nat.mul_one]) (row_byt h3 h8 (by omega)).news S (by omega) (by omega) (growslice_fits (by omega) (by rw [hz2]; omega))
  unfold Oper.wp execOp
  simp only [ho, resolve, invoke, builtin, Sem.run_bind, Sem.run_pure, Result.andThen_ok, List.map_toArray, List.map_cons, List.map_nil, hs, hx, hr]
  have hge := grownCap_ge w (out.length + S.size) cap 5
  rw [e]
  refine hK _ _ (h _ _ (.inl ⟨?_, .inr ⟨w.heap.size, grownCap w (out.length + S.size) cap 5, ((valsB out).toArray ++ (valsB S.data.toList).toArray ++ Builtin.zeroCells (Value.int IntKind.u8 0).cells (grownCap w (out.length + S.size) cap 5 - (out.length + S.size))), ?_, hB, heap_alloc_new w.drew _, ?_, grownCap_le_maxLen w _ _ _ (by unfold maxLen; omega), ?_, ?_⟩⟩) ((Below.refl _ _ |>.mono hB).drew.alloc hB _))
  ·rw [valsB_len, Nat.mul_one]
  ·rw [List.length_append, hlen]
  ·rw [List.length_append, hlen]; exact hge
  ·have hz : (Value.int IntKind.u8 0).cells.size = 1 := rfl
   simp only [Array.size_append, List.size_toArray, size_zeroCells, hz, valsB_len]
   omega
  ·simp only [Array.toList_append, List.append_assoc]
   rw [← List.append_assoc, valsB_app, List.take_left' (by simp [valsB_len])]
theorem conv_m (w : World) (s : ByteArray) (hs : s.size ≤ 1000000000) : ∃ c W', (convert 9 22 (.string s)).run Tryz.prog w = .ok (.slice (some ⟨w.heap.size, 0, none⟩) s.size c) W' ∧ OwnM w.heap.size W' (.slice (some ⟨w.heap.size, 0, none⟩) s.size c) s.data.toList ∧ Below w.heap.size w W' := by
 have hcv := Lib.run_convert_string_bytes (P := Tryz.prog) w 9 22 5 s (u := .string) Tryz.underlying9 Tryz.underlying22 Tryz.underlying5
 have hlen : s.data.toList.length = s.size := Array.length_toList
 have hge := grownCap_ge w s.size 0 5
 have hz : (Lib.bytesCells w 5 s).size = grownCap w s.size 0 5 := by
  have : s.data.size = s.size := rfl
  simp [Lib.bytesCells]; omega
 refine ⟨_, _, hcv, .inr ⟨w.heap.size, grownCap w s.size 0 5, Lib.bytesCells w 5 s, (Lib.bytesCells w 5 s).size, (Lib.bytesCells w 5 s).size + 1, by rw [hlen], Nat.le_refl _, Lib.bytesWorld_at_new w 5 s, by omega, by omega, grownCap_le_maxLen w _ _ _ (by unfold maxLen; omega), hz, ?_⟩, ⟨rfl, rfl, rfl, by rw [Lib.bytesWorld_size]; omega, fun k hk => Lib.bytesWorld_at_old _ _ _ _ hk⟩⟩
 have e : (Lib.bytesCells w 5 s).toList = valsB s.data.toList ++ List.replicate (grownCap w s.size 0 5 - s.size) (.int .u8 0) := by
  simp [Lib.bytesCells, valsB]
 rw [e, List.take_left' (valsB_len _)]

/- Bytes of an object with its number, by the document. No condition. -/
set_option maxHeartbeats 4000000 in
set_option maxRecDepth 100000 in
theorem ritem_no (num : Int) (hn : i64 num) (o : Ob) (vs : List Value) (w : World) (h : ObAt w o vs) (hbk : o.bulk ≤ 1048576) (hbad : itemB num o = false) : Calls Tryz.prog 18 #[.agg (List.toArray (.int .i64 num :: vs))] w (VI w num o) := by
 obtain ⟨en, E1, E2, E3, en1, ec1, en2, ec2, en3, ec3, hys⟩ := ob_five2 h
 subst hys
 obtain ⟨k, hk⟩ : ∃ k, k = o.kind := ⟨_, rfl⟩
 obtain ⟨W1, hW1⟩ : ∃ W, W = w.alloc (.cells #[.int .i64 num, .int .i64 k, .int .i64 en, .slice E1 en1 ec1, .slice E2 en2 ec2, .slice E3 en3 ec3] 41) := ⟨_, rfl⟩
 have hb1 : Below w.heap.size w W1 := by rw [hW1]; exact (Below.refl _ _).alloc (Nat.le_refl _) _
 obtain ⟨g0, g1, g2, g3, g4, g5⟩ := six_cells41 hW1
 have gs := six_cells41 hW1
 have cm := ref_May o _ W1 (h.kept hb1) hbk
 have cg := fun W (hW : Below W1.heap.size W1 W) => ref_Get o _ W (h.kept (bthen hb1 hW)) hbk lenB
 have hv : ∀ w', Below w.heap.size w w' → VI w num o (.returned (.tuple #[.slice none 0 0, .int .i64 1])) w' := fun w' hB => VI.no hbad hB
 have hbad2 : ¬ (1 ≤ num ∧ num ≤ 8388607 ∧ o.may 28 = true ∧ ¬ (k = 8 ∧ (Ob.get lenL o).kind ≠ 0)) := fun ⟨a, b, c, d⟩ => by
  have : itemB num o = true := by
   unfold itemB
   rw [decide_eq_true a, decide_eq_true b, c, ← hk]
   by_cases h8 : k = 8 <;> by_cases hq : (Ob.get lenL o).kind = 0 <;> simp_all
  rw [this] at hbad; cases hbad
 rw [← hk] at cm cg ⊢
 obtain ⟨m, hm⟩ : ∃ m, m = o.may 28 := ⟨_, rfl⟩
 obtain ⟨q, hq⟩ : ∃ q, q = (Ob.get lenL o).kind := ⟨_, rfl⟩
 rw [← hm] at cm
 rw [← hm, ← hq] at hbad2
 have cg2 : ∀ W (hW : Below W1.heap.size W1 W), Calls Tryz.prog 20 #[.agg #[.int .i64 k, .int .i64 en, .slice E1 en1 ec1, .slice E2 en2 ec2, .slice E3 en3 ec3], .string ⟨#[76, 101, 110, 103, 116, 104]⟩] W fun e w' => ∃ u1 u2 u3 u4, e = .returned (.agg #[.int .i64 q, u1, u2, u3, u4]) ∧ Below W.heap.size W w' := fun W hW => (cg W hW).mono fun e w' ⟨us, h1, h2, h3⟩ => by
  obtain ⟨gn, G1, G2, G3, gn1, gc1, gn2, gc2, gn3, gc3, hus⟩ := ob_five2 h2.ob
  subst hus
  have e1 : (Ob.get lenB.data.toList o).kind = q := hq.symm
  rw [e1] at h1
  exact ⟨_, _, _, _, h1, h3⟩
 clear h hbad hk cg hm hq
 replace hn := hi_ hn
 replace hb1 := hi_ hb1
 replace gs := hi_ gs
 replace hv := hi_ hv
 replace cg2 := hi_ cg2
 by_cases t1 : num < 1
 ·have d1 : decide (num < 1) = true := decide_eq_true t1
  clear hbad2 cm
  go_enter Tryz.func18, Tryz.ntmps18
  go_upto_region 1 with (fail)
  rw [← hW1]
  replace hW1 := hi_ hW1
  go_wp2
  go_ret2
  exact hv.out _ hb1.out
 have d1 : decide (num < 1) = false := decide_eq_false t1
 by_cases t2 : 8388607 < num
 ·have d2 : decide (8388607 < num) = true := decide_eq_true t2
  clear hbad2 cm
  go_enter Tryz.func18, Tryz.ntmps18
  go_upto_region 1 with (fail)
  rw [← hW1]
  replace hW1 := hi_ hW1
  go_wp2
  go_ret2
  exact hv.out _ hb1.out
 have d2 : decide (8388607 < num) = false := decide_eq_false t2
 cases m with
 | false =>
  clear hbad2
  go_enter Tryz.func18, Tryz.ntmps18
  go_upto_region 1 with (fail)
  rw [← hW1]
  replace hW1 := hi_ hW1
  go_wp2_with (go_at_call 19; (with_reducible refine cm.mono ?_); rintro e w3 ⟨rfl, hB3⟩; replace hB3 := hi_ hB3)
  all_goals
   go_ret2
   exact hv.out _ (bthen hb1.out hB3.out)
 | true =>
  by_cases h8 : k = 8
  ·subst h8
   have hq0 : q ≠ 0 := fun e => hbad2 ⟨by omega, by omega, rfl, fun h => h.2 e⟩
   have e0 : (q == 0) = false := by simpa using hq0
   have e1 : (q != 0) = true := by simpa using hq0
   have hfd := field0 q
   clear hbad2 hq0
   go_enter Tryz.func18, Tryz.ntmps18
   go_upto_region 1 with (fail)
   rw [← hW1]
   replace hW1 := hi_ hW1
   go_wp2_with (first
    | (go_at_call 19; (with_reducible refine cm.mono ?_); rintro e w3 ⟨rfl, hB3⟩; have cg := cg2.out w3 hB3; obtain ⟨g0, g1, g2, g3, g4, g5⟩ := six_kept gs.out hB3; replace hB3 := hi_ hB3)
    | (go_at_call 20; (with_reducible refine cg.mono ?_); rintro e w4 ⟨u1, u2, u3, u4, rfl, hB4⟩; replace hB4 := hi_ hB4))
   go_ret2
   exact hv.out _ (bthen hb1.out (bthen hB3.out hB4.out))
  ·exact (hbad2 ⟨by omega, by omega, rfl, fun h => h8 h.1⟩).elim
set_option maxHeartbeats 4000000 in
set_option maxRecDepth 100000 in
theorem ritem_obj (num : Int) (hn : i64 num) (o : Ob) (vs : List Value) (w : World) (h : ObAt w o vs) (hbk : o.bulk ≤ 1048576) (hgood : itemB num o = true) (hk8 : o.kind ≠ 8) : Calls Tryz.prog 18 #[.agg (List.toArray (.int .i64 num :: vs))] w (VI w num o) := by
 obtain ⟨en, E1, E2, E3, en1, ec1, en2, ec2, en3, ec3, hys⟩ := ob_five2 h
 subst hys
 obtain ⟨k, hk⟩ : ∃ k, k = o.kind := ⟨_, rfl⟩
 obtain ⟨W1, hW1⟩ : ∃ W, W = w.alloc (.cells #[.int .i64 num, .int .i64 k, .int .i64 en, .slice E1 en1 ec1, .slice E2 en2 ec2, .slice E3 en3 ec3] 41) := ⟨_, rfl⟩
 have hb1 : Below w.heap.size w W1 := by rw [hW1]; exact (Below.refl _ _).alloc (Nat.le_refl _) _
 obtain ⟨g0, g1, g2, g3, g4, g5⟩ := six_cells41 hW1
 have gs := six_cells41 hW1
 have cm := ref_May o _ W1 (h.kept hb1) hbk
 have cs := fun W (hW : Below W1.heap.size W1 W) => rshow_all 1048576 (Nat.le_refl _) o _ W (h.kept (bthen hb1 hW)) hbk
 have ct := fun W => ref_Text num hn true W
 have zt := numT_le num hn
 have zs := show_len o h.fits
 have hend : itmS num o = (numT num true ++ objL) ++ (o.show ++ endoL) := by
  unfold itmS
  rw [if_pos hgood]
  cases o with
  | mk k' n b l d =>
   have : itmB (.mk k' n b l d) = (Ob.mk k' n b l d).show := by
    show (if k' = 8 then _ else _) = _
    rw [if_neg (show ¬ k' = 8 from hk8)]
   rw [this]
 have hz : itmZ num o = 0 := by unfold itmZ; rw [if_pos hgood]
 have hg2 := hgood
 unfold itemB at hg2
 simp only [Bool.and_eq_true, decide_eq_true_eq] at hg2
 obtain ⟨⟨⟨t1, t2⟩, t3⟩, _⟩ := hg2
 obtain ⟨S, hS⟩ : ∃ S, S = o.show := ⟨_, rfl⟩
 obtain ⟨T, hT2⟩ : ∃ T, T = numT num true := ⟨_, rfl⟩
 obtain ⟨TB, hTB⟩ : ∃ B : ByteArray, B = ⟨T.toArray⟩ := ⟨_, rfl⟩
 obtain ⟨H, hH⟩ : ∃ H, H = T ++ objL := ⟨_, rfl⟩
 have zH : H.length ≤ 110 := by rw [hH, hT2]; simp only [List.length_append, objL, List.length_cons, List.length_nil]; omega
 have hend2 : itmS num o = (H ++ S) ++ endoL := by rw [hend, hH, hT2, hS]; simp only [List.append_assoc]
 have hfin : ∀ v w', OwnM W1.heap.size w' v ((H ++ S) ++ endoL) → Below w.heap.size w w' → VI w num o (.returned (.tuple #[v, .int .i64 0])) w' := fun v w' h1 h2 => by
  obtain ⟨A, c, rfl, h3, _⟩ := h1.out (by simp only [List.length_append, endoL, List.length_cons, List.length_nil]; unfold maxLen; rw [hS]; omega)
  exact ⟨A, c, by rw [hend2, hz], by rw [hend2]; exact h3, h2⟩
 have ct2 : ∀ W, Calls Tryz.prog 47 #[.int .i64 num, .bool true] W fun e w' => e = .returned (.string TB) ∧ Below W.heap.size W w' := by rw [hTB, hT2]; exact ct
 have cv : ∀ W, Below W1.heap.size W1 W → ∃ v W', (convert 9 22 (.string (TB ++ ⟨#[32, 48, 32, 111, 98, 106, 10]⟩))).run Tryz.prog W = .ok v W' ∧ OwnM W1.heap.size W' v H ∧ Below W.heap.size W W' := fun W hW => by
  have e1 : (TB ++ (⟨#[32, 48, 32, 111, 98, 106, 10]⟩ : ByteArray)).data.toList = H := by rw [bytes_app, hTB, hH]; rfl
  have e2 : (TB ++ (⟨#[32, 48, 32, 111, 98, 106, 10]⟩ : ByteArray)).size = H.length := by rw [← e1]; exact (Array.length_toList).symm
  obtain ⟨c, W', h1, h2, h3⟩ := conv_m W (TB ++ ⟨#[32, 48, 32, 111, 98, 106, 10]⟩) (by rw [e2]; omega)
  rw [e1] at h2
  refine ⟨_, W', h1, ?_, h3⟩
  rcases h2 with h2 | ⟨g, cap, cur, lo, hi, r1, r2, rest⟩
  ·exact .inl (h2.base hW.size)
  ·exact .inr ⟨g, cap, cur, lo, hi, r1, Nat.le_trans hW.size r2, rest⟩
 rw [← hk] at cm hk8 ⊢
 rw [← hk] at cs
 rw [t3] at cm
 rw [← hS] at cs zs
 have d1 : decide (num < 1) = false := decide_eq_false (by omega)
 have d2 : decide (8388607 < num) = false := decide_eq_false (by omega)
 have d3 : (k == 8) = false := by simpa using hk8
 have d4 : (k != 8) = true := by simpa using hk8
 have zS : S.length ≤ 42000000 := by omega
 have zTB : TB.size ≤ 110 := by rw [hTB]; show T.toArray.size ≤ 110; rw [List.size_toArray, hT2]; omega
 clear h hgood hk t1 t2 t3 ct hend hend2 hz hk8 hS hT2 zs zt
 replace hn := hi_ hn
 replace hb1 := hi_ hb1
 replace gs := hi_ gs
 replace cs := hi_ cs
 replace ct2 := hi_ ct2
 replace cv := hi_ cv
 replace hfin := hi_ hfin
 replace hTB := hi_ hTB
 replace hH := hi_ hH
 go_enter Tryz.func18, Tryz.ntmps18
 go_upto_region 1 with (fail)
 rw [← hW1]
 replace hW1 := hi_ hW1
 go_wp2_with (first
  | (go_at_call 19; (with_reducible refine cm.mono ?_); rintro e w3 ⟨rfl, hB3⟩; obtain ⟨g0, g1, g2, g3, g4, g5⟩ := six_kept gs.out hB3; have ct3 := ct2.out w3; replace hB3 := hi_ hB3)
  | (go_at_call 47; (with_reducible refine ct3.mono ?_); rintro e w4 ⟨rfl, hB4⟩; have hD4 := bthen hB3.out hB4; obtain ⟨v5, W5, hc5, hO5, hB5⟩ := cv.out w4 hD4; have hD5 := bthen hD4 hB5; obtain ⟨g0, g1, g2, g3, g4, g5⟩ := six_kept gs.out hD5; have cs5 := cs.out W5 hD5; replace hD4 := hi_ hD4; replace hD5 := hi_ hD5; replace hB4 := hi_ hB4; replace hB5 := hi_ hB5; replace hO5 := hi_ hO5)
  | (go_at_call 32; (with_reducible refine cs5.mono ?_); rintro e w6 ⟨A6, c6, rfl, hb6, hA6, hB6⟩; have hO6 := hO5.out.below hB6; have hD6 := bthen hD5.out hB6; have z6 := hD6.size; replace hD6 := hi_ hD6; replace hB6 := hi_ hB6; replace hb6 := hi_ hb6; replace hA6 := hi_ hA6; replace hO6 := hi_ hO6; have tok := z6)
  | (at_builtin; refine app_m rfl _ _ rfl W1.heap.size v5 H rfl hO6.out A6 _ c6 S rfl rfl hb6.out hA6.out (by omega) tok ?_; intro v7 w7 hO7 hB7; have hD7 : Below W1.heap.size W1 w7 := hD6.out.trans hB7; have z7 := hD7.size; replace hD7 := hi_ hD7; replace hB7 := hi_ hB7; replace hO7 := hi_ hO7; clear tok; have tok2 := z7)
  | (at_builtin; refine app_ms rfl _ _ rfl W1.heap.size v7 (H ++ S) rfl hO7.out ⟨#[10, 101, 110, 100, 111, 98, 106, 10]⟩ endoL rfl rfl (by simp only [List.length_append, endoL, List.length_cons, List.length_nil]; omega) tok2 ?_; intro v8 w8 hO8 hB8; have hD8 : Below W1.heap.size W1 w8 := hD7.out.trans hB8; replace hD8 := hi_ hD8; replace hB8 := hi_ hB8; replace hO8 := hi_ hO8; clear tok2))
 go_ret2
 exact hfin.out _ _ hO8.out (bthen hb1.out hD8.out)

/- Bytes of a Stream with its number, by the document. No condition. -/
def G6 (p : Nat) (ag vb : Value) (n B : Nat) (R : Ob) : Nat → Value → World → Prop := fun j v w => match j with
 | 0 => v = .pointer (some ⟨p, 1, none⟩)
 | 1 => v = ag
 | 2 => v = .pointer (some ⟨p, 1, none⟩)
 | 3 => v = .pointer (some ⟨p, 3, none⟩)
 | 4 => v = vb
 | 5 => v = .int .i64 n
 | 6 => v = .agg #[.int .i64 2, .int .i64 n, .slice none 0 0, .slice none 0 0, .slice none 0 0]
 | 7 => ∃ us, v = .agg (List.toArray (.string ⟨#[76, 101, 110, 103, 116, 104]⟩ :: us)) ∧ ObAt w (numO n) us
 | 8 => ∃ g us, v = .slice (some ⟨g, 0, none⟩) 1 1 ∧ ObAt w (numO n) us ∧ ∀ j u, (Value.string ⟨#[76, 101, 110, 103, 116, 104]⟩ :: us)[j]? = some u → w.cell? ⟨g, j, none⟩ = some u
 | 9 => ∃ us lo hi, v = .agg (List.toArray us) ∧ B ≤ lo ∧ ObI lo hi w R us
 | _ => ∃ q, v = .pointer (some ⟨q, 0, none⟩) ∧ B ≤ q ∧ Blk w q 26 #[.int .i64 0, .int .i64 0, .slice none 0 0, .slice none 0 0, .slice none 0 0]
theorem G6_mono {p : Nat} {ag vb : Value} {n B : Nat} {R : Ob} (j : Nat) (v : Value) (w w' : World) (hG : G6 p ag vb n B R j v w) (hk : Below w.heap.size w w') : G6 p ag vb n B R j v w' := by
 unfold G6 at hG ⊢
 split at hG <;> first
  | exact hG
  | (obtain ⟨us, e, hb⟩ := hG; exact ⟨us, e, hb.kept hk⟩)
  | (obtain ⟨us, lo, hi, e, hB, hb⟩ := hG; exact ⟨us, lo, hi, e, hB, obI_below hb hk⟩)
  | (obtain ⟨g, us, e, hb, hc⟩ := hG; exact ⟨g, us, e, hb.kept hk, fun j u hj => (hk.cell (cell_lt (hc j u hj))).trans (hc j u hj)⟩)
  | (obtain ⟨q, e, hB, hb⟩ := hG; exact ⟨q, e, hB, hb.below hk hb.lt⟩)
set_option maxHeartbeats 8000000 in
set_option maxRecDepth 100000 in
theorem ritem_str (num : Int) (hn : i64 num) (n : Int) (b : List UInt8) (l : List Ob) (d : List (List UInt8 × Ob)) (vs : List Value) (w : World) (h : ObAt w (.mk 8 n b l d) vs) (hbk : (Ob.mk 8 n b l d).bulk ≤ 1048569) (hgood : itemB num (.mk 8 n b l d) = true) : Calls Tryz.prog 18 #[.agg (List.toArray (.int .i64 num :: vs))] w (VI w num (.mk 8 n b l d)) := by
 obtain ⟨o, ho⟩ : ∃ o, o = Ob.mk 8 n b l d := ⟨_, rfl⟩
 have hvs : ∃ (A1 A2 A3 : Option Addr) (c1 c2 c3 : Nat), vs = [.int .i64 8, .int .i64 n, .slice A1 b.length c1, .slice A2 l.length c2, .slice A3 d.length c3] ∧ Byt w A1 b ∧ (A1 = none → c1 = 0) := by
  cases h with
  | mk k n b l d A AL AD c cL cD gL oL gD oD vl vd h1 h2 h3 h4 h5 h6 h7 h8 h9 h10 h11 h12 h13 h14 hA hl hkey hlv => exact ⟨A, AL, AD, c, cL, cD, rfl, by assumption, h7⟩
 obtain ⟨E1, E2, E3, ec1, ec2, ec3, hys, hbb, hE1⟩ := hvs
 subst hys
 have zk : b.length + bulkL l + bulkD d + 1 ≤ 1048569 := hbk
 have hfd : ∀ e ∈ d, Fits e.2 := by have := h.fits; cases this with | mk _ _ _ _ _ _ _ hd => exact hd
 have zd := ins_len b d hfd (by omega)
 have hg2 := hgood
 unfold itemB at hg2
 simp only [Bool.and_eq_true, decide_eq_true_eq] at hg2
 obtain ⟨⟨⟨t1, t2⟩, t3⟩, t4⟩ := hg2
 have t4 : (Ob.get lenL (.mk 8 n b l d)).kind = 0 := by
  have e : (Ob.mk 8 n b l d).kind = 8 := rfl
  rw [e] at t4
  simpa using t4
 have hno := get_null t3 rfl t4 rfl
 have zd2 : bulkD (insE lenL (numO b.length) d) ≤ 1048576 := by
  rw [insE_bulk, numO_bulk]; have : lenL.length = 6 := rfl; omega
 obtain ⟨W1, hW1⟩ : ∃ W, W = w.alloc (.cells #[.int .i64 num, .int .i64 8, .int .i64 n, .slice E1 b.length ec1, .slice E2 l.length ec2, .slice E3 d.length ec3] 41) := ⟨_, rfl⟩
 have hb1 : Below w.heap.size w W1 := by rw [hW1]; exact (Below.refl _ _).alloc (Nat.le_refl _) _
 have z1 : W1.heap.size = w.heap.size + 1 := by rw [hW1, World.size_alloc]
 obtain ⟨g0, g1, g2, g3, g4, g5⟩ := six_cells41 hW1
 have gs := six_cells41 hW1
 have hbulk : o.bulk ≤ 1048576 := by rw [ho]; omega
 have cm := ref_May o _ W1 (by rw [ho]; exact h.kept hb1) hbulk
 have cg := fun W (hW : Below W1.heap.size W1 W) => ref_Get o _ W (by rw [ho]; exact h.kept (bthen hb1 hW)) hbulk lenB
 have ct := fun W => ref_Text num hn true W
 have hob := fun W (hW : Below W1.heap.size W1 W) => h.kept (bthen hb1 hW)
 have hbw := fun W (hW : Below W1.heap.size W1 W) => hbb.below (bthen hb1 hW)
 have zt := numT_le num hn
 obtain ⟨D, hD⟩ : ∃ D, D = dictB (insE lenL (numO b.length) d) := ⟨_, rfl⟩
 rw [← hD] at zd
 obtain ⟨T, hT2⟩ : ∃ T, T = numT num true := ⟨_, rfl⟩
 obtain ⟨TB, hTB⟩ : ∃ B : ByteArray, B = ⟨T.toArray⟩ := ⟨_, rfl⟩
 obtain ⟨H, hH⟩ : ∃ H, H = T ++ objL := ⟨_, rfl⟩
 have zH : H.length ≤ 110 := by rw [hH, hT2]; simp only [List.length_append, objL, List.length_cons, List.length_nil]; omega
 have hend2 : itmS num (.mk 8 n b l d) = ((((H ++ D) ++ strmL) ++ b) ++ endsL) ++ endoL := by
  unfold itmS
  rw [if_pos hgood]
  have e : itmB (.mk 8 n b l d) = dictB (insE lenL (numO b.length) d) ++ (strmL ++ (b ++ endsL)) := by
   show (if (8 : Int) = 8 then dictB (insE lenL (numO b.length) d) ++ (strmL ++ (b ++ endsL)) else (Ob.mk 8 n b l d).show) = _
   rw [if_pos rfl]
  rw [e, hH, hT2, hD]
  simp only [List.append_assoc]
 have hz : itmZ num (.mk 8 n b l d) = 0 := by unfold itmZ; rw [if_pos hgood]
 have hfin : ∀ v w', OwnM W1.heap.size w' v (((((H ++ D) ++ strmL) ++ b) ++ endsL) ++ endoL) → Below w.heap.size w w' → VI w num (.mk 8 n b l d) (.returned (.tuple #[v, .int .i64 0])) w' := fun v w' h1 h2 => by
  obtain ⟨A, c, rfl, h3, _⟩ := h1.out (by simp only [List.length_append, strmL, endsL, endoL, List.length_cons, List.length_nil]; unfold maxLen; omega)
  exact ⟨A, c, by rw [hend2, hz], by rw [hend2]; exact h3, h2⟩
 have ct2 : ∀ W, Calls Tryz.prog 47 #[.int .i64 num, .bool true] W fun e w' => e = .returned (.string TB) ∧ Below W.heap.size W w' := by rw [hTB, hT2]; exact ct
 have cv : ∀ W, Below W1.heap.size W1 W → ∃ v W', (convert 9 22 (.string (TB ++ ⟨#[32, 48, 32, 111, 98, 106, 10]⟩))).run Tryz.prog W = .ok v W' ∧ OwnM W1.heap.size W' v H ∧ Below W.heap.size W W' := fun W hW => by
  have e1 : (TB ++ (⟨#[32, 48, 32, 111, 98, 106, 10]⟩ : ByteArray)).data.toList = H := by rw [bytes_app, hTB, hH]; rfl
  have e2 : (TB ++ (⟨#[32, 48, 32, 111, 98, 106, 10]⟩ : ByteArray)).size = H.length := by rw [← e1]; exact (Array.length_toList).symm
  obtain ⟨c, W', h1, h2, h3⟩ := conv_m W (TB ++ ⟨#[32, 48, 32, 111, 98, 106, 10]⟩) (by rw [e2]; omega)
  rw [e1] at h2
  refine ⟨_, W', h1, ?_, h3⟩
  rcases h2 with h2 | ⟨g, cap, cur, lo, hi, r1, r2, rest⟩
  ·exact .inl (h2.base hW.size)
  ·exact .inr ⟨g, cap, cur, lo, hi, r1, Nat.le_trans hW.size r2, rest⟩
 have t3o : o.may 28 = true := by rw [ho]; exact t3
 rw [t3o] at cm
 have cg2 : ∀ W (hW : Below W1.heap.size W1 W), Calls Tryz.prog 20 #[.agg #[.int .i64 8, .int .i64 n, .slice E1 b.length ec1, .slice E2 l.length ec2, .slice E3 d.length ec3], .string ⟨#[76, 101, 110, 103, 116, 104]⟩] W fun e w' => ∃ u1 u2 u3 u4, e = .returned (.agg #[.int .i64 0, u1, u2, u3, u4]) ∧ Below W.heap.size W w' := fun W hW => (cg W hW).mono fun e w' ⟨us, h1, h2, h3⟩ => by
  obtain ⟨gn, G1, G2, G3, gn1, gc1, gn2, gc2, gn3, gc3, hus⟩ := ob_five2 h2.ob
  subst hus
  have e1 : (Ob.get lenB.data.toList o).kind = 0 := by rw [ho]; exact t4
  rw [e1] at h1
  exact ⟨_, _, _, _, h1, h3⟩
 have d1 : decide (num < 1) = false := decide_eq_false (by omega)
 have d2 : decide (8388607 < num) = false := decide_eq_false (by omega)
 have zTB : TB.size ≤ 110 := by rw [hTB]; show T.toArray.size ≤ 110; rw [List.size_toArray, hT2]; omega
 obtain ⟨nb, hnb⟩ : ∃ m, m = b.length := ⟨_, rfl⟩
 obtain ⟨nl, hnl⟩ : ∃ m, m = l.length := ⟨_, rfl⟩
 obtain ⟨nd, hnd⟩ : ∃ m, m = d.length := ⟨_, rfl⟩
 have zz : nb ≤ 1048576 := by omega
 have zD : D.length ≤ 42000000 := by omega
 rw [← hnb, ← hnl, ← hnd] at hW1 gs cg2 hob
 rw [← hnb] at g3
 rw [← hnl] at g4
 rw [← hnd] at g5
 have hff := field0 0
 rw [← hnb, ← hnl, ← hnd]
 have cm2 : Calls Tryz.prog 19 #[.agg #[.int .i64 8, .int .i64 n, .slice E1 nb ec1, .slice E2 nl ec2, .slice E3 nd ec3]] W1 fun e w' => e = .returned (.bool true) ∧ Below W1.heap.size W1 w' := by rw [hnb, hnl, hnd]; exact cm
 have hbk := Nat.le_trans hbk (by omega : 1048569 ≤ 1048576)
 clear cm cg ct h hgood t1 t2 t3 t4 hend2 hz t3o hbulk hT2 hbb zt zd zk
 replace hn := hi_ hn
 replace ho := hi_ ho
 replace hb1 := hi_ hb1
 replace z1 := hi_ z1
 replace gs := hi_ gs
 replace hob := hi_ hob
 replace hbw := hi_ hbw
 replace ct2 := hi_ ct2
 replace cv := hi_ cv
 replace cg2 := hi_ cg2
 replace hfin := hi_ hfin
 replace hTB := hi_ hTB
 replace hH := hi_ hH
 replace hD := hi_ hD
 replace hno := hi_ hno
 replace hnb := hi_ hnb
 replace hbk := hi_ hbk
 replace hnl := hi_ hnl
 replace hnd := hi_ hnd
 replace hfd := hi_ hfd
 replace hE1 := hi_ hE1
 replace zd2 := hi_ zd2
 go_enter Tryz.func18, Tryz.ntmps18
 go_upto_region 1 with (fail)
 rw [← hW1]
 replace hW1 := hi_ hW1
 go_upto_region 6 with (first
  | (go_at_call 19; (with_reducible refine cm2.mono ?_); rintro e w3 ⟨rfl, hB3⟩; obtain ⟨g0, g1, g2, g3, g4, g5⟩ := six_kept gs.out hB3; have cg3 := cg2.out w3 hB3; replace hB3 := hi_ hB3)
  | (go_at_call 20; (with_reducible refine cg3.mono ?_); rintro e w3b ⟨u1, u2, u3, u4, rfl, hB3b⟩; have hD3 := bthen hB3.out hB3b; obtain ⟨g0, g1, g2, g3, g4, g5⟩ := six_kept gs.out hD3; have ct3 := ct2.out w3b; replace hD3 := hi_ hD3; replace hB3b := hi_ hB3b)
  | (go_at_call 47; (with_reducible refine ct3.mono ?_); rintro e w4 ⟨rfl, hB4⟩; have hD4 := bthen hD3.out hB4; obtain ⟨v5, W5, hc5, hO5, hB5⟩ := cv.out w4 hD4; have hD5 := bthen hD4 hB5; obtain ⟨g0, g1, g2, g3, g4, g5⟩ := six_kept gs.out hD5; replace hD4 := hi_ hD4; replace hD5 := hi_ hD5; replace hB4 := hi_ hB4; replace hB5 := hi_ hB5; replace hO5 := hi_ hO5))
 refine wp_lin_pair (by kernel_rfl) [none, none, none, none, none, some 10, none, none, none, none, none, none, none, none, none, none, none, none, none, none, none, none, none, none, none, none, none, none, none, none, none, none, none, none, none, none, none, none, none, none, none, none, none, none, none, none, none, some 0, some 1, some 2, some 3, some 4, some 5, some 6, some 7, some 8, some 9, none, none, none, none, none, none, none, none, none, none, none, none, none, none, none] (fun w' => Below W5.heap.size W5 w') (fun w' w'' => Below w'.heap.size w' w'') (G6 w.heap.size (.agg #[.int .i64 8, .int .i64 n, .slice E1 nb ec1, .slice E2 nl ec2, .slice E3 nd ec3]) (.slice E1 nb ec1) nb W5.heap.size (.mk 8 n b l (insE lenL (numO nb) d))) (D8 W5.heap.size (.mk 8 n b l (insE lenL (numO nb) d))) (by rfl) (by kernel_rfl) 11 9 10 (by decide) (by decide) (by decide) _ rfl (by decide) (by kernel_rfl) [11, 11, 11, 11, 11, 11, 11, 11, 11, 11, 11, 0] (by kernel_rfl) ?hR ?mono D8_mono (stepX_of [1, 8, 7] rfl (by kernel_rfl) ?s9) (stepX_of [] rfl (by kernel_rfl) ?s10) (.cons 10 (.inr (.inl rfl)) (.cons 9 (.inl rfl) (.cons 8 (.inr (.inr (step_of [7] rfl (by kernel_rfl) ?s8))) (.cons 7 (.inr (.inr (step_of [6] rfl (by kernel_rfl) ?s7))) (.cons 6 (.inr (.inr (step_of [5] rfl (by kernel_rfl) ?s6))) (.cons 5 (.inr (.inr (step_of [4] rfl (by kernel_rfl) ?s5))) (.cons 4 (.inr (.inr (step_of [3] rfl (by kernel_rfl) ?s4))) (.cons 3 (.inr (.inr (step_of [2] rfl (by kernel_rfl) ?s3))) (.cons 2 (.inr (.inr (step_of [] rfl (by kernel_rfl) ?s2))) (.cons 1 (.inr (.inr (step_of [0] rfl (by kernel_rfl) ?s1))) (.cons 0 (.inr (.inr (step_of [] rfl (by kernel_rfl) ?s0))) (.nil)))))))))))) ?done
 case hR => exact (Below.refl _ _).drew
 case mono => exact G6_mono
 case s0 =>
  intro x w' hRw hd K' hK
  simp only [All, G6] at hd
  simp +decide only [upd, G6, fillL, if_true, if_false] at hK ⊢
  go_simp
  have hK2 := hK _ _ ⟨hRw, Below.refl _ _, rfl⟩
  exact hK2
 case s1 =>
  intro x w' hRw hd K' hK
  simp only [All, G6] at hd
  obtain ⟨e0, _⟩ := hd
  have tg1 := (hRw.cell (cell_lt g1)).trans g1
  have tg2 := (hRw.cell (cell_lt g2)).trans g2
  have tg3 := (hRw.cell (cell_lt g3)).trans g3
  have tg4 := (hRw.cell (cell_lt g4)).trans g4
  have tg5 := (hRw.cell (cell_lt g5)).trans g5
  simp +decide only [upd, G6, fillL, if_true, if_false] at hK ⊢
  simp only [e0] at hK ⊢
  go_simp
  have hK2 := hK _ _ ⟨hRw, Below.refl _ _, rfl⟩
  exact hK2
 case s2 =>
  intro x w' hRw hd K' hK
  simp only [All, G6] at hd
  simp +decide only [upd, G6, fillL, if_true, if_false] at hK ⊢
  go_simp
  have hK2 := hK _ _ ⟨hRw, Below.refl _ _, rfl⟩
  exact hK2
 case s3 =>
  intro x w' hRw hd K' hK
  simp only [All, G6] at hd
  obtain ⟨e2, _⟩ := hd
  simp +decide only [upd, G6, fillL, if_true, if_false] at hK ⊢
  simp only [e2] at hK ⊢
  go_simp
  have hK2 := hK _ _ ⟨hRw, Below.refl _ _, rfl⟩
  exact hK2
 case s4 =>
  intro x w' hRw hd K' hK
  simp only [All, G6] at hd
  obtain ⟨e3, _⟩ := hd
  have tg3 := (hRw.cell (cell_lt g3)).trans g3
  simp +decide only [upd, G6, fillL, if_true, if_false] at hK ⊢
  simp only [e3] at hK ⊢
  go_simp
  have hK2 := hK _ _ ⟨hRw, Below.refl _ _, rfl⟩
  exact hK2
 case s5 =>
  intro x w' hRw hd K' hK
  simp only [All, G6] at hd
  obtain ⟨e4, _⟩ := hd
  simp +decide only [upd, G6, fillL, if_true, if_false] at hK ⊢
  simp only [e4] at hK ⊢
  go_simp
  have hK2 := hK _ _ ⟨hRw, Below.refl _ _, rfl⟩
  exact hK2
 case s6 =>
  intro x w' hRw hd K' hK
  simp only [All, G6] at hd
  obtain ⟨e5, _⟩ := hd
  simp +decide only [upd, G6, fillL, if_true, if_false] at hK ⊢
  simp only [e5] at hK ⊢
  go_simp
  refine (ref_Int nb w' (by omega) (by omega)).mono ?_
  rintro e' w2 ⟨rfl, hB9⟩
  have hK2 := hK _ _ ⟨bthen hRw hB9, hB9, rfl⟩
  exact hK2
 case s7 =>
  intro x w' hRw hd K' hK
  simp only [All, G6] at hd
  obtain ⟨e6, _⟩ := hd
  simp +decide only [upd, G6, fillL, if_true, if_false] at hK ⊢
  simp only [e6] at hK ⊢
  go_simp
  refine (ref_Pair (numO nb) _ w' (num_I (B := 0) (w := w') nb (by omega) (by omega)).ob (by rw [numO_bulk]; omega) ⟨#[76, 101, 110, 103, 116, 104]⟩).mono ?_
  rintro e' w2 ⟨us, rfl, hI9, hB9⟩
  have hK2 := hK _ _ ⟨bthen hRw hB9, hB9, us, rfl, hI9.ob⟩
  exact hK2
 case s8 =>
  intro x w' hRw hd K' hK
  simp only [All, G6] at hd
  obtain ⟨⟨us5, e5, h5⟩, _⟩ := hd
  simp +decide only [upd, G6, fillL, if_true, if_false] at hK ⊢
  simp only [e5] at hK ⊢
  obtain ⟨xn, F1, F2, F3, fn1, fc1, fn2, fc2, fn3, fc3, hxs⟩ := ob_five2 h5
  have hkd : (numO nb).kind = 2 := rfl
  rw [hkd] at hxs
  subst hxs
  have al : Below w'.heap.size w' (w'.alloc (.cells #[.string ⟨#[76, 101, 110, 103, 116, 104]⟩, .int .i64 2, .int .i64 xn, .slice F1 fn1 fc1, .slice F2 fn2 fc2, .slice F3 fn3 fc3] 53)) := (Below.refl _ _).alloc (Nat.le_refl _) _
  have hcl : ∀ j u, ([.string ⟨#[76, 101, 110, 103, 116, 104]⟩, .int .i64 2, .int .i64 xn, .slice F1 fn1 fc1, .slice F2 fn2 fc2, .slice F3 fn3 fc3] : List Value)[j]? = some u → (w'.alloc (.cells #[.string ⟨#[76, 101, 110, 103, 116, 104]⟩, .int .i64 2, .int .i64 xn, .slice F1 fn1 fc1, .slice F2 fn2 fc2, .slice F3 fn3 fc3] 53)).cell? ⟨w'.heap.size, j, none⟩ = some u := fun j u hj => by
   have h0 := alloc_cell (w := w') (vs := #[.string ⟨#[76, 101, 110, 103, 116, 104]⟩, .int .i64 2, .int .i64 xn, .slice F1 fn1 fc1, .slice F2 fn2 fc2, .slice F3 fn3 fc3]) (e := 53) (i := j)
   rw [Nat.zero_add] at h0
   rw [h0, ← hj]; simp
  go_simp
  have hK2 := hK _ _ ⟨bthen hRw al, al, w'.heap.size, _, rfl, h5.kept al, hcl⟩
  exact hK2
 case s9 =>
  intro bp x w' hRw hd hb8 K' hK
  simp only [All, G6] at hd hb8
  obtain ⟨e0, ⟨g6, us6, e6, hx6, hc6⟩, _⟩ := hd
  simp +decide only [upd, G6, fillL, if_true, if_false] at hK ⊢
  simp only [e0, e6] at hK ⊢
  go_simp
  refine (ref_Set 8 n b l d _ w' (hob.out w' (bthen hD5.out hRw)) hbk.out rfl (numO nb) us6 g6 ⟨#[76, 101, 110, 103, 116, 104]⟩ hx6 (by rw [numO_bulk]; omega) rfl hc6 hno.out (by decide)).mono ?_
  rintro e' w2 ⟨us, rfl, hI9, hB9⟩
  have hI9' : ObI w'.heap.size w2.heap.size w2 (.mk 8 n b l (insE lenL (numO nb) d)) us := hI9
  have zw := hRw.size
  have hK2 := hK _ _ ⟨bthen hRw hB9, hB9, ⟨us, _, _, rfl, zw, hI9'⟩, fun hbp => by
   obtain ⟨q, hq, hBq, hblk⟩ := hb8 hbp
   exact ⟨us, _, _, q, rfl, hq, zw, hBq, hI9', .inl hblk.lt, hblk.below hB9 hblk.lt⟩⟩
  exact hK2
 case s10 =>
  intro bp x w' hRw hd hb7 K' hK
  simp only [G6] at hb7
  simp +decide only [upd, G6, fillL, if_true, if_false] at hK ⊢
  have zw := hRw.size
  have al : Below w'.heap.size w' (w'.alloc (.cells #[.int .i64 0, .int .i64 0, .slice none 0 0, .slice none 0 0, .slice none 0 0] 26)) := (Below.refl _ _).alloc (Nat.le_refl _) _
  have bl := Blk.new w' 26 #[.int .i64 0, .int .i64 0, .slice none 0 0, .slice none 0 0, .slice none 0 0]
  go_simp
  have hK2 := hK _ _ ⟨bthen hRw al, al, ⟨_, rfl, zw, bl⟩, fun hbp => by
   obtain ⟨us, lo, hi, h1, h2, h3⟩ := hb7 hbp
   exact ⟨us, lo, hi, _, h1, rfl, h2, zw, obI_below h3 al, .inr h3.1, bl⟩⟩
  exact hK2
 case done =>
  intro x w6 hR2 hG hDD fr hfr
  obtain ⟨us, lo, hi, q, a7, a8, hlo, hBq, hI6, hdis, hblk⟩ := hDD
  obtain ⟨en', A1, A2, A3, n1, c1, n2, c2, n3, c3, hus⟩ := ob_five2 hI6.ob
  have hkd : (Ob.mk 8 n b l (insE lenL (numO nb) d)).kind = 8 := rfl
  rw [hkd] at hus
  subst hus
  simp only [fillL] at hfr
  rw [a7, a8] at hfr
  subst hfr
  clear hG a7 a8 g0 g1 g2 g3 g4 g5
  have v0 := hblk.frozen 0
  have v1 := hblk.frozen 1
  have v2 := hblk.frozen 2
  have v3 := hblk.frozen 3
  have v4 := hblk.frozen 4
  have y0 := hblk.cell 0
  have y1 := hblk.cell 1
  have y2 := hblk.cell 2
  have y3 := hblk.cell 3
  have y4 := hblk.cell 4
  have z56 := hR2.size
  have zq := hblk.lt
  replace hblk := hi_ hblk
  replace hI6 := hi_ hI6
  replace hR2 := hi_ hR2
  replace hdis := hi_ hdis
  go_upto_region 7 with (fail)
  obtain ⟨Wf, hWf⟩ : ∃ W, W = ((((w6.setCell ⟨q, 0, none⟩ (.int .i64 8)).setCell ⟨q, 1, none⟩ (.int .i64 en')).setCell ⟨q, 2, none⟩ (.slice A1 n1 c1)).setCell ⟨q, 3, none⟩ (.slice A2 n2 c2)).setCell ⟨q, 4, none⟩ (.slice A3 n3 c3) := ⟨_, rfl⟩
  rw [← hWf]
  obtain ⟨hbf, hgf, hzf⟩ := set_five hblk.out hWf
  clear v0 v1 v2 v3 v4 y0 y1 y2 y3 y4
  have y0 := hbf.cell 0
  have y1 := hbf.cell 1
  have y2 := hbf.cell 2
  have y3 := hbf.cell 3
  have y4 := hbf.cell 4
  have hIt := hI6.out.1
  have hBf : Below W5.heap.size W5 Wf := hR2.out.grown hgf (by omega) (fun r hr => by injection hr with hr; omega)
  have hIf : ObAt Wf (.mk 8 n b l (insE lenL (numO nb) d)) [.int .i64 8, .int .i64 en', .slice A1 n1 c1, .slice A2 n2 c2, .slice A3 n3 c3] :=
   (hI6.out.keep (fun r h1 h2 => hgf.block r (by omega) (fun e => by injection e with e; rcases hdis.out with h | h <;> omega)) (by omega)).ob
  have hDf := bthen hD5.out hBf
  have c32 := ref_dict 1048576 (Nat.le_refl _) (rshow_all 1048576 (Nat.le_refl _)) 8 (.inr rfl) n b l (insE lenL (numO nb) d) _ Wf hIf (by rw [hnb.out]; exact zd2.out)
  have eD : 60 :: 60 :: (showD (insE lenL (numO nb) d) ++ [62, 62]) = D := by rw [hnb.out]; exact hD.out.symm
  rw [eD] at c32
  have hO5f := hO5.out.below hBf
  clear eD
  replace hIf := hi_ hIf
  replace hDf := hi_ hDf
  replace hBf := hi_ hBf
  replace hWf := hi_ hWf
  obtain ⟨g0, g1, g2, g3, g4, g5⟩ := six_kept gs.out hDf.out
  replace hO5f := hi_ hO5f
  replace hbf := hi_ hbf
  replace hgf := hi_ hgf
  go_wp2_with (first
   | (go_at_call 32; (with_reducible refine c32.mono ?_); rintro e w7 ⟨A7, c7, rfl, hb7, hA7, hB7⟩; have hO7 := hO5f.out.below hB7; have hD7 : Below W1.heap.size W1 w7 := bthen hDf.out hB7; have tok := hD7.size; replace hD7 := hi_ hD7; replace hB7 := hi_ hB7; replace hb7 := hi_ hb7; replace hA7 := hi_ hA7; replace hO7 := hi_ hO7; clear c32)
   | (at_builtin; refine app_m rfl _ _ rfl W1.heap.size v5 H rfl hO7.out A7 _ c7 D rfl rfl hb7.out hA7.out (by omega) tok ?_; intro v8 w8 hO8 hB8; have hD8 : Below W1.heap.size W1 w8 := hD7.out.trans hB8; replace hB8 := hi_ hB8; replace hO8 := hi_ hO8; clear tok; have tok2 := hD8.size; replace hD8 := hi_ hD8)
   | (at_builtin; refine app_ms rfl _ _ rfl W1.heap.size v8 (H ++ D) rfl hO8.out ⟨#[10, 115, 116, 114, 101, 97, 109, 10]⟩ strmL rfl rfl (by simp only [List.length_append, strmL, List.length_cons, List.length_nil]; omega) tok2 ?_; intro v9 w9 hO9 hB9; have hD9 : Below W1.heap.size W1 w9 := hD8.out.trans hB9; obtain ⟨g0, g1, g2, g3, g4, g5⟩ := six_kept gs.out hD9; have hb9 := hbw.out w9 hD9; replace hB9 := hi_ hB9; replace hO9 := hi_ hO9; clear tok2; have tok3 := hD9.size; replace hD9 := hi_ hD9; replace hb9 := hi_ hb9)
   | (at_builtin; refine app_m rfl _ _ rfl W1.heap.size v9 ((H ++ D) ++ strmL) rfl hO9.out E1 _ ec1 b rfl hnb.out hb9.out hE1.out (by have := hnb.out; simp only [List.length_append, strmL, List.length_cons, List.length_nil]; omega) tok3 ?_; intro v10 w10 hO10 hB10; have hD10 : Below W1.heap.size W1 w10 := hD9.out.trans hB10; replace hB10 := hi_ hB10; replace hO10 := hi_ hO10; clear tok3; have tok4 := hD10.size; replace hD10 := hi_ hD10)
   | (at_builtin; refine app_ms rfl _ _ rfl W1.heap.size v10 (((H ++ D) ++ strmL) ++ b) rfl hO10.out ⟨#[10, 101, 110, 100, 115, 116, 114, 101, 97, 109]⟩ endsL rfl rfl (by have := hnb.out; simp only [List.length_append, strmL, endsL, List.length_cons, List.length_nil]; omega) tok4 ?_; intro v11 w11 hO11 hB11; have hD11 : Below W1.heap.size W1 w11 := hD10.out.trans hB11; replace hB11 := hi_ hB11; replace hO11 := hi_ hO11; clear tok4; have tok5 := hD11.size; replace hD11 := hi_ hD11)
   | (at_builtin; refine app_ms rfl _ _ rfl W1.heap.size v11 ((((H ++ D) ++ strmL) ++ b) ++ endsL) rfl hO11.out ⟨#[10, 101, 110, 100, 111, 98, 106, 10]⟩ endoL rfl rfl (by have := hnb.out; simp only [List.length_append, strmL, endsL, endoL, List.length_cons, List.length_nil]; omega) tok5 ?_; intro v12 w12 hO12 hB12; have hD12 : Below W1.heap.size W1 w12 := hD11.out.trans hB12; replace hB12 := hi_ hB12; replace hO12 := hi_ hO12; clear tok5; replace hD12 := hi_ hD12))
  go_ret2
  exact hfin.out _ _ hO12.out (bthen hb1.out hD12.out)

/- Is there room: some answer, and nothing changes. No condition. -/
def RoomC (N : Nat) : Prop := ∀ (o : Ob) (vs : List Value) (w : World) (dep : Int), ObAt w o vs → o.bulk ≤ N → -1 ≤ dep → dep ≤ 100 → Calls Tryz.prog 8 #[.agg vs.toArray, .int .i64 dep, .int .i64 60] w fun e w' => ∃ b, e = .returned (.bool b) ∧ Below w.heap.size w w'
set_option maxHeartbeats 8000000 in
set_option maxRecDepth 100000 in
theorem room_step (N : Nat) (hN : N + 1 ≤ 1048576) (ih : RoomC N) : RoomC (N + 1) := by
 intro o vs w dep h hbk hd1 hd2
 cases h with
 | mk k n b l d A AL AD c cL cD gL oL gD oD vl vd h1 h2 h3 h4 h5 h6 h7 h8 h9 h10 h11 hAL hl hlv hAD hdo hdk hdv =>
 have zk : b.length + bulkL l + bulkD d + 1 ≤ N + 1 := hbk
 have zl := bulkL_len l
 have zd := bulkD_len d
 have zlk := fun i hi => bulkL_at l i hi
 have zdk := fun i hi => bulkD_at d i hi
 obtain ⟨m1, hm1⟩ : ∃ m, m = b.length := ⟨_, rfl⟩
 obtain ⟨m2, hm2⟩ : ∃ m, m = l.length := ⟨_, rfl⟩
 obtain ⟨m3, hm3⟩ : ∃ m, m = d.length := ⟨_, rfl⟩
 rw [← hm1] at zk ⊢
 rw [← hm2] at zl ⊢
 rw [← hm3] at zd ⊢
 have zb1 : m1 ≤ 1048576 := by omega
 have zl1 : m2 ≤ 1048576 := by omega
 have zd1 : m3 ≤ 1048576 := by omega
 obtain ⟨W1, hW1⟩ : ∃ W, W = w.alloc (.cells #[.int .i64 k, .int .i64 n, .slice A m1 c, .slice AL m2 cL, .slice AD m3 cD] 26) := ⟨_, rfl⟩
 have hb1 : Below w.heap.size w W1 := by rw [hW1]; exact (Below.refl _ _).alloc (Nat.le_refl _) _
 have f := five_cells hW1
 obtain ⟨f0, f1, f2, f3, f4⟩ := id f
 clear h1 h2 h3 h4 h5 h6 h7 h8 h9 h10 h11 hbk
 replace hm1 := hi_ hm1
 replace hm2 := hi_ hm2
 replace hm3 := hi_ hm3
 replace hAL := hi_ hAL
 replace hl := hi_ hl
 replace hlv := hi_ hlv
 replace hAD := hi_ hAD
 replace hdo := hi_ hdo
 replace hdk := hi_ hdk
 replace hdv := hi_ hdv
 replace zlk := hi_ zlk
 replace zdk := hi_ zdk
 replace ih := hi_ ih
 replace hb1 := hi_ hb1
 replace f := hi_ f
 obtain ⟨p1, q1⟩ : ∃ z, decide (dep < 0) = z := ⟨_, rfl⟩
 obtain ⟨p2, q2⟩ : ∃ z, decide ((3000 : Int) < (m1 : Int)) = z := ⟨_, rfl⟩
 obtain ⟨p3, q3⟩ : ∃ z, decide ((60 : Int) < (m2 : Int) + (m3 : Int)) = z := ⟨_, rfl⟩
 go_enter Tryz.func8, Tryz.ntmps8
 go_upto_region 1 with (fail)
 rw [← hW1]
 replace hW1 := hi_ hW1
 cases p1 with
 | true =>
  go_wp2
  go_ret
  exact ⟨_, rfl, hb1.out⟩
 | false =>
 have hd0 : 0 ≤ dep := by have := of_decide_eq_false q1; omega
 cases p2 with
 | true =>
  go_wp2
  go_ret
  exact ⟨_, rfl, hb1.out⟩
 | false =>
 cases p3 with
 | true =>
  go_wp2
  go_ret
  exact ⟨_, rfl, hb1.out⟩
 | false =>
 go_wp2
 clear q1 q2 q3
 go_loopw [7] (fun s7 wr => ∃ k : Nat, k ≤ m2 ∧ s7 = .int .i64 k ∧ Below W1.heap.size W1 wr) (fun s7 _ => m2 - (RowKit.intOf s7).toNat)
 case atStart => exact ⟨0, by omega, rfl, Below.refl _ _⟩
 case round =>
  obtain ⟨i, hi, rfl, hB⟩ := hrel
  obtain ⟨g0, g1, g2, g3, g4⟩ := five_kept f.out hB
  by_cases him : i < m2
  ·have hil : i < l.length := by rw [← hm2.out]; exact him
   have hAe := hAL.out (by omega)
   subst hAe
   have hbw : Below w.heap.size w wr := bthen hb1.out hB
   have hob := (hl.out i hil).kept hbw
   have hzi := zlk.out i hil
   obtain ⟨us, hus⟩ : ∃ us, us = vl i := ⟨_, rfl⟩
   have hcv := hlv.out i hil
   rw [← hus] at hob hcv
   obtain ⟨en, E1, E2, E3, en1, ec1, en2, ec2, en3, ec3, hys⟩ := ob_five2 hob
   obtain ⟨kk, hkk⟩ : ∃ k, k = l[i].kind := ⟨_, rfl⟩
   rw [← hkk] at hys
   subst hys
   have five : ∀ j u, [Value.int .i64 kk, .int .i64 en, .slice E1 en1 ec1, .slice E2 en2 ec2, .slice E3 en3 ec3][j]? = some u → wr.cell? ⟨gL, oL + i * 5 + j, none⟩ = some u := fun j u hj => by
    have h0 := hcv j (by have := (List.getElem?_eq_some_iff.1 hj).1; simpa using this)
    rw [hj] at h0
    have h1 := (hbw.cell (cell_lt h0)).trans h0
    rw [show oL + (5 * i + j) = oL + i * 5 + j by omega] at h1
    exact h1
   have x0 : wr.cell? ⟨gL, oL + i * 5, none⟩ = some (.int .i64 kk) := five 0 _ rfl
   have x1 := five 1 _ rfl
   have x2 := five 2 _ rfl
   have x3 := five 3 _ rfl
   have x4 := five 4 _ rfl
   have cr := ih.out l[i] _ wr (dep - 1) hob (by omega) (by omega) (by omega)
   clear five hcv hob hus hkk
   replace hB := hi_ hB
   replace hbw := hi_ hbw
   have lB := hB.out.size
   go_wp2_with (go_at_call 8; (with_reducible refine cr.mono ?_); rintro e w2 ⟨bb, rfl, hB2⟩; replace hB2 := hi_ hB2; cases bb)
   ·go_ret
    exact ⟨_, rfl, bthen hbw.out hB2.out⟩
   ·go_roundw
    case rel => exact ⟨i + 1, by omega, by go_num, hB.out.trans (hB2.out.mono lB)⟩
    case measure => simp [RowKit.intOf]; omega
  ·obtain rfl : i = m2 := by omega
   have bB := bthen hb1.out hB
   replace hB := hi_ hB
   replace bB := hi_ bB
   have lB := hB.out.size
   go_wp2
   go_loopw [8] (fun s8 wr => ∃ k : Nat, k ≤ m3 ∧ s8 = .int .i64 k ∧ Below W1.heap.size W1 wr) (fun s8 _ => m3 - (RowKit.intOf s8).toNat)
   case atStart => exact ⟨0, by omega, rfl, hB.out⟩
   case round =>
    obtain ⟨j, hj, rfl, hC⟩ := hrel
    obtain ⟨y0, y1, y2, y3, y4⟩ := five_kept f.out hC
    clear g0 g1 g2 g3 g4
    by_cases hjm : j < m3
    ·have hjl : j < d.length := by rw [← hm3.out]; exact hjm
     have hAe := hAD.out (by omega)
     subst hAe
     have hcw : Below w.heap.size w wr := bthen hb1.out hC
     have hob := (hdo.out j hjl).kept hcw
     have hzj := zdk.out j hjl
     have hkk0 := (hdk.out j hjl).2
     have hcv := hdv.out j hjl
     obtain ⟨us, hus⟩ : ∃ us, us = vd j := ⟨_, rfl⟩
     rw [← hus] at hob hcv
     obtain ⟨en, E1, E2, E3, en1, ec1, en2, ec2, en3, ec3, hys⟩ := ob_five2 hob
     obtain ⟨kk, hkk⟩ : ∃ k, k = d[j].2.kind := ⟨_, rfl⟩
     rw [← hkk] at hys
     subst hys
     obtain ⟨K, hK⟩ : ∃ K, K = bytes d[j].1 := ⟨_, rfl⟩
     have zK : K.size ≤ 1048576 := by rw [hK, bytes_size]; omega
     have x0 : wr.cell? ⟨gD, oD + j * 6, none⟩ = some (.string K) := by
      have h1 := (hcw.cell (cell_lt hkk0)).trans hkk0
      rw [Nat.mul_comm] at h1
      rw [h1, hK]; rfl
     have five : ∀ q u, [Value.int .i64 kk, .int .i64 en, .slice E1 en1 ec1, .slice E2 en2 ec2, .slice E3 en3 ec3][q]? = some u → wr.cell? ⟨gD, oD + j * 6 + 1 + q, none⟩ = some u := fun q u hq => by
      have h0 := hcv q (by have := (List.getElem?_eq_some_iff.1 hq).1; simpa using this)
      rw [hq] at h0
      have h1 := (hcw.cell (cell_lt h0)).trans h0
      rw [show oD + (6 * j + 1 + q) = oD + j * 6 + 1 + q by omega] at h1
      exact h1
     have x1 : wr.cell? ⟨gD, oD + j * 6 + 1, none⟩ = some (.int .i64 kk) := five 0 _ rfl
     have x2 : wr.cell? ⟨gD, oD + j * 6 + 2, none⟩ = some (.int .i64 en) := five 1 _ rfl
     have x3 : wr.cell? ⟨gD, oD + j * 6 + 3, none⟩ = some (.slice E1 en1 ec1) := five 2 _ rfl
     have x4 : wr.cell? ⟨gD, oD + j * 6 + 4, none⟩ = some (.slice E2 en2 ec2) := five 3 _ rfl
     have x5 : wr.cell? ⟨gD, oD + j * 6 + 5, none⟩ = some (.slice E3 en3 ec3) := five 4 _ rfl
     have cr := ih.out d[j].2 _ wr (dep - 1) hob (by omega) (by omega) (by omega)
     clear five hcv hob hus hkk hkk0
     replace hK := hi_ hK
     replace hC := hi_ hC
     replace hcw := hi_ hcw
     have lC := hC.out.size
     obtain ⟨p4, q4⟩ : ∃ z, decide ((300 : Int) < (K.size : Int)) = z := ⟨_, rfl⟩
     cases p4 with
     | true =>
      go_wp2
      go_ret
      first | exact ⟨_, rfl, hcw.out⟩ | exact ⟨.inl rfl, hcw.out⟩ | exact .inl ⟨rfl, hcw.out⟩
     | false =>
      go_wp2_with (go_at_call 8; (with_reducible refine cr.mono ?_); rintro e w2 ⟨bb, rfl, hB2⟩; replace hB2 := hi_ hB2; cases bb)
      ·go_ret
       exact ⟨_, rfl, bthen hcw.out hB2.out⟩
      ·go_roundw
       case rel => exact ⟨j + 1, by omega, by go_num, hC.out.trans (hB2.out.mono lC)⟩
       case measure => simp [RowKit.intOf]; omega
    ·obtain rfl : j = m3 := by omega
     have bC := bthen hb1.out hC
     replace hC := hi_ hC
     replace bC := hi_ bC
     go_wp2
     go_ret
     exact ⟨_, rfl, bC.out⟩
theorem room_all : ∀ N, N ≤ 1048576 → RoomC N
 | 0, _ => fun o vs w dep _ h _ _ => by have := bulk_pos o; omega
 | N + 1, h => room_step N h (room_all N (by omega))

/- The law of PrintValues. No condition. -/
end Go.Proofs.YthacnnmlephkhaaGreatDoor

/- The arguments of PrintValues opened. No condition. -/
namespace Go.Proofs.YthacnnmlephkhaaGreatDoor
open Go Go.RowKit Go.Wk Go.WideShapes
theorem laid_tail {P : Program} {w : World} {x : String × DataW Unit} {l : List (String × DataW Unit)} (h : laidMet P (x :: l) w) : laidMet P l w := by
 obtain ⟨ps, ⟨g, t, cs, fuel, p, q, _, _, _, _, hq, hp⟩, hnd, hc⟩ := h
 subst hp
 exact ⟨q, hq, (List.nodup_append.1 hnd).2.1, fun b off h => hc b off (List.mem_append_right _ h)⟩
theorem tab_of {W : World} {a b : String × DataW Unit} {rest : List (String × DataW Unit)} (h : laidMet Tryz.prog (a :: b :: ("internal/strconv.uint64pow10", Rows.laid_internal_strconv_uint64pow10) :: rest) W) : Tab W := by
 have h3 := laid_tail (laid_tail h)
 have e : (Rows.laid_internal_strconv_uint64pow10 : DataW Unit) = Lib.tabData .u64 Lib.pow10Tab := by kernel_rfl
 rw [e] at h3
 exact Lib.tabIs_of_head (g := 1) (t := 153) (e := 88) (n := 20) (by kernel_rfl) (by kernel_rfl) Tryz.underlying153 Tryz.underlying88 (by kernel_rfl) (by kernel_rfl) h3
theorem obty : ObTy Tryz.prog 26 53 22 23 24 3 2 9 5 where
 o := ⟨_, Tryz.underlying26, rfl⟩
 e := ⟨_, Tryz.underlying53, rfl⟩
 b := Tryz.underlying22
 u := Tryz.underlying5
 l := Tryz.underlying23
 d := Tryz.underlying24
 i := Tryz.underlying3
 n := Tryz.underlying2
 s := Tryz.underlying9
 co := by kernel_rfl
 ce := by kernel_rfl
 cb := by kernel_rfl
 cl := by kernel_rfl
 cd := by kernel_rfl
 ci := by kernel_rfl
 cn := by kernel_rfl
 cs := by kernel_rfl
 cu := by kernel_rfl
theorem bulk_law {H : Type} : BulkLaw (H := H) Rows.uptoBulk Rows.uptoBulkAll where
 pos d := by
  cases d with
  | lit l => cases l <;> simp [Rows.uptoBulk]
  | nil => simp [Rows.uptoBulk]
  | ptr d => simp [Rows.uptoBulk]
  | slice elems spare => simp [Rows.uptoBulk]
  | agg parts => simp [Rows.uptoBulk]
  | iface t d => simp [Rows.uptoBulk]
  | map entries => simp [Rows.uptoBulk]
  | held h => simp [Rows.uptoBulk]
 str b := by simp [Rows.uptoBulk]
 slice e s := by simp [Rows.uptoBulk]
 agg p := by simp [Rows.uptoBulk]
 nil := by simp [Rows.uptoBulkAll]
 cons d r := by simp [Rows.uptoBulkAll]
set_option maxRecDepth 100000 in
theorem small_one {H : Type} {d : DataW H} (h : Rows.uptoSmall H [d] = true) : Rows.uptoBulk d ≤ 1048576 := by
 have h : Rows.uptoBulkAll [d] ≤ 1048576 := of_decide_eq_true h
 simp only [Rows.uptoBulkAll] at h
 omega
end Go.Proofs.YthacnnmlephkhaaGreatDoor

/- The law of PrintItems. No condition. -/
namespace Go.Proofs.YthacnnmlephkhaaGreatDoor
open Go Go.RowKit Go.Wk
theorem prt_Item (num : Int) (hn : i64 num) (o : Ob) (vs : List Value) (w : World) (h : ObAt w o vs) (hbk : o.bulk ≤ 1048569) (hT : Tab w) : Calls Tryz.prog 17 #[.agg (List.toArray (.int .i64 num :: vs))] w (VI w num o) := by
 by_cases hg : itemB num o = true
 ·by_cases h8 : o.kind = 8
  ·cases o with
   | mk k n b l d =>
    have h8 : k = 8 := h8
    subst h8
    exact item_str num hn n b l d vs w h hbk hT hg
  ·exact item_obj num hn o vs w h (by omega) hT hg h8
 ·exact item_no num hn o vs w h (by omega) (by simpa using hg)
theorem ref_PrintItem (num : Int) (hn : i64 num) (o : Ob) (vs : List Value) (w : World) (h : ObAt w o vs) (hbk : o.bulk ≤ 1048569) : Calls Tryz.prog 18 #[.agg (List.toArray (.int .i64 num :: vs))] w (VI w num o) := by
 by_cases hg : itemB num o = true
 ·by_cases h8 : o.kind = 8
  ·cases o with
   | mk k n b l d =>
    have h8 : k = 8 := h8
    subst h8
    exact ritem_str num hn n b l d vs w h hbk hg
  ·exact ritem_obj num hn o vs w h (by omega) hg h8
 ·exact ritem_no num hn o vs w h (by omega) (by simpa using hg)
set_option maxHeartbeats 8000000 in
set_option maxRecDepth 100000 in
theorem items_law (w : World) (hT : Tab w) (haw : ∀ W, Below w.heap.size w W → Calls Tryz.prog 7 #[] W fun e w' => e = .returned (.bool true) ∧ Below W.heap.size W w') (num : Int) (hn : i64 num) (o : Ob) (vs : List Value) (hob : ObAt w o vs) (hbk : o.bulk ≤ 1048569) :
 Calls Tryz.prog 5 #[.agg (List.toArray (.int .i64 num :: vs))] w fun e w' => e = .returned (.bool true) ∧ Below w.heap.size w w' := by
 obtain ⟨en, E1, E2, E3, en1, ec1, en2, ec2, en3, ec3, hys⟩ := ob_five2 hob
 obtain ⟨k, hk⟩ : ∃ k, k = o.kind := ⟨_, rfl⟩
 rw [← hk] at hys
 subst hys
 obtain ⟨W1, hW1⟩ : ∃ W, W = w.alloc (.cells #[.int .i64 num, .int .i64 k, .int .i64 en, .slice E1 en1 ec1, .slice E2 en2 ec2, .slice E3 en3 ec3] 41) := ⟨_, rfl⟩
 have hb1 : Below w.heap.size w W1 := by rw [hW1]; exact (Below.refl _ _).alloc (Nat.le_refl _) _
 have gs := six_cells41 hW1
 have c7 := haw W1 hb1
 have c8 := fun W (hW : Below W1.heap.size W1 W) => room_all 1048576 (Nat.le_refl _) o _ W 40 (hob.kept (bthen hb1 hW)) (by omega) (by omega) (by omega)
 obtain ⟨S, hS⟩ : ∃ S, S = itmS num o := ⟨_, rfl⟩
 obtain ⟨z, hz⟩ : ∃ z, z = itmZ num o := ⟨_, rfl⟩
 have zS : S.length ≤ 51000000 := by rw [hS]; exact itmS_len num hn o hob.fits (by omega)
 have c17 := fun W (hW : Below W1.heap.size W1 W) => prt_Item num hn o _ W (hob.kept (bthen hb1 hW)) hbk (hT.below (bthen hb1 hW))
 have c18 := fun W (hW : Below W1.heap.size W1 W) => ref_PrintItem num hn o _ W (hob.kept (bthen hb1 hW)) hbk
 unfold VI at c17 c18
 rw [← hS, ← hz] at c17 c18
 replace hb1 := hi_ hb1
 replace gs := hi_ gs
 replace c8 := hi_ c8
 replace c17 := hi_ c17
 replace c18 := hi_ c18
 replace hS := hi_ hS
 replace hz := hi_ hz
 replace hn := hi_ hn
 clear hob hbk haw hT hk
 go_enter Tryz.func5, Tryz.ntmps5
 go_upto_region 1 with (fail)
 rw [← hW1]
 replace hW1 := hi_ hW1
 go_wp2_with (first
  | (go_at_call 7; (with_reducible refine c7.mono ?_); rintro e w2 ⟨rfl, hB2⟩; obtain ⟨g0, g1, g2, g3, g4, g5⟩ := six_kept gs.out hB2; have c8' := c8.out w2 hB2; replace hB2 := hi_ hB2)
  | (go_at_call 8; (with_reducible refine c8'.mono ?_); rintro e w3 ⟨bb, rfl, hB3⟩; have hD3 := bthen hB2.out hB3; obtain ⟨g0, g1, g2, g3, g4, g5⟩ := six_kept gs.out hD3; have c17' := c17.out w3 hD3; replace hD3 := hi_ hD3; replace hB3 := hi_ hB3; cases bb)
  | (go_at_call 17; (with_reducible refine c17'.mono ?_); rintro e w4 ⟨A1, c1, rfl, hb4, hB4⟩; have hD4 := bthen hD3.out hB4; obtain ⟨g0, g1, g2, g3, g4, g5⟩ := six_kept gs.out hD4; have c18' := c18.out w4 hD4; replace hD4 := hi_ hD4; replace hB4 := hi_ hB4; replace hb4 := hi_ hb4)
  | (go_at_call 18; (with_reducible refine c18'.mono ?_); rintro e w5 ⟨A2, c2, rfl, hb5, hB5⟩; have hD5 := bthen hD4.out hB5; have hb45 := hb4.out.below hB5; have cs := ref_Same A1 A2 c1 c2 S S w5 hb45 hb5 (by omega) (by omega); replace hD5 := hi_ hD5; replace hB5 := hi_ hB5; replace hb5 := hi_ hb5; clear hb45)
  | (go_at_call 11; (with_reducible refine cs.mono ?_); rintro e w6 ⟨rfl, hB6⟩; replace hB6 := hi_ hB6))
 ·go_ret
  exact ⟨rfl, bthen hb1.out hD3.out⟩
 ·go_ret
  exact ⟨by simp, bthen hb1.out (bthen hD5.out hB6.out)⟩
end Go.Proofs.YthacnnmlephkhaaGreatDoor

/- An object opened, with room to spare in its bulk. No condition. -/
namespace Go.Wk
open Go Go.RowKit
section
variable {H : Type} {enc : TypeId × Value → H} {P : Program} {w : World} {base : Nat} {sp : Nat → Bool} {held : Bool}
theorem byt_bulk1 {B : DataW H → Nat} {BA : List (DataW H) → Nat} (M : BulkLaw B BA) {tB u8 : TypeId} (hb : P.underlying tB = some (.slice u8)) {fuel : Nat} {A : Option Addr} {len c : Nat} {x : DataW H × List MemPlace} (h : DataW.trod enc P w base sp held fuel tB [.slice A len c] = some x) : len + 1 ≤ B x.1 := by
 rcases DataW.trod_slice hb h with ⟨e, _⟩ | ⟨a, len', cap, elems, rest, n', rfl, e, rfl, _, _, _, hlen, _⟩
 ·injection e with e; injection e with _ e _
  have := M.pos x.1
  omega
 ·injection e with e
  injection e with _ e _
  rw [M.slice]
  have := M.len (elems.map (·.1))
  simp at this
  omega
theorem open_obj5 {B : DataW H → Nat} {BA : List (DataW H) → Nat} (M : BulkLaw B BA) {tO tE tB tL tD tI tN tS u8 : TypeId} (T : ObTy P tO tE tB tL tD tI tN tS u8) : ∀ (fuel : Nat) (cs : List Value) (x : DataW H × List MemPlace), DataW.trod enc P w base sp held fuel tO cs = some x → ∃ o, ObAt w o cs ∧ o.bulk + 5 ≤ B x.1 := by
 intro fuel
 induction fuel using Nat.strongRecOn with
 | _ fuel ih =>
  intro cs x h
  obtain ⟨fs, hfs, hfl⟩ := T.o
  obtain ⟨xs, n, rfl, ex, hcl, hxl, hF⟩ := DataW.trod_struct hfs h
  have hsz : fs.size = 5 := by have := congrArg List.length hfl; simpa using this
  rw [T.co] at hcl
  have fld : ∀ i t o, [(tI, 0), (tN, 1), (tB, 2), (tL, 3), (tD, 4)][i]? = some (t, o) → ∃ y, DataW.trod enc P w base sp held n t ((cs.drop o).take (P.cellsOf t)) = some y := fun i t o hi => by
   obtain ⟨f, hf, rfl, rfl⟩ := fields_at hfl hi
   have hil : i < xs.length := by
    have := (Array.getElem?_eq_some_iff.1 hf).1; omega
   exact ⟨_, (hF i f hf).trans (List.getElem?_eq_getElem hil)⟩
  match cs, hcl with
  | [c0, c1, c2, c3, c4], _ =>
   obtain ⟨y0, z0⟩ := fld 0 tI 0 rfl
   obtain ⟨y1, z1⟩ := fld 1 tN 1 rfl
   obtain ⟨y2, z2⟩ := fld 2 tB 2 rfl
   obtain ⟨y3, z3⟩ := fld 3 tL 3 rfl
   obtain ⟨y4, z4⟩ := fld 4 tD 4 rfl
   rw [T.ci] at z0
   rw [T.cn] at z1
   rw [T.cb] at z2
   rw [T.cl] at z3
   rw [T.cd] at z4
   obtain ⟨k, e0, _, w0⟩ := DataW.trod_int T.i (show DataW.trod enc P w base sp held n tI [c0] = some y0 from z0)
   obtain ⟨m, e1, _, w1⟩ := DataW.trod_int T.n (show DataW.trod enc P w base sp held n tN [c1] = some y1 from z1)
   obtain ⟨A, c, bs, e2, hB, hBn, hBl⟩ := open_byt T.b T.u T.cu (show DataW.trod enc P w base sp held n tB [c2] = some y2 from z2)
   injection e0 with e0
   injection e1 with e1
   injection e2 with e2
   subst e0 e1 e2
   have z3 : DataW.trod enc P w base sp held n tL [c3] = some y3 := z3
   have z4 : DataW.trod enc P w base sp held n tD [c4] = some y4 := z4
   have z2 : DataW.trod enc P w base sp held n tB [Value.slice A bs.length c] = some y2 := z2
   have b2 := byt_bulk1 M T.b z2
   have fx : ∀ i t o y, [(tI, 0), (tN, 1), (tB, 2), (tL, 3), (tD, 4)][i]? = some (t, o) → DataW.trod enc P w base sp held n t ((([Value.int .i64 k, .int .i64 m, .slice A bs.length c, c3, c4] : List Value).drop o).take (P.cellsOf t)) = some y → xs[i]? = some y := fun i t o y hi hy => by
    obtain ⟨f, hf, rfl, rfl⟩ := fields_at hfl hi
    rw [← hF i f hf]; exact hy
   have X2 := fx 2 tB 2 y2 rfl (by rw [T.cb]; exact z2)
   have X3 := fx 3 tL 3 y3 rfl (by rw [T.cl]; exact z3)
   have X4 := fx 4 tD 4 y4 rfl (by rw [T.cd]; exact z4)
   have hbulk : B y2.1 + B y3.1 + B y4.1 + 3 ≤ B (.agg (xs.map (·.1))) := by
    rw [M.agg]
    have hl5 : xs.length = 5 := by omega
    match xs, hl5 with
    | [x0, x1, x2, x3, x4], _ =>
     simp at X2 X3 X4
     subst X2 X3 X4
     have := M.pos x0.1
     have := M.pos x1.1
     simp only [List.map_cons, List.map_nil, M.cons, M.nil]
     omega
   -- the items
   have items : ∃ (l : List Ob) (AL : Option Addr) (cL gL oL : Nat) (vl : Nat → List Value), c3 = .slice AL l.length cL ∧ l.length ≤ cL ∧ l.length ≤ maxLen ∧ (0 < l.length → AL = some ⟨gL, oL, none⟩) ∧ (∀ i, (hi : i < l.length) → ObAt w l[i] (vl i)) ∧ (∀ i, i < l.length → ∀ j, j < 5 → w.cell? ⟨gL, oL + (5 * i + j), none⟩ = (vl i)[j]?) ∧ bulkL l + 1 ≤ B y3.1 := by
    rcases DataW.trod_slice T.l z3 with ⟨e3, _⟩ | ⟨a, len, cap, elems, rest, n', rfl, e3, ey, hb, hlc, hcm, hlen, hel, _⟩
    ·injection e3 with e3
     exact ⟨[], none, 0, 0, 0, fun _ => [], e3, Nat.le_refl _, Nat.zero_le _, fun h => by simp at h, fun i hi => by simp at hi, fun i hi => by simp at hi, by simpa [bulkL] using M.pos y3.1⟩
    ·injection e3 with e3
     have each : ∀ i, i < len → ∃ p : Ob × List Value, ObAt w p.1 p.2 ∧ (∃ h : i < elems.length, p.1.bulk ≤ B elems[i].1) ∧ ∀ j, j < 5 → w.cell? (a.add (5 * i + j)) = p.2[j]? := fun i hi => by
      obtain ⟨cs, x, hc5, hx, ht, hj⟩ := rows_at T.co hlen hel i hi
      obtain ⟨o, ho, hob⟩ := ih n' (by omega) cs x ht
      obtain ⟨hil, rfl⟩ := List.getElem?_eq_some_iff.1 hx
      exact ⟨(o, cs), ho, ⟨hil, Nat.le_of_add_right_le hob⟩, hj⟩
     obtain ⟨ps, hps, hp⟩ := list_of each
     obtain ⟨g, o, spot⟩ := a
     refine ⟨ps.map (·.1), some ⟨g, o, spot⟩, cap, g, o, fun i => (ps.map (·.2)).getD i [], by rw [e3, List.length_map, hps], by rw [List.length_map]; omega, by rw [List.length_map]; omega, fun h0 => ?_, fun i hi => ?_, fun i hi j hj => ?_, ?_⟩
     ·rw [List.length_map] at h0
      have h1 := (hp 0 h0).2.2 0 (by omega)
      have h5 := (hp 0 h0).1.five
      rw [List.getElem?_eq_getElem (by omega)] at h1
      have hspot : spot = none := by simpa [Addr.add] using World.cell?_spot h1
      rw [hspot]
     ·rw [List.length_map] at hi
      have := (hp i hi).1
      simp only [List.getElem_map]
      rw [List.getD_eq_getElem?_getD, List.getElem?_map, List.getElem?_eq_getElem hi]
      exact this
     ·rw [List.length_map] at hi
      have h1 := (hp i hi).2.2 j hj
      have hspot : spot = none := by
       have h2 := (hp 0 (by omega)).2.2 0 (by omega)
       have h5 := (hp 0 (by omega)).1.five
       rw [List.getElem?_eq_getElem (by omega)] at h2
       simpa [Addr.add] using World.cell?_spot h2
      subst hspot
      rw [add_none] at h1
      show _ = ((ps.map (·.2)).getD i [])[j]?
      rw [List.getD_eq_getElem?_getD, List.getElem?_map, List.getElem?_eq_getElem hi]
      exact h1
     ·rw [ey, M.slice]
      have := M.sumL (ps.map (·.1)) (elems.map (·.1)) (by simp; omega) fun i h1 h2 => by
       simp only [List.getElem_map]
       exact (hp i (by simpa using h1)).2.1.2
      show bulkL _ + 1 ≤ BA (elems.map (·.1)) + _ + 1
      omega
   -- the entries
   have entries : ∃ (d : List (List UInt8 × Ob)) (AD : Option Addr) (cD gD oD : Nat) (vd : Nat → List Value), c4 = .slice AD d.length cD ∧ d.length ≤ cD ∧ d.length ≤ maxLen ∧ (0 < d.length → AD = some ⟨gD, oD, none⟩) ∧ (∀ i, (hi : i < d.length) → ObAt w d[i].2 (vd i)) ∧ (∀ i, (hi : i < d.length) → d[i].1.length ≤ maxLen ∧ w.cell? ⟨gD, oD + 6 * i, none⟩ = some (strV d[i].1)) ∧ (∀ i, i < d.length → ∀ j, j < 5 → w.cell? ⟨gD, oD + (6 * i + 1 + j), none⟩ = (vd i)[j]?) ∧ bulkD d + 1 ≤ B y4.1 := by
    rcases DataW.trod_slice T.d z4 with ⟨e4, _⟩ | ⟨a, len, cap, elems, rest, n', rfl, e4, ey, hb, hlc, hcm, hlen, hel, _⟩
    ·injection e4 with e4
     exact ⟨[], none, 0, 0, 0, fun _ => [], e4, Nat.le_refl _, Nat.zero_le _, fun h => by simp at h, fun i hi => by simp at hi, fun i hi => by simp at hi, fun i hi => by simp at hi, by simpa [bulkD] using M.pos y4.1⟩
    ·injection e4 with e4
     obtain ⟨gs, hgs, hgl⟩ := T.e
     have each : ∀ i, i < len → ∃ p : (List UInt8 × Ob) × List Value, ObAt w p.1.2 p.2 ∧ p.1.1.length ≤ maxLen ∧ w.cell? (a.add (6 * i)) = some (strV p.1.1) ∧ (∃ h : i < elems.length, p.1.1.length + p.1.2.bulk + 1 ≤ B elems[i].1) ∧ ∀ j, j < 5 → w.cell? (a.add (6 * i + 1 + j)) = p.2[j]? := fun i hi => by
      obtain ⟨cs, x, hc6, hx, ht, hj⟩ := rows_at T.ce hlen hel i hi
      obtain ⟨hil, hxe⟩ := List.getElem?_eq_some_iff.1 hx
      obtain ⟨ys, n2, rfl, exx, hcl2, hyl, hF2⟩ := DataW.trod_struct hgs ht
      have hsz2 : gs.size = 2 := by have := congrArg List.length hgl; simpa using this
      obtain ⟨f0, hf0, t0, o0⟩ := fields_at hgl (i := 0) rfl
      obtain ⟨f1, hf1, t1, o1⟩ := fields_at hgl (i := 1) rfl
      have a0 := hF2 0 f0 hf0
      have a1 := hF2 1 f1 hf1
      have y0 : 0 < ys.length := by omega
      have y1 : 1 < ys.length := by omega
      rw [t0, o0, T.cs, List.getElem?_eq_getElem y0] at a0
      rw [t1, o1, T.co, List.getElem?_eq_getElem y1] at a1
      match cs, hc6 with
      | [d0, d1, d2, d3, d4, d5], _ =>
       obtain ⟨s, es, ey0, hs⟩ := DataW.trod_string T.s (show DataW.trod enc P w base sp held n2 tS [d0] = some _ from a0)
       injection es with es
       obtain ⟨o, ho, hob⟩ := ih n2 (by omega) [d1, d2, d3, d4, d5] _ a1
       refine ⟨((s.data.toList, o), [d1, d2, d3, d4, d5]), ho, ?_, ?_, ⟨hil, ?_⟩, fun j hj' => ?_⟩
       ·have : s.data.toList.length = s.size := Array.length_toList
        show s.data.toList.length ≤ maxLen
        rw [this]; exact hs
       ·have := hj 0 (by omega)
        rw [Nat.add_zero] at this
        rw [this, es]; rfl
       ·rw [hxe, exx, M.agg]
        have hl2 : ys.length = 2 := by omega
        match ys, hl2 with
        | [u0, u1], _ =>
         have ey0 : u0 = (.lit (.string s.data.toList), []) := ey0
         have hob : o.bulk ≤ B u1.1 := Nat.le_of_add_right_le hob
         simp only [List.map_cons, List.map_nil, M.cons, M.nil, ey0, M.str]
         omega
       ·have := hj (1 + j) (by omega)
        rw [← Nat.add_assoc] at this
        rw [this]
        match j with
        | 0 => rfl
        | 1 => rfl
        | 2 => rfl
        | 3 => rfl
        | 4 => rfl
        | j + 5 => omega
     obtain ⟨ps, hps, hp⟩ := list_of each
     obtain ⟨g, o, spot⟩ := a
     have hspot : 0 < ps.length → spot = none := fun h0 => by
      have h1 := (hp 0 h0).2.2.1
      simpa [Addr.add] using World.cell?_spot h1
     refine ⟨ps.map (·.1), some ⟨g, o, spot⟩, cap, g, o, fun i => (ps.map (·.2)).getD i [], by rw [e4, List.length_map, hps], by rw [List.length_map]; omega, by rw [List.length_map]; omega, fun h0 => ?_, fun i hi => ?_, fun i hi => ?_, fun i hi j hj => ?_, ?_⟩
     ·rw [List.length_map] at h0; rw [hspot h0]
     ·rw [List.length_map] at hi
      have := (hp i hi).1
      simp only [List.getElem_map]
      rw [List.getD_eq_getElem?_getD, List.getElem?_map, List.getElem?_eq_getElem hi]
      exact this
     ·rw [List.length_map] at hi
      simp only [List.getElem_map]
      have h1 := (hp i hi).2.2.1
      rw [hspot (by omega), add_none] at h1
      exact ⟨(hp i hi).2.1, h1⟩
     ·rw [List.length_map] at hi
      have h1 := (hp i hi).2.2.2.2 j hj
      rw [hspot (by omega), add_none] at h1
      show _ = ((ps.map (·.2)).getD i [])[j]?
      rw [List.getD_eq_getElem?_getD, List.getElem?_map, List.getElem?_eq_getElem hi]
      exact h1
     ·rw [ey, M.slice]
      have := M.sumD (ps.map (·.1)) (elems.map (·.1)) (by simp; omega) fun i h1 h2 => by
       simp only [List.getElem_map]
       exact (hp i (by simpa using h1)).2.2.2.1.2
      show bulkD _ + 1 ≤ BA (elems.map (·.1)) + _ + 1
      omega
   obtain ⟨l, AL, cL, gL, oL, vl, rfl, i1, i2, i3, i4, i5, bL⟩ := items
   obtain ⟨d, AD, cD, gD, oD, vd, rfl, j1, j2, j3, j4, j5, j6, bD⟩ := entries
   exact ⟨.mk k m bs l d, .mk k m bs l d A AL AD c cL cD gL oL gD oD vl vd (i64_wf w0).1 (i64_wf w0).2 (i64_wf w1).1 (i64_wf w1).2 hB hBl hBn i1 i2 j1 j2 i3 i4 i5 j3 j4 j5 j6, by rw [ex]; simp only [Ob.bulk]; omega⟩
end
end Go.Wk

/- The arguments of PrintItems opened. No condition. -/
namespace Go.Proofs.YthacnnmlephkhaaGreatDoor
open Go Go.RowKit Go.Wk Go.WideShapes
theorem itemty : ∃ fs, Tryz.prog.underlying 41 = some (.struct fs) ∧ fs.toList.map (fun f => (f.type, f.offset)) = [(3, 0), (26, 1)] := ⟨_, Tryz.underlying41, rfl⟩
set_option maxRecDepth 100000 in
theorem open_item {H : Type} {enc : TypeId × Value → H} {W : World} {base : Nat} {v : Value} {d : DataW H} {p : List MemPlace} (hv : Value.okWide Tryz.prog W .any base 41 v) (h : DataW.Trod enc Tryz.prog W 0 (fun _ => true) true 41 v d p) :
 ∃ num o vs, v = .agg (List.toArray (.int .i64 num :: vs)) ∧ i64 num ∧ ObAt W o vs ∧ o.bulk + 7 ≤ Rows.uptoBulk d := by
 obtain ⟨cs, rfl, _⟩ := okWide_struct Tryz.underlying41 hv
 obtain ⟨fuel, hf⟩ := h
 obtain ⟨fs, hfs, hfl⟩ := itemty
 obtain ⟨xs, n, rfl, ex, hcl, hxl, hF⟩ := DataW.trod_struct hfs hf
 have hsz : fs.size = 2 := by have := congrArg List.length hfl; simpa using this
 have hc6 : Tryz.prog.cellsOf 41 = 6 := by kernel_rfl
 have hc3 : Tryz.prog.cellsOf 3 = 1 := by kernel_rfl
 have hc26 : Tryz.prog.cellsOf 26 = 5 := by kernel_rfl
 rw [hc6] at hcl
 have hcs : cs.toList.length = 6 := hcl
 obtain ⟨f0, g0, t0, o0⟩ := fields_at hfl (i := 0) (t := 3) (o := 0) rfl
 obtain ⟨f1, g1, t1, o1⟩ := fields_at hfl (i := 1) (t := 26) (o := 1) rfl
 have y0 := hF 0 f0 g0
 have y1 := hF 1 f1 g1
 rw [t0, o0, hc3] at y0
 rw [t1, o1, hc26] at y1
 have hl2 : xs.length = 2 := by omega
 match xs, hl2 with
 | [x0, x1], _ =>
  obtain ⟨c0, rest, hr⟩ : ∃ c0 rest, cs.toList = c0 :: rest := by
   cases hq : cs.toList with
   | nil => rw [hq] at hcs; cases hcs
   | cons a l => exact ⟨a, l, rfl⟩
  have y0 : DataW.trod enc Tryz.prog W 0 (fun _ => true) true n 3 ((cs.toList.drop 0).take 1) = some x0 := y0
  have y1 : DataW.trod enc Tryz.prog W 0 (fun _ => true) true n 26 ((cs.toList.drop 1).take 5) = some x1 := y1
  rw [hr] at y0 y1 hcs
  have hrl : rest.length = 5 := by simpa using hcs
  obtain ⟨num, e0, _, w0⟩ := DataW.trod_int Tryz.underlying3 (show DataW.trod enc Tryz.prog W 0 (fun _ => true) true n 3 [c0] = some x0 from y0)
  have y1 : DataW.trod enc Tryz.prog W 0 (fun _ => true) true n 26 (rest.take 5) = some x1 := y1
  rw [List.take_of_length_le (by omega)] at y1
  obtain ⟨o, ho, hb⟩ := open_obj5 bulk_law obty n _ _ y1
  injection e0 with e0
  subst e0
  refine ⟨num, o, rest, ?_, i64_wf w0, ho, ?_⟩
  ·congr 1
   apply Array.ext'
   simpa using hr
  ·have e : d = .agg [x0.1, x1.1] := by have := congrArg Prod.fst ex; exact this
   rw [e, bulk_law.agg, bulk_law.cons, bulk_law.cons, bulk_law.nil]
   have := bulk_law.pos x0.1
   omega
end Go.Proofs.YthacnnmlephkhaaGreatDoor

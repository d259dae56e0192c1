/- Walks and laws, joined: part L. No condition. -/
import Derived.Test.YtkpikpaepgknnaaGreatDoorXkJK
import Derived.Test.YtkpikpaepgknnaaGreatDoorXkJJ
import Derived.Laws.Tables
import Derived.Laws.StructEq
import Derived.Test.YtkpikpaepgknnaaGreatDoorRows
import Derived.OpenShut
import Derived.Lib.LaidU8T
import Derived.ChangeShapes
import Derived.WideShapes
set_option linter.unusedSimpArgs false
set_option linter.unusedVariables false
/- The law's properties turned to the program's. No condition. -/
namespace Go.Proofs.YtkpikpaepgknnaaGreatDoor
open Go Go.RowKit Go.Wk Go.Xt Go.Xe Go.Xw
attribute [local go_sem ↓] Go.wp_at_zero Go.wp_at_succ
def H5 (g f i : Nat) (sv : Value) (sp nm : ByteArray) (kd : Int) (S : Nat) : Nat → Value → World → Prop := fun j v w => match j with
  | 0 => v = sv
  | 1 => v = .int .i64 (i : Nat)
  | 2 => v = .pointer (some ⟨g, f, none⟩)
  | 3 => v = .pointer (some ⟨g, f, none⟩)
  | 4 => v = .string sp
  | 5 => v = sv
  | 6 => v = .int .i64 (i : Nat)
  | 7 => v = .pointer (some ⟨g, f, none⟩)
  | 8 => v = .pointer (some ⟨g, f + 1, none⟩)
  | 9 => v = .string nm
  | 10 => v = sv
  | 11 => v = .int .i64 (i : Nat)
  | 12 => v = .pointer (some ⟨g, f, none⟩)
  | 13 => v = .pointer (some ⟨g, f + 2, none⟩)
  | 14 => v = .int .i64 kd
  | 15 => v = .agg #[.string sp, .string nm, .int .i64 kd, .slice none 0 0]
  | _ => ∃ q, v = .pointer (some ⟨q, 0, none⟩) ∧ Blk w q 38 #[.string ⟨#[]⟩, .string ⟨#[]⟩, .int .i64 0, .slice none 0 0] ∧ S ≤ q
theorem H5_mono {g f i : Nat} {sv : Value} {sp nm : ByteArray} {kd : Int} {S : Nat} (j : Nat) (v : Value) (w w' : World) (hG : H5 g f i sv sp nm kd S j v w) (hk : Below w.heap.size w w') : H5 g f i sv sp nm kd S j v w' := by
  unfold H5 at hG ⊢
  split at hG <;> first
    | exact hG
    | (obtain ⟨q, h1, h2, h3⟩ := hG; exact ⟨q, h1, h2.below hk h2.lt, h3⟩)
def H9 (q g f i gg ff k : Nat) (sv cv iv : Value) (L T : ByteArray) (S : Nat) : Nat → Value → World → Prop := fun j v w => match j with
  | 0 => v = .pointer (some ⟨q, 3, none⟩)
  | 1 => v = cv
  | 2 => v = sv
  | 3 => v = .int .i64 (i : Nat)
  | 4 => v = .pointer (some ⟨g, f, none⟩)
  | 5 => v = .pointer (some ⟨g, f + 3, none⟩)
  | 6 => v = iv
  | 7 => v = .int .i64 (k : Nat)
  | 8 => v = .pointer (some ⟨gg, ff, none⟩)
  | 9 => v = .pointer (some ⟨gg, ff, none⟩)
  | 10 => v = .string L
  | 11 => v = sv
  | 12 => v = .int .i64 (i : Nat)
  | 13 => v = .pointer (some ⟨g, f, none⟩)
  | 14 => v = .pointer (some ⟨g, f + 3, none⟩)
  | 15 => v = iv
  | 16 => v = .int .i64 (k : Nat)
  | 17 => v = .pointer (some ⟨gg, ff, none⟩)
  | 18 => v = .pointer (some ⟨gg, ff + 1, none⟩)
  | 19 => v = .string T
  | 20 => v = .agg #[.string L, .string T]
  | _ => ∃ r, v = .slice (some ⟨r, 0, none⟩) 1 1 ∧ Blk w r 55 #[.string L, .string T] ∧ S ≤ r
theorem H9_mono {q g f i gg ff k : Nat} {sv cv iv : Value} {L T : ByteArray} {S : Nat} (j : Nat) (v : Value) (w w' : World) (hG : H9 q g f i gg ff k sv cv iv L T S j v w) (hk : Below w.heap.size w w') : H9 q g f i gg ff k sv cv iv L T S j v w' := by
  unfold H9 at hG ⊢
  split at hG <;> first
    | exact hG
    | (obtain ⟨r, h1, h2, h3⟩ := hG; exact ⟨r, h1, h2.below hk h2.lt, h3⟩)
theorem row_base {w : World} {B B' e s n : Nat} {v : Value} {xs : List Value} (h : w.ownsRow B' e s v n xs) (hB : B ≤ B') : w.ownsRow B e s v n xs := by
  refine ⟨h.1, ?_⟩
  rcases h.2 with h2 | ⟨g, cap, cur, e', hB', rest⟩
  · exact .inl h2
  · exact .inr ⟨g, cap, cur, e', Nat.le_trans hB hB', rest⟩
theorem wpList_app_ent {w : World} {ops : Array Oper} {rest : List Oper} {o : Oper} {a : Act} {Q : Exit → Act → World → Prop} (hgd : o.guard = none)
    (s x : Operand) (ho : o.op = .call { callee := .builtin .append, args := #[s, x], argTypes := #[36, 36] }) (B : Nat) (A : Option Addr) (k c : Nat) (l : List (ByteArray × ByteArray)) (hk : l.length = k) (hs : a.eval s = .slice A k c) (hown : w.ownsRow B 55 2 (.slice A k c) k (flatE l))
    (q : Nat) (L T : ByteArray) (hx : a.eval x = .slice (some ⟨q, 0, none⟩) 1 1) (hq : Blk w q 55 #[.string L, .string T]) (hn : k ≤ 1000000) (hB : B ≤ w.heap.size)
    (h : ∀ A' c' w', w'.ownsRow B 55 2 (.slice A' (k + 1) c') (k + 1) (flatE (l ++ [(L, T)])) → w.grownBy w' (Value.slice A k c).ownBlock → wpList Tryz.prog ops Q rest (a.put o.dst (.slice A' (k + 1) c')) w') : wpList Tryz.prog ops Q (o :: rest) a w :=
  wpList_plain hgd fun K hK => wp_app_ent s x ho B A k c l hk hs hown q L T hx hq hn hB fun A' c' w' h1 h2 => hK _ _ (h A' c' w' h1 h2)
set_option maxHeartbeats 32000000 in
set_option maxRecDepth 100000 in
theorem props_walk {w : World} (A : Option Addr) (g og c : Nat) (l : List PA) (hA : 0 < l.length → A = some ⟨g, og, none⟩) (hn : l.length ≤ 20) (hcp : l.length ≤ c) (hc : CellsO w g og l) (hh : ∀ x ∈ l, Held w x) (hs : ∀ x ∈ l, Xw.Small x.1) :
    Calls Tryz.prog 11 #[.slice A l.length c] w fun e w' => Below w.heap.size w w' ∧ ∃ (l' : List PA) (A' : Option Addr) (g' c' : Nat), e = .returned (.slice A' l'.length c') ∧ pl l' = pl l ∧ (0 < l'.length → A' = some ⟨g', 0, none⟩) ∧ l'.length ≤ c' ∧ CellsP w' g' l' ∧ ∀ x ∈ l', GoodP w' x := by
  obtain ⟨n, hnn⟩ : ∃ n, n = l.length := ⟨_, rfl⟩
  rw [← hnn]
  rw [← hnn] at hcp hA hn
  replace hnn := Lib.hid hnn
  replace hA := Lib.hid hA
  replace hc := Lib.hid hc
  replace hh := Lib.hid hh
  replace hs := Lib.hid hs
  go_enter Tryz.func11, Tryz.ntmps11
  go_wp2
  go_loopw [3, 4] (fun s3 s4 wr => ∃ (i : Nat) (o : List PA), i ≤ n ∧ s4 = .int .i64 i ∧ (∃ a m c, s3 = .slice a m c) ∧ o.length = i ∧ pl o = (pl l).take i ∧ wr.ownsRow w.heap.size 38 4 s3 o.length (flatP o) ∧ (∀ x ∈ o, ItemRow wr w.heap.size x) ∧ Below w.heap.size w wr) (fun _ s4 _ => n - (RowKit.intOf s4).toNat)
  case atStart => exact ⟨0, [], Nat.zero_le _, rfl, ⟨_, _, _, rfl⟩, rfl, rfl, World.ownsRow_nil _ _ _ _, fun x hx => by simp at hx, Below.refl _ _⟩
  case round =>
    obtain ⟨i, o, hi, rfl, ⟨a3, m3, c3, rfl⟩, hol, hpo, hO3, hIt, hB⟩ := hrel
    by_cases hin : i < n
    · have hil : i < l.length := by rw [← hnn.out]; exact hin
      have hAe := hA.out (by omega)
      subst hAe
      have hxm := List.getElem_mem hil
      obtain ⟨x0, x1, x2, x3⟩ := hc.out.below hB i hil
      obtain ⟨he, hcB⟩ := hh.out _ hxm
      have hsm := hs.out _ hxm
      have hnx : (pl l).take (i + 1) = pl o ++ [l[i].1] := by
        rw [hpo, List.take_succ_eq_append_getElem (by rw [pl_len]; exact hil), pl_at hil]
      generalize l[i] = x at x0 x1 x2 x3 he hcB hsm hnx
      obtain ⟨⟨sp, nm, kd, it⟩, B, cB⟩ := x
      simp only at x0 x1 x2 x3 he hcB hnx
      have hm20 := hsm.it
      simp only at hm20
      obtain ⟨m, hm9⟩ : ∃ m, m = it.length := ⟨_, rfl⟩
      rw [← hm9] at x3 hcB hm20
      have kx := fun W (hW : Below wr.heap.size wr W) => And.intro ((hW.cell (cell_lt x0)).trans x0) (And.intro ((hW.cell (cell_lt x1)).trans x1) (And.intro ((hW.cell (cell_lt x2)).trans x2) ((hW.cell (cell_lt x3)).trans x3)))
      have hew := he
      obtain ⟨W4, hW4⟩ : ∃ W, W = wr := ⟨_, rfl⟩
      replace kx := Lib.hid kx
      replace he := Lib.hid he
      replace hnx := Lib.hid hnx
      replace hm9 := Lib.hid hm9
      replace hO3 := Lib.hid hO3
      replace hIt := Lib.hid hIt
      replace hB := Lib.hid hB
      replace hol := Lib.hid hol
      replace hpo := Lib.hid hpo
      replace hW4 := Lib.hid hW4
      clear hew hxm hsm
      go_upto_region 5 with (fail)
      refine wp_lin_tail (by kernel_rfl) [none, none, none, none, none, some 16, none, none, none, none, none, none, none, some 0, some 1, some 2, some 3, some 4, some 5, some 6, some 7, some 8, some 9, some 10, some 11, some 12, some 13, some 14, some 15, none, none, none, none, none, none, none, none, none, none, none, none, none, none, none, none, none, none, none, none, none, none, none, none, none, none, none, none, none, none, none, none, none, none, none, none, none, none, none] (fun w' => Below wr.heap.size wr w') (fun w' w'' => Below w'.heap.size w' w'') (H5 g (og + i * 4) i (.slice (some ⟨g, og, none⟩) n c) sp nm kd wr.heap.size) (by rfl) (by kernel_rfl) 17 _ rfl (by decide) (by kernel_rfl) [2, 2, 3, 4, 15, 7, 7, 8, 9, 15, 12, 12, 13, 14, 15, 17, 17] (by kernel_rfl) ?shR ?smono (.cons 16 (Wk.step_of [] rfl (by kernel_rfl) ?s16) (.cons 15 (Wk.step_of [4, 9, 14] rfl (by kernel_rfl) ?s15) (.cons 14 (Wk.step_of [13] rfl (by kernel_rfl) ?s14) (.cons 13 (Wk.step_of [12] rfl (by kernel_rfl) ?s13) (.cons 12 (Wk.step_of [10, 11] rfl (by kernel_rfl) ?s12) (.cons 11 (Wk.step_of [] rfl (by kernel_rfl) ?s11) (.cons 10 (Wk.step_of [] rfl (by kernel_rfl) ?s10) (.cons 9 (Wk.step_of [8] rfl (by kernel_rfl) ?s9) (.cons 8 (Wk.step_of [7] rfl (by kernel_rfl) ?s8) (.cons 7 (Wk.step_of [5, 6] rfl (by kernel_rfl) ?s7) (.cons 6 (Wk.step_of [] rfl (by kernel_rfl) ?s6) (.cons 5 (Wk.step_of [] rfl (by kernel_rfl) ?s5) (.cons 4 (Wk.step_of [3] rfl (by kernel_rfl) ?s4) (.cons 3 (Wk.step_of [2] rfl (by kernel_rfl) ?s3) (.cons 2 (Wk.step_of [0, 1] rfl (by kernel_rfl) ?s2) (.cons 1 (Wk.step_of [] rfl (by kernel_rfl) ?s1) (.cons 0 (Wk.step_of [] rfl (by kernel_rfl) ?s0) (.nil)))))))))))))))))) ?sdone
      case shR => exact (Below.refl _ _).drew
      case smono => exact H5_mono
      case s0 =>
        intro x' w' hRw hd K' hK
        simp only [All, H5] at hd
        simp (config := {decide := true}) only [upd, H5, fillL, if_true, if_false] at hK ⊢
        go_simp
        have hK2 := hK _ _ ⟨hRw, Below.refl _ _, rfl⟩
        exact hK2
      case s1 =>
        intro x' w' hRw hd K' hK
        simp only [All, H5] at hd
        simp (config := {decide := true}) only [upd, H5, fillL, if_true, if_false] at hK ⊢
        go_simp
        have hK2 := hK _ _ ⟨hRw, Below.refl _ _, rfl⟩
        exact hK2
      case s2 =>
        intro x' w' hRw hd K' hK
        simp only [All, H5] at hd
        obtain ⟨e0, e1, _⟩ := hd
        simp (config := {decide := true}) only [upd, H5, fillL, if_true, if_false] at hK ⊢
        simp only [e0, e1] at hK ⊢
        go_simp
        have hK2 := hK _ _ ⟨hRw, Below.refl _ _, rfl⟩
        exact hK2
      case s3 =>
        intro x' w' hRw hd K' hK
        simp only [All, H5] at hd
        obtain ⟨e2, _⟩ := hd
        simp (config := {decide := true}) only [upd, H5, fillL, if_true, if_false] at hK ⊢
        simp only [e2] at hK ⊢
        go_simp
        have hK2 := hK _ _ ⟨hRw, Below.refl _ _, rfl⟩
        exact hK2
      case s4 =>
        intro x' w' hRw hd K' hK
        simp only [All, H5] at hd
        obtain ⟨e3, _⟩ := hd
        simp (config := {decide := true}) only [upd, H5, fillL, if_true, if_false] at hK ⊢
        simp only [e3] at hK ⊢
        obtain ⟨y0, y1, y2, y3⟩ := kx.out w' hRw
        go_simp
        have hK2 := hK _ _ ⟨hRw, Below.refl _ _, rfl⟩
        exact hK2
      case s5 =>
        intro x' w' hRw hd K' hK
        simp only [All, H5] at hd
        simp (config := {decide := true}) only [upd, H5, fillL, if_true, if_false] at hK ⊢
        go_simp
        have hK2 := hK _ _ ⟨hRw, Below.refl _ _, rfl⟩
        exact hK2
      case s6 =>
        intro x' w' hRw hd K' hK
        simp only [All, H5] at hd
        simp (config := {decide := true}) only [upd, H5, fillL, if_true, if_false] at hK ⊢
        go_simp
        have hK2 := hK _ _ ⟨hRw, Below.refl _ _, rfl⟩
        exact hK2
      case s7 =>
        intro x' w' hRw hd K' hK
        simp only [All, H5] at hd
        obtain ⟨e5, e6, _⟩ := hd
        simp (config := {decide := true}) only [upd, H5, fillL, if_true, if_false] at hK ⊢
        simp only [e5, e6] at hK ⊢
        go_simp
        have hK2 := hK _ _ ⟨hRw, Below.refl _ _, rfl⟩
        exact hK2
      case s8 =>
        intro x' w' hRw hd K' hK
        simp only [All, H5] at hd
        obtain ⟨e7, _⟩ := hd
        simp (config := {decide := true}) only [upd, H5, fillL, if_true, if_false] at hK ⊢
        simp only [e7] at hK ⊢
        go_simp
        have hK2 := hK _ _ ⟨hRw, Below.refl _ _, rfl⟩
        exact hK2
      case s9 =>
        intro x' w' hRw hd K' hK
        simp only [All, H5] at hd
        obtain ⟨e8, _⟩ := hd
        simp (config := {decide := true}) only [upd, H5, fillL, if_true, if_false] at hK ⊢
        simp only [e8] at hK ⊢
        obtain ⟨y0, y1, y2, y3⟩ := kx.out w' hRw
        go_simp
        have hK2 := hK _ _ ⟨hRw, Below.refl _ _, rfl⟩
        exact hK2
      case s10 =>
        intro x' w' hRw hd K' hK
        simp only [All, H5] at hd
        simp (config := {decide := true}) only [upd, H5, fillL, if_true, if_false] at hK ⊢
        go_simp
        have hK2 := hK _ _ ⟨hRw, Below.refl _ _, rfl⟩
        exact hK2
      case s11 =>
        intro x' w' hRw hd K' hK
        simp only [All, H5] at hd
        simp (config := {decide := true}) only [upd, H5, fillL, if_true, if_false] at hK ⊢
        go_simp
        have hK2 := hK _ _ ⟨hRw, Below.refl _ _, rfl⟩
        exact hK2
      case s12 =>
        intro x' w' hRw hd K' hK
        simp only [All, H5] at hd
        obtain ⟨e10, e11, _⟩ := hd
        simp (config := {decide := true}) only [upd, H5, fillL, if_true, if_false] at hK ⊢
        simp only [e10, e11] at hK ⊢
        go_simp
        have hK2 := hK _ _ ⟨hRw, Below.refl _ _, rfl⟩
        exact hK2
      case s13 =>
        intro x' w' hRw hd K' hK
        simp only [All, H5] at hd
        obtain ⟨e12, _⟩ := hd
        simp (config := {decide := true}) only [upd, H5, fillL, if_true, if_false] at hK ⊢
        simp only [e12] at hK ⊢
        go_simp
        have hK2 := hK _ _ ⟨hRw, Below.refl _ _, rfl⟩
        exact hK2
      case s14 =>
        intro x' w' hRw hd K' hK
        simp only [All, H5] at hd
        obtain ⟨e13, _⟩ := hd
        simp (config := {decide := true}) only [upd, H5, fillL, if_true, if_false] at hK ⊢
        simp only [e13] at hK ⊢
        obtain ⟨y0, y1, y2, y3⟩ := kx.out w' hRw
        go_simp
        have hK2 := hK _ _ ⟨hRw, Below.refl _ _, rfl⟩
        exact hK2
      case s15 =>
        intro x' w' hRw hd K' hK
        simp only [All, H5] at hd
        obtain ⟨e4, e9, e14, _⟩ := hd
        simp (config := {decide := true}) only [upd, H5, fillL, if_true, if_false] at hK ⊢
        simp only [e4, e9, e14] at hK ⊢
        go_simp
        have hK2 := hK _ _ ⟨hRw, Below.refl _ _, rfl⟩
        exact hK2
      case s16 =>
        intro x' w' hRw hd K' hK
        simp only [All, H5] at hd
        simp (config := {decide := true}) only [upd, H5, fillL, if_true, if_false] at hK ⊢
        go_simp
        have hba : Below w'.heap.size w' (w'.alloc (.cells #[.string ⟨#[]⟩, .string ⟨#[]⟩, .int .i64 0, .slice none 0 0] 38)) := (Below.refl _ _).alloc (Nat.le_refl _) _
        have hK2 := hK _ _ ⟨bthen hRw hba, hba, _, rfl, Blk.new w' 38 _, hRw.size⟩
        exact hK2
      case sdone =>
        intro x' w5 hR5 hG fr hfr
        have e15 := hG 15 (by omega)
        have e16 := hG 16 (by omega)
        simp only [H5] at e15 e16
        obtain ⟨q, e16, hq, hqS'⟩ := e16
        simp only [fillL] at hfr
        rw [e15, e16] at hfr
        clear hG e15 e16
        subst hfr
        refine wpList_store_row rfl 38 _ _ rfl q #[.string sp, .string nm, .int .i64 kd, .slice none 0 0] rfl rfl 38 _ hq (by kernel_rfl) rfl (by simp [Value.oneCell']) ?_
        obtain ⟨W5, hW5⟩ : ∃ W, W = w5.setRow q #[.string sp, .string nm, .int .i64 kd, .slice none 0 0] := ⟨_, rfl⟩
        rw [← hW5]
        have hQ5 : Blk W5 q 38 #[.string sp, .string nm, .int .i64 kd, .slice none 0 0] := by rw [hW5]; exact setRow_heap _ _ _ _ _ _ hq
        have hB45 : Below wr.heap.size wr W5 := by
          rw [hW5]
          exact ⟨hR5.os, hR5.tape, hR5.output, by rw [setRow_size]; exact hR5.size, fun k hk => (setRow_other _ _ _ _ (by omega)).trans (hR5.block k hk)⟩
        have hqS := hQ5.lt
        have hW45 := hB45.size
        obtain ⟨SV, hSV⟩ : ∃ v, v = Value.slice a3 m3 c3 := ⟨_, rfl⟩
        rw [← hW4.out] at hB45 hW45
        have hO4 := hO3.out
        have hIt4 := hIt.out
        have kx4 := kx.out
        have he4 := he.out.below hB.out
        have hB4 := hB.out
        have hq4 : W4.heap.size ≤ q := by rw [hW4.out]; exact hqS'
        rw [← hW4.out] at hO4 hIt4 kx4 he4 hB4
        replace hO4 := Lib.hid hO4
        replace hIt4 := Lib.hid hIt4
        replace kx4 := Lib.hid kx4
        replace he4 := Lib.hid he4
        replace hB4 := Lib.hid hB4
        replace hQ5 := Lib.hid hQ5
        replace hB45 := Lib.hid hB45
        replace hqS := Lib.hid hqS
        replace hW45 := Lib.hid hW45
        replace hW5 := Lib.hid hW5
        replace hq4 := Lib.hid hq4
        clear hR5 hq hqS' hSV SV
        go_wp2
        go_loopw [6] (fun s6 wv => ∃ (k : Nat) (a : Option Addr) (ck : Nat), k ≤ m ∧ s6 = .int .i64 k ∧ Blk wv q 38 #[.string sp, .string nm, .int .i64 kd, .slice a k ck] ∧ wv.ownsRow W5.heap.size 55 2 (.slice a k ck) k (flatE (it.take k)) ∧ Below W4.heap.size W5 wv) (fun s6 _ => m - (RowKit.intOf s6).toNat)
        case atStart => exact ⟨0, none, 0, Nat.zero_le _, rfl, hQ5.out, World.ownsRow_nil _ _ _ _, Below.refl _ _⟩
        case round =>
          obtain ⟨k, a, ck, hk, rfl, hQ, hO, hB5⟩ := hrel
          have hBx := hB45.out.trans hB5
          obtain ⟨x0, x1, x2, x3⟩ := kx4.out wr hBx
          by_cases hkm : k < m
          · have hkl : k < it.length := by rw [← hm9.out]; exact hkm
            obtain ⟨gg, oo, rfl, hcs⟩ := he4.out (by omega)
            obtain ⟨w0, w1⟩ := hcs k hkl
            have v0 := (hBx.cell (cell_lt w0)).trans w0
            have v1 := (hBx.cell (cell_lt w1)).trans w1
            have htk : it.take (k + 1) = it.take k ++ [it[k]] := List.take_succ_eq_append_getElem hkl
            generalize it[k] = en at w0 w1 v0 v1 htk
            obtain ⟨L, T⟩ := en
            simp only at w0 w1 v0 v1
            have hBz := hBx.size
            have ke := fun W (hW : Below wr.heap.size wr W) => And.intro ((hW.cell (cell_lt v0)).trans v0) ((hW.cell (cell_lt v1)).trans v1)
            have kx2 := fun W (hW : Below wr.heap.size wr W) => kx4.out W (hBx.trans (hW.mono hBz))
            have kq := fun W (hW : Below wr.heap.size wr W) => blk4 (hQ.below hW hQ.lt)
            have hkit : k ≤ it.length := by omega
            replace ke := Lib.hid ke
            replace kx2 := Lib.hid kx2
            replace kq := Lib.hid kq
            replace htk := Lib.hid htk
            replace hQ := Lib.hid hQ
            replace hO := Lib.hid hO
            replace hB5 := Lib.hid hB5
            clear hcs w0 w1 v0 v1 hBx x0 x1
            go_upto_region 9 with (fail)
            refine wp_lin_tail (by kernel_rfl) [none, none, none, none, none, none, none, none, none, none, none, none, none, none, none, none, none, none, none, none, none, none, none, none, none, none, none, none, none, none, none, none, none, none, none, none, none, none, none, some 0, some 1, some 2, some 3, some 4, some 5, some 6, some 7, some 8, some 9, some 10, some 11, some 12, some 13, some 14, some 15, some 16, some 17, some 18, some 19, some 20, some 21, none, none, none, none, none, none, none] (fun w' => Below wr.heap.size wr w') (fun w' w'' => Below w'.heap.size w' w'') (H9 q g (og + i * 4) i gg (oo + k * 2) k (.slice (some ⟨g, og, none⟩) n c) (.slice a k ck) (.slice (some ⟨gg, oo, none⟩) m cB) L T wr.heap.size) (by rfl) (by kernel_rfl) 22 _ rfl (by decide) (by kernel_rfl) [1, 22, 4, 4, 5, 6, 8, 8, 9, 10, 20, 13, 13, 14, 15, 17, 17, 18, 19, 20, 21, 22] (by kernel_rfl) ?thR ?tmono (.cons 21 (Wk.step_of [20] rfl (by kernel_rfl) ?t21) (.cons 20 (Wk.step_of [10, 19] rfl (by kernel_rfl) ?t20) (.cons 19 (Wk.step_of [18] rfl (by kernel_rfl) ?t19) (.cons 18 (Wk.step_of [17] rfl (by kernel_rfl) ?t18) (.cons 17 (Wk.step_of [15, 16] rfl (by kernel_rfl) ?t17) (.cons 16 (Wk.step_of [] rfl (by kernel_rfl) ?t16) (.cons 15 (Wk.step_of [14] rfl (by kernel_rfl) ?t15) (.cons 14 (Wk.step_of [13] rfl (by kernel_rfl) ?t14) (.cons 13 (Wk.step_of [11, 12] rfl (by kernel_rfl) ?t13) (.cons 12 (Wk.step_of [] rfl (by kernel_rfl) ?t12) (.cons 11 (Wk.step_of [] rfl (by kernel_rfl) ?t11) (.cons 10 (Wk.step_of [9] rfl (by kernel_rfl) ?t10) (.cons 9 (Wk.step_of [8] rfl (by kernel_rfl) ?t9) (.cons 8 (Wk.step_of [6, 7] rfl (by kernel_rfl) ?t8) (.cons 7 (Wk.step_of [] rfl (by kernel_rfl) ?t7) (.cons 6 (Wk.step_of [5] rfl (by kernel_rfl) ?t6) (.cons 5 (Wk.step_of [4] rfl (by kernel_rfl) ?t5) (.cons 4 (Wk.step_of [2, 3] rfl (by kernel_rfl) ?t4) (.cons 3 (Wk.step_of [] rfl (by kernel_rfl) ?t3) (.cons 2 (Wk.step_of [] rfl (by kernel_rfl) ?t2) (.cons 1 (Wk.step_of [0] rfl (by kernel_rfl) ?t1) (.cons 0 (Wk.step_of [] rfl (by kernel_rfl) ?t0) (.nil))))))))))))))))))))))) ?tdone
            case thR => exact (Below.refl _ _).drew
            case tmono => exact H9_mono
            case t0 =>
              intro x' w' hRw hd K' hK
              simp only [All, H9] at hd
              simp (config := {decide := true}) only [upd, H9, fillL, if_true, if_false] at hK ⊢
              go_simp
              have hK2 := hK _ _ ⟨hRw, Below.refl _ _, rfl⟩
              exact hK2
            case t1 =>
              intro x' w' hRw hd K' hK
              simp only [All, H9] at hd
              obtain ⟨e0, _⟩ := hd
              simp (config := {decide := true}) only [upd, H9, fillL, if_true, if_false] at hK ⊢
              simp only [e0] at hK ⊢
              obtain ⟨z0, z1, z2, z3⟩ := kq.out w' hRw
              go_simp
              have hK2 := hK _ _ ⟨hRw, Below.refl _ _, rfl⟩
              exact hK2
            case t2 =>
              intro x' w' hRw hd K' hK
              simp only [All, H9] at hd
              simp (config := {decide := true}) only [upd, H9, fillL, if_true, if_false] at hK ⊢
              go_simp
              have hK2 := hK _ _ ⟨hRw, Below.refl _ _, rfl⟩
              exact hK2
            case t3 =>
              intro x' w' hRw hd K' hK
              simp only [All, H9] at hd
              simp (config := {decide := true}) only [upd, H9, fillL, if_true, if_false] at hK ⊢
              go_simp
              have hK2 := hK _ _ ⟨hRw, Below.refl _ _, rfl⟩
              exact hK2
            case t4 =>
              intro x' w' hRw hd K' hK
              simp only [All, H9] at hd
              obtain ⟨e2, e3, _⟩ := hd
              simp (config := {decide := true}) only [upd, H9, fillL, if_true, if_false] at hK ⊢
              simp only [e2, e3] at hK ⊢
              go_simp
              have hK2 := hK _ _ ⟨hRw, Below.refl _ _, rfl⟩
              exact hK2
            case t5 =>
              intro x' w' hRw hd K' hK
              simp only [All, H9] at hd
              obtain ⟨e4, _⟩ := hd
              simp (config := {decide := true}) only [upd, H9, fillL, if_true, if_false] at hK ⊢
              simp only [e4] at hK ⊢
              go_simp
              have hK2 := hK _ _ ⟨hRw, Below.refl _ _, rfl⟩
              exact hK2
            case t6 =>
              intro x' w' hRw hd K' hK
              simp only [All, H9] at hd
              obtain ⟨e5, _⟩ := hd
              simp (config := {decide := true}) only [upd, H9, fillL, if_true, if_false] at hK ⊢
              simp only [e5] at hK ⊢
              obtain ⟨y0, y1, y2, y3⟩ := kx2.out w' hRw
              go_simp
              have hK2 := hK _ _ ⟨hRw, Below.refl _ _, rfl⟩
              exact hK2
            case t7 =>
              intro x' w' hRw hd K' hK
              simp only [All, H9] at hd
              simp (config := {decide := true}) only [upd, H9, fillL, if_true, if_false] at hK ⊢
              go_simp
              have hK2 := hK _ _ ⟨hRw, Below.refl _ _, rfl⟩
              exact hK2
            case t8 =>
              intro x' w' hRw hd K' hK
              simp only [All, H9] at hd
              obtain ⟨e6, e7, _⟩ := hd
              simp (config := {decide := true}) only [upd, H9, fillL, if_true, if_false] at hK ⊢
              simp only [e6, e7] at hK ⊢
              go_simp
              have hK2 := hK _ _ ⟨hRw, Below.refl _ _, rfl⟩
              exact hK2
            case t9 =>
              intro x' w' hRw hd K' hK
              simp only [All, H9] at hd
              obtain ⟨e8, _⟩ := hd
              simp (config := {decide := true}) only [upd, H9, fillL, if_true, if_false] at hK ⊢
              simp only [e8] at hK ⊢
              go_simp
              have hK2 := hK _ _ ⟨hRw, Below.refl _ _, rfl⟩
              exact hK2
            case t10 =>
              intro x' w' hRw hd K' hK
              simp only [All, H9] at hd
              obtain ⟨e9, _⟩ := hd
              simp (config := {decide := true}) only [upd, H9, fillL, if_true, if_false] at hK ⊢
              simp only [e9] at hK ⊢
              obtain ⟨v0, v1⟩ := ke.out w' hRw
              go_simp
              have hK2 := hK _ _ ⟨hRw, Below.refl _ _, rfl⟩
              exact hK2
            case t11 =>
              intro x' w' hRw hd K' hK
              simp only [All, H9] at hd
              simp (config := {decide := true}) only [upd, H9, fillL, if_true, if_false] at hK ⊢
              go_simp
              have hK2 := hK _ _ ⟨hRw, Below.refl _ _, rfl⟩
              exact hK2
            case t12 =>
              intro x' w' hRw hd K' hK
              simp only [All, H9] at hd
              simp (config := {decide := true}) only [upd, H9, fillL, if_true, if_false] at hK ⊢
              go_simp
              have hK2 := hK _ _ ⟨hRw, Below.refl _ _, rfl⟩
              exact hK2
            case t13 =>
              intro x' w' hRw hd K' hK
              simp only [All, H9] at hd
              obtain ⟨e11, e12, _⟩ := hd
              simp (config := {decide := true}) only [upd, H9, fillL, if_true, if_false] at hK ⊢
              simp only [e11, e12] at hK ⊢
              go_simp
              have hK2 := hK _ _ ⟨hRw, Below.refl _ _, rfl⟩
              exact hK2
            case t14 =>
              intro x' w' hRw hd K' hK
              simp only [All, H9] at hd
              obtain ⟨e13, _⟩ := hd
              simp (config := {decide := true}) only [upd, H9, fillL, if_true, if_false] at hK ⊢
              simp only [e13] at hK ⊢
              go_simp
              have hK2 := hK _ _ ⟨hRw, Below.refl _ _, rfl⟩
              exact hK2
            case t15 =>
              intro x' w' hRw hd K' hK
              simp only [All, H9] at hd
              obtain ⟨e14, _⟩ := hd
              simp (config := {decide := true}) only [upd, H9, fillL, if_true, if_false] at hK ⊢
              simp only [e14] at hK ⊢
              obtain ⟨y0, y1, y2, y3⟩ := kx2.out w' hRw
              go_simp
              have hK2 := hK _ _ ⟨hRw, Below.refl _ _, rfl⟩
              exact hK2
            case t16 =>
              intro x' w' hRw hd K' hK
              simp only [All, H9] at hd
              simp (config := {decide := true}) only [upd, H9, fillL, if_true, if_false] at hK ⊢
              go_simp
              have hK2 := hK _ _ ⟨hRw, Below.refl _ _, rfl⟩
              exact hK2
            case t17 =>
              intro x' w' hRw hd K' hK
              simp only [All, H9] at hd
              obtain ⟨e15, e16, _⟩ := hd
              simp (config := {decide := true}) only [upd, H9, fillL, if_true, if_false] at hK ⊢
              simp only [e15, e16] at hK ⊢
              go_simp
              have hK2 := hK _ _ ⟨hRw, Below.refl _ _, rfl⟩
              exact hK2
            case t18 =>
              intro x' w' hRw hd K' hK
              simp only [All, H9] at hd
              obtain ⟨e17, _⟩ := hd
              simp (config := {decide := true}) only [upd, H9, fillL, if_true, if_false] at hK ⊢
              simp only [e17] at hK ⊢
              go_simp
              have hK2 := hK _ _ ⟨hRw, Below.refl _ _, rfl⟩
              exact hK2
            case t19 =>
              intro x' w' hRw hd K' hK
              simp only [All, H9] at hd
              obtain ⟨e18, _⟩ := hd
              simp (config := {decide := true}) only [upd, H9, fillL, if_true, if_false] at hK ⊢
              simp only [e18] at hK ⊢
              obtain ⟨v0, v1⟩ := ke.out w' hRw
              go_simp
              have hK2 := hK _ _ ⟨hRw, Below.refl _ _, rfl⟩
              exact hK2
            case t20 =>
              intro x' w' hRw hd K' hK
              simp only [All, H9] at hd
              obtain ⟨e10, e19, _⟩ := hd
              simp (config := {decide := true}) only [upd, H9, fillL, if_true, if_false] at hK ⊢
              simp only [e10, e19] at hK ⊢
              go_simp
              have hK2 := hK _ _ ⟨hRw, Below.refl _ _, rfl⟩
              exact hK2
            case t21 =>
              intro x' w' hRw hd K' hK
              simp only [All, H9] at hd
              obtain ⟨e20, _⟩ := hd
              simp (config := {decide := true}) only [upd, H9, fillL, if_true, if_false] at hK ⊢
              simp only [e20] at hK ⊢
              go_simp
              have hba : Below w'.heap.size w' (w'.alloc (.cells #[.string L, .string T] 55)) := (Below.refl _ _).alloc (Nat.le_refl _) _
              have hK2 := hK _ _ ⟨bthen hRw hba, hba, _, rfl, Blk.new w' 55 _, hRw.size⟩
              exact hK2
            case tdone =>
              intro x' w6 hR6 hG fr hfr
              have a1 := hG 1 (by omega)
              have a21 := hG 21 (by omega)
              simp only [H9] at a1 a21
              clear hG
              obtain ⟨r, a21, hr, hrs⟩ := a21
              simp only [fillL] at hfr
              rw [a1, a21] at hfr
              clear a1 a21
              subst hfr
              have hO6 := row_kept hO.out hR6
              have hQ6 := hQ.out.below hR6 hQ.out.lt
              have hB6 := hB5.out.trans (hR6.mono (by have := hB5.out.size; have := hW45.out; omega))
              refine wpList_app_ent rfl _ _ rfl W5.heap.size a k ck (it.take k) (by rw [List.length_take]; omega) rfl hO6 r L T rfl hr (by omega) (by have := hB6.size; omega) ?_
              intro A' c' w7 h71 h72
              have hQ7 : Blk w7 q 38 #[.string sp, .string nm, .int .i64 kd, .slice a k ck] := hQ6.grown h72 (fun e => by have := (row_lt hO6 e.symm).1; have := hqS.out; omega)
              have hB7 : Below W4.heap.size W5 w7 := hB6.grown h72 (by have := hB6.size; have := hW45.out; omega) (fun z hz => by have := (row_lt hO6 hz).1; have := hW45.out; omega)
              have hO7 : w7.ownsRow W5.heap.size 55 2 (.slice A' (k + 1) c') (k + 1) (flatE (it.take (k + 1))) := by rw [htk.out]; exact h71
              clear h71 h72 hO6 hQ6 hB6
              have l7 := hQ7.cell 3
              have f7 := hQ7.frozen 3
              have hQ8 := hQ7.set_ 3 (.slice A' (k + 1) c')
              have hgr := set_gr w7 q 3 (.slice A' (k + 1) c')
              have hO8 := hO7.kept hgr (by
                cases e : (Value.slice A' (k + 1) c').ownBlock with
                | none => exact .inl rfl
                | some z => refine .inr fun e2 => ?_; injection e2 with e2; have := (row_lt hO7 e).1; have := hqS.out; omega)
              have hB8 := hB7.grown hgr (by have := hB7.size; have := hW45.out; omega) (fun z hz => by injection hz with hz; have := hq4.out; omega)
              replace hQ8 := Lib.hid hQ8
              replace hO8 := Lib.hid hO8
              replace hB8 := Lib.hid hB8
              clear hQ7 hO7 hB7 hgr
              go_wp2
              go_roundw
              case rel => exact ⟨k + 1, A', c', by omega, by go_num, hQ8.out, hO8.out, hB8.out⟩
              case measure => simp [RowKit.intOf]; omega
          · obtain rfl : k = m := by omega
            have hTk : it.take k = it := by rw [hm9.out, List.take_length]
            rw [hTk] at hO
            obtain ⟨z0, z1, z2, z3⟩ := blk4 hQ
            have hbA := (Below.refl wr.heap.size wr).alloc (Nat.le_refl _) (.cells #[.string sp, .string nm, .int .i64 kd, .slice a k ck] 38)
            obtain ⟨WA, hWA⟩ : ∃ W, W = wr.alloc (.cells #[.string sp, .string nm, .int .i64 kd, .slice a k ck] 38) := ⟨_, rfl⟩
            have hQA : Blk WA wr.heap.size 38 (prs (⟨sp, nm, kd, it⟩, a, ck)).toArray := by
              unfold prs; simp only; rw [← hm9.out, hWA]; exact Blk.new wr 38 _
            rw [← hWA] at hbA
            have hBA := hBx.trans (hbA.mono hBx.size)
            have hOA := row_kept hO4.out hBA
            have hIA : ∀ x ∈ o, ItemRow WA w.heap.size x := fun x hx => row_kept (hIt4.out x hx) hBA
            have hIN : ItemRow WA w.heap.size (⟨sp, nm, kd, it⟩, a, ck) := by
              have h1 := row_base (row_kept hO hbA) (show w.heap.size ≤ W5.heap.size by have := hB4.out.size; have := hW45.out; omega)
              unfold ItemRow; simp only; rw [← hm9.out]; exact h1
            have hBw := hB4.out.trans (hBA.mono hB4.out.size)
            have hzA := hBw.size
            replace hQA := Lib.hid hQA
            replace hOA := Lib.hid hOA
            replace hIA := Lib.hid hIA
            replace hIN := Lib.hid hIN
            replace hBw := Lib.hid hBw
            clear hbA hBA hTk hBx hQ hO hB5 x0 x1 x2
            replace hWA := Lib.hid hWA
            go_upto_region 4 with (rw [← hWA.out]; refine wpList_app_prop rfl _ _ rfl w.heap.size _ o rfl hOA.out wr.heap.size (⟨sp, nm, kd, it⟩, a, ck) rfl hQA.out (by have := hol.out; omega) hzA ?_; intro A9 n9 c9 w9 h91 h92; replace h91 := Lib.hid h91; replace h92 := Lib.hid h92)
            have hB9 := hBw.out.grown h92.out hzA (fun z hz => (hOA.out.lt z hz).1)
            have hI9 : ∀ x ∈ o ++ [(⟨sp, nm, kd, it⟩, a, ck)], ItemRow w9 w.heap.size x := fun x hx => by
              rcases List.mem_append.1 hx with h | h
              · exact (hIA.out x h).kept h92.out (rows_apart (hIA.out x h) hOA.out (by decide))
              · rw [List.mem_singleton.1 h]; exact hIN.out.kept h92.out (rows_apart hIN.out hOA.out (by decide))
            replace hB9 := Lib.hid hB9
            replace hI9 := Lib.hid hI9
            go_wp2
            go_roundw
            case rel => exact ⟨i + 1, _, by omega, by go_num, ⟨_, _, _, rfl⟩, by rw [List.length_append, hol.out]; rfl, by rw [hnx.out]; unfold pl; rw [List.map_append]; rfl, h91.out, hI9.out, hB9.out⟩
            case measure => simp [RowKit.intOf]; omega
    · obtain rfl : i = n := by omega
      have hpo2 : pl o = pl l := by rw [hpo, hnn.out, ← pl_len l, List.take_length]
      obtain ⟨A9, g9, c9, e9, hA9, hc9, hx9⟩ := row_out hO3
      injection e9 with e9 e10 e11
      subst e9 e10 e11
      have hI9 : ∀ x ∈ o, GoodP wr x := fun x hx => by
        obtain ⟨h1, h2⟩ := item_out (hIt x hx)
        have h3 : x.1 ∈ pl l := by rw [← hpo2]; unfold pl; exact List.mem_map_of_mem hx
        unfold pl at h3
        obtain ⟨y, hy, e⟩ := List.mem_map.1 h3
        have h4 := hs.out y hy
        rw [e] at h4
        exact ⟨h1, h2, h4⟩
      replace hpo2 := Lib.hid hpo2
      replace hx9 := Lib.hid hx9
      replace hI9 := Lib.hid hI9
      replace hA9 := Lib.hid hA9
      replace hB := Lib.hid hB
      replace hIt := Lib.hid hIt
      replace hO3 := Lib.hid hO3
      replace hpo := Lib.hid hpo
      replace hol := Lib.hid hol
      go_wp2
      go_ret
      exact ⟨hB.out, o, a3, g9, c3, rfl, hpo2.out, hA9.out, hc9, hx9.out, hI9.out⟩
end Go.Proofs.YtkpikpaepgknnaaGreatDoor

/- The program's properties turned to the law's. No condition. -/
namespace Go.Proofs.YtkpikpaepgknnaaGreatDoor
open Go Go.RowKit Go.Wk Go.Xt Go.Xe Go.Xw
theorem ent58 : ∃ i, Tryz.prog.info? 58 = some i ∧ i.zero = some (.agg #[.string ⟨#[]⟩, .string ⟨#[]⟩]) ∧ i.size = 2 ∧ i.bytes = 32 := ⟨Tryz.t58, by kernel_rfl, by kernel_rfl, by kernel_rfl, by kernel_rfl⟩
attribute [local go_sem ↓] Go.wp_at_zero Go.wp_at_succ
theorem row_outL {w : World} {B : Nat} {v : Value} {l : List PA} (h : w.ownsRow B 43 4 v l.length (flatP l)) : ∃ A g cap, v = .slice A l.length cap ∧ (0 < l.length → A = some ⟨g, 0, none⟩) ∧ l.length ≤ cap ∧ CellsP w g l := by
  rcases h.2 with ⟨rfl, h0⟩ | ⟨g, cap, cur, rfl, _, hh, hnc, _, _, htk⟩
  · have : l = [] := List.eq_nil_of_length_eq_zero h0
    subst this
    exact ⟨none, 0, 0, rfl, fun h => by simp at h, Nat.le_refl _, fun i hi => by simp at hi⟩
  · refine ⟨_, g, cap, rfl, fun _ => rfl, hnc, fun i hi => ?_⟩
    have hc : ∀ j u, (prs l[i])[j]? = some u → j < 4 → w.cell? ⟨g, i * 4 + j, none⟩ = some u := fun j u hu hj => by
      rw [cell_of_row w g _ cur 43 (0, 0) hh, ← Array.getElem?_toList]
      have h1 := flat_at l i j hi hj
      rw [hu, ← htk, List.getElem?_take, if_pos (by omega)] at h1
      exact h1
    exact ⟨hc 0 _ rfl (by omega), hc 1 _ rfl (by omega), hc 2 _ rfl (by omega), hc 3 _ rfl (by omega)⟩
/-- a property's entries, in a row of its own -/
def ItemRowL (W : World) (B : Nat) (x : PA) : Prop := W.ownsRow B 58 2 (.slice x.2.1 x.1.it.length x.2.2) x.1.it.length (flatE x.1.it)
theorem item_outL {W : World} {B : Nat} {x : PA} (h : ItemRowL W B x) : EnsAt W x.2.1 x.1.it ∧ x.1.it.length ≤ x.2.2 := by
  rcases h.2 with ⟨e, h0⟩ | ⟨g, cap, cur, e, _, hh, hnc, _, _, htk⟩
  · injection e with e1 e2 e3
    exact ⟨fun h => by omega, by omega⟩
  · injection e with e1 e2 e3
    subst e3
    refine ⟨fun h0 => ⟨g, 0, e1, fun i hi => ?_⟩, hnc⟩
    have hc : ∀ j u, (flatE x.1.it)[j]? = some u → W.cell? ⟨g, 0 + j, none⟩ = some u := fun j u hu => by
      have hj : j < x.1.it.length * 2 := by rw [← flatE_len]; exact (List.getElem?_eq_some_iff.1 hu).1
      rw [Nat.zero_add, cell_of_row W g _ cur 58 (0, 0) hh, ← Array.getElem?_toList]
      rw [← htk, List.getElem?_take, if_pos (by omega)] at hu
      exact hu
    have h1 := flatE_at x.1.it i hi
    exact ⟨hc _ _ h1.1, by have := hc _ _ h1.2; rw [← Nat.add_assoc] at this; exact this⟩
/-- an entry behind entries -/
theorem wp_app_entL {w : World} {o : Oper} {a : Act} {K : Act → World → Prop} {Q : Exit → Act → World → Prop}
    (s x : Operand) (ho : o.op = .call { callee := .builtin .append, args := #[s, x], argTypes := #[41, 41] }) (B : Nat) (A : Option Addr) (k c : Nat) (l : List (ByteArray × ByteArray)) (hk : l.length = k) (hs : a.eval s = .slice A k c) (hown : w.ownsRow B 58 2 (.slice A k c) k (flatE l))
    (q : Nat) (L T : ByteArray) (hx : a.eval x = .slice (some ⟨q, 0, none⟩) 1 1) (hq : Blk w q 58 #[.string L, .string T]) (hn : k ≤ 1000000) (hB : B ≤ w.heap.size)
    (h : ∀ A' c' w', w'.ownsRow B 58 2 (.slice A' (k + 1) c') (k + 1) (flatE (l ++ [(L, T)])) → w.grownBy w' (Value.slice A k c).ownBlock → K (a.put o.dst (.slice A' (k + 1) c')) w') : Oper.wp Tryz.prog o a w K Q := by
  obtain ⟨i0, hi, hz0, hz1, hz2⟩ := ent58
  refine wp_app_one 41 58 2 32 i0 _ Tryz.underlying41 hi hz0 hz1 hz2 rfl (by decide) (by decide) (by decide) s x ho B _ k _ hs hown q _ hx hq rfl (fun u hu => by simp at hu; rcases hu with rfl | rfl <;> rfl) hn hB ?_
  intro v' w' h1 h2
  rw [show flatE l ++ (#[Value.string L, .string T] : Array Value).toList = flatE (l ++ [(L, T)]) from (flatE_snoc l (L, T)).symm] at h1
  have hsl : ∃ a c, v' = .slice a (k + 1) c := by rcases h1.2 with ⟨_, h⟩ | ⟨_, _, _, rfl, _⟩ <;> first | omega | exact ⟨_, _, rfl⟩
  obtain ⟨A', c', rfl⟩ := hsl
  exact h A' c' w' h1 h2
/-- a property behind properties -/
theorem wpList_app_propL {w : World} {ops : Array Oper} {rest : List Oper} {o : Oper} {a : Act} {Q : Exit → Act → World → Prop} (hgd : o.guard = none) (s x : Operand) (ho : o.op = .call { callee := .builtin .append, args := #[s, x], argTypes := #[22, 22] }) (B : Nat) (v : Value) (l : List PA) (hs : a.eval s = v) (hown : w.ownsRow B 43 4 v l.length (flatP l))
    (q : Nat) (y : PA) (hx : a.eval x = .slice (some ⟨q, 0, none⟩) 1 1) (hq : Blk w q 43 (prs y).toArray) (hn : l.length ≤ 1000000) (hB : B ≤ w.heap.size)
    (h : ∀ A n c w', w'.ownsRow B 43 4 (.slice A n c) (l ++ [y]).length (flatP (l ++ [y])) → w.grownBy w' v.ownBlock → wpList Tryz.prog ops Q rest (a.put o.dst (.slice A n c)) w') : wpList Tryz.prog ops Q (o :: rest) a w := by
  refine wpList_plain hgd fun K hK => ?_
  obtain ⟨i0, hi, hz0, hz1, hz2⟩ := info43
  refine wp_app_one 22 43 4 64 i0 _ Tryz.underlying22 hi hz0 hz1 hz2 rfl (by decide) (by decide) (by decide) s x ho B v _ _ hs hown q _ hx hq rfl (prs_one y) hn hB ?_
  intro v' w' h1 h2
  rw [show l.length + 1 = (l ++ [y]).length by simp, show flatP l ++ (prs y).toArray.toList = flatP (l ++ [y]) from (flat_snoc l y).symm] at h1
  have hsl : ∃ a m c, v' = .slice a m c := by rcases h1.2 with ⟨rfl, _⟩ | ⟨_, _, _, rfl, _⟩ <;> exact ⟨_, _, _, rfl⟩
  obtain ⟨A, n, c, rfl⟩ := hsl
  exact hK _ _ (h A n c w' h1 h2)
def H5L (g f i : Nat) (sv : Value) (sp nm : ByteArray) (kd : Int) (S : Nat) : Nat → Value → World → Prop := fun j v w => match j with
  | 0 => v = sv
  | 1 => v = .int .i64 (i : Nat)
  | 2 => v = .pointer (some ⟨g, f, none⟩)
  | 3 => v = .pointer (some ⟨g, f, none⟩)
  | 4 => v = .string sp
  | 5 => v = sv
  | 6 => v = .int .i64 (i : Nat)
  | 7 => v = .pointer (some ⟨g, f, none⟩)
  | 8 => v = .pointer (some ⟨g, f + 1, none⟩)
  | 9 => v = .string nm
  | 10 => v = sv
  | 11 => v = .int .i64 (i : Nat)
  | 12 => v = .pointer (some ⟨g, f, none⟩)
  | 13 => v = .pointer (some ⟨g, f + 2, none⟩)
  | 14 => v = .int .i64 kd
  | 15 => v = .agg #[.string sp, .string nm, .int .i64 kd, .slice none 0 0]
  | _ => ∃ q, v = .pointer (some ⟨q, 0, none⟩) ∧ Blk w q 43 #[.string ⟨#[]⟩, .string ⟨#[]⟩, .int .i64 0, .slice none 0 0] ∧ S ≤ q
theorem H5_monoL {g f i : Nat} {sv : Value} {sp nm : ByteArray} {kd : Int} {S : Nat} (j : Nat) (v : Value) (w w' : World) (hG : H5L g f i sv sp nm kd S j v w) (hk : Below w.heap.size w w') : H5L g f i sv sp nm kd S j v w' := by
  unfold H5L at hG ⊢
  split at hG <;> first
    | exact hG
    | (obtain ⟨q, h1, h2, h3⟩ := hG; exact ⟨q, h1, h2.below hk h2.lt, h3⟩)
def H9L (q g f i gg ff k : Nat) (sv cv iv : Value) (L T : ByteArray) (S : Nat) : Nat → Value → World → Prop := fun j v w => match j with
  | 0 => v = .pointer (some ⟨q, 3, none⟩)
  | 1 => v = cv
  | 2 => v = sv
  | 3 => v = .int .i64 (i : Nat)
  | 4 => v = .pointer (some ⟨g, f, none⟩)
  | 5 => v = .pointer (some ⟨g, f + 3, none⟩)
  | 6 => v = iv
  | 7 => v = .int .i64 (k : Nat)
  | 8 => v = .pointer (some ⟨gg, ff, none⟩)
  | 9 => v = .pointer (some ⟨gg, ff, none⟩)
  | 10 => v = .string L
  | 11 => v = sv
  | 12 => v = .int .i64 (i : Nat)
  | 13 => v = .pointer (some ⟨g, f, none⟩)
  | 14 => v = .pointer (some ⟨g, f + 3, none⟩)
  | 15 => v = iv
  | 16 => v = .int .i64 (k : Nat)
  | 17 => v = .pointer (some ⟨gg, ff, none⟩)
  | 18 => v = .pointer (some ⟨gg, ff + 1, none⟩)
  | 19 => v = .string T
  | 20 => v = .agg #[.string L, .string T]
  | _ => ∃ r, v = .slice (some ⟨r, 0, none⟩) 1 1 ∧ Blk w r 58 #[.string L, .string T] ∧ S ≤ r
theorem H9_monoL {q g f i gg ff k : Nat} {sv cv iv : Value} {L T : ByteArray} {S : Nat} (j : Nat) (v : Value) (w w' : World) (hG : H9L q g f i gg ff k sv cv iv L T S j v w) (hk : Below w.heap.size w w') : H9L q g f i gg ff k sv cv iv L T S j v w' := by
  unfold H9L at hG ⊢
  split at hG <;> first
    | exact hG
    | (obtain ⟨r, h1, h2, h3⟩ := hG; exact ⟨r, h1, h2.below hk h2.lt, h3⟩)
theorem wpList_app_entL {w : World} {ops : Array Oper} {rest : List Oper} {o : Oper} {a : Act} {Q : Exit → Act → World → Prop} (hgd : o.guard = none)
    (s x : Operand) (ho : o.op = .call { callee := .builtin .append, args := #[s, x], argTypes := #[41, 41] }) (B : Nat) (A : Option Addr) (k c : Nat) (l : List (ByteArray × ByteArray)) (hk : l.length = k) (hs : a.eval s = .slice A k c) (hown : w.ownsRow B 58 2 (.slice A k c) k (flatE l))
    (q : Nat) (L T : ByteArray) (hx : a.eval x = .slice (some ⟨q, 0, none⟩) 1 1) (hq : Blk w q 58 #[.string L, .string T]) (hn : k ≤ 1000000) (hB : B ≤ w.heap.size)
    (h : ∀ A' c' w', w'.ownsRow B 58 2 (.slice A' (k + 1) c') (k + 1) (flatE (l ++ [(L, T)])) → w.grownBy w' (Value.slice A k c).ownBlock → wpList Tryz.prog ops Q rest (a.put o.dst (.slice A' (k + 1) c')) w') : wpList Tryz.prog ops Q (o :: rest) a w :=
  wpList_plain hgd fun K hK => wp_app_entL s x ho B A k c l hk hs hown q L T hx hq hn hB fun A' c' w' h1 h2 => hK _ _ (h A' c' w' h1 h2)
set_option maxHeartbeats 32000000 in
set_option maxRecDepth 100000 in
theorem props_walkL {w : World} (A : Option Addr) (g og c : Nat) (l : List PA) (hA : 0 < l.length → A = some ⟨g, og, none⟩) (hn : l.length ≤ 20) (hcp : l.length ≤ c) (hc : CellsO w g og l) (hh : ∀ x ∈ l, Held w x) (hs : ∀ x ∈ l, Xw.Small x.1) :
    Calls Tryz.prog 17 #[.slice A l.length c] w fun e w' => Below w.heap.size w w' ∧ ∃ (l' : List PA) (A' : Option Addr) (g' c' : Nat), e = .returned (.slice A' l'.length c') ∧ pl l' = pl l ∧ (0 < l'.length → A' = some ⟨g', 0, none⟩) ∧ l'.length ≤ c' ∧ CellsP w' g' l' ∧ ∀ x ∈ l', GoodP w' x := by
  obtain ⟨n, hnn⟩ : ∃ n, n = l.length := ⟨_, rfl⟩
  rw [← hnn]
  rw [← hnn] at hcp hA hn
  replace hnn := Lib.hid hnn
  replace hA := Lib.hid hA
  replace hc := Lib.hid hc
  replace hh := Lib.hid hh
  replace hs := Lib.hid hs
  go_enter Tryz.func17, Tryz.ntmps17
  go_wp2
  go_loopw [3, 4] (fun s3 s4 wr => ∃ (i : Nat) (o : List PA), i ≤ n ∧ s4 = .int .i64 i ∧ (∃ a m c, s3 = .slice a m c) ∧ o.length = i ∧ pl o = (pl l).take i ∧ wr.ownsRow w.heap.size 43 4 s3 o.length (flatP o) ∧ (∀ x ∈ o, ItemRowL wr w.heap.size x) ∧ Below w.heap.size w wr) (fun _ s4 _ => n - (RowKit.intOf s4).toNat)
  case atStart => exact ⟨0, [], Nat.zero_le _, rfl, ⟨_, _, _, rfl⟩, rfl, rfl, World.ownsRow_nil _ _ _ _, fun x hx => by simp at hx, Below.refl _ _⟩
  case round =>
    obtain ⟨i, o, hi, rfl, ⟨a3, m3, c3, rfl⟩, hol, hpo, hO3, hIt, hB⟩ := hrel
    by_cases hin : i < n
    · have hil : i < l.length := by rw [← hnn.out]; exact hin
      have hAe := hA.out (by omega)
      subst hAe
      have hxm := List.getElem_mem hil
      obtain ⟨x0, x1, x2, x3⟩ := hc.out.below hB i hil
      obtain ⟨he, hcB⟩ := hh.out _ hxm
      have hsm := hs.out _ hxm
      have hnx : (pl l).take (i + 1) = pl o ++ [l[i].1] := by
        rw [hpo, List.take_succ_eq_append_getElem (by rw [pl_len]; exact hil), pl_at hil]
      generalize l[i] = x at x0 x1 x2 x3 he hcB hsm hnx
      obtain ⟨⟨sp, nm, kd, it⟩, B, cB⟩ := x
      simp only at x0 x1 x2 x3 he hcB hnx
      have hm20 := hsm.it
      simp only at hm20
      obtain ⟨m, hm9⟩ : ∃ m, m = it.length := ⟨_, rfl⟩
      rw [← hm9] at x3 hcB hm20
      have kx := fun W (hW : Below wr.heap.size wr W) => And.intro ((hW.cell (cell_lt x0)).trans x0) (And.intro ((hW.cell (cell_lt x1)).trans x1) (And.intro ((hW.cell (cell_lt x2)).trans x2) ((hW.cell (cell_lt x3)).trans x3)))
      have hew := he
      obtain ⟨W4, hW4⟩ : ∃ W, W = wr := ⟨_, rfl⟩
      replace kx := Lib.hid kx
      replace he := Lib.hid he
      replace hnx := Lib.hid hnx
      replace hm9 := Lib.hid hm9
      replace hO3 := Lib.hid hO3
      replace hIt := Lib.hid hIt
      replace hB := Lib.hid hB
      replace hol := Lib.hid hol
      replace hpo := Lib.hid hpo
      replace hW4 := Lib.hid hW4
      clear hew hxm hsm
      go_upto_region 5 with (fail)
      refine wp_lin_tail (by kernel_rfl) [none, none, none, none, none, some 16, none, none, none, none, none, none, none, some 0, some 1, some 2, some 3, some 4, some 5, some 6, some 7, some 8, some 9, some 10, some 11, some 12, some 13, some 14, some 15, none, none, none, none, none, none, none, none, none, none, none, none, none, none, none, none, none, none, none, none, none, none, none, none, none, none, none, none, none, none, none, none, none, none, none, none, none, none, none] (fun w' => Below wr.heap.size wr w') (fun w' w'' => Below w'.heap.size w' w'') (H5L g (og + i * 4) i (.slice (some ⟨g, og, none⟩) n c) sp nm kd wr.heap.size) (by rfl) (by kernel_rfl) 17 _ rfl (by decide) (by kernel_rfl) [2, 2, 3, 4, 15, 7, 7, 8, 9, 15, 12, 12, 13, 14, 15, 17, 17] (by kernel_rfl) ?shR ?smono (.cons 16 (Wk.step_of [] rfl (by kernel_rfl) ?s16) (.cons 15 (Wk.step_of [4, 9, 14] rfl (by kernel_rfl) ?s15) (.cons 14 (Wk.step_of [13] rfl (by kernel_rfl) ?s14) (.cons 13 (Wk.step_of [12] rfl (by kernel_rfl) ?s13) (.cons 12 (Wk.step_of [10, 11] rfl (by kernel_rfl) ?s12) (.cons 11 (Wk.step_of [] rfl (by kernel_rfl) ?s11) (.cons 10 (Wk.step_of [] rfl (by kernel_rfl) ?s10) (.cons 9 (Wk.step_of [8] rfl (by kernel_rfl) ?s9) (.cons 8 (Wk.step_of [7] rfl (by kernel_rfl) ?s8) (.cons 7 (Wk.step_of [5, 6] rfl (by kernel_rfl) ?s7) (.cons 6 (Wk.step_of [] rfl (by kernel_rfl) ?s6) (.cons 5 (Wk.step_of [] rfl (by kernel_rfl) ?s5) (.cons 4 (Wk.step_of [3] rfl (by kernel_rfl) ?s4) (.cons 3 (Wk.step_of [2] rfl (by kernel_rfl) ?s3) (.cons 2 (Wk.step_of [0, 1] rfl (by kernel_rfl) ?s2) (.cons 1 (Wk.step_of [] rfl (by kernel_rfl) ?s1) (.cons 0 (Wk.step_of [] rfl (by kernel_rfl) ?s0) (.nil)))))))))))))))))) ?sdone
      case shR => exact (Below.refl _ _).drew
      case smono => exact H5_monoL
      case s0 =>
        intro x' w' hRw hd K' hK
        simp only [All, H5L] at hd
        simp (config := {decide := true}) only [upd, H5L, fillL, if_true, if_false] at hK ⊢
        go_simp
        have hK2 := hK _ _ ⟨hRw, Below.refl _ _, rfl⟩
        exact hK2
      case s1 =>
        intro x' w' hRw hd K' hK
        simp only [All, H5L] at hd
        simp (config := {decide := true}) only [upd, H5L, fillL, if_true, if_false] at hK ⊢
        go_simp
        have hK2 := hK _ _ ⟨hRw, Below.refl _ _, rfl⟩
        exact hK2
      case s2 =>
        intro x' w' hRw hd K' hK
        simp only [All, H5L] at hd
        obtain ⟨e0, e1, _⟩ := hd
        simp (config := {decide := true}) only [upd, H5L, fillL, if_true, if_false] at hK ⊢
        simp only [e0, e1] at hK ⊢
        go_simp
        have hK2 := hK _ _ ⟨hRw, Below.refl _ _, rfl⟩
        exact hK2
      case s3 =>
        intro x' w' hRw hd K' hK
        simp only [All, H5L] at hd
        obtain ⟨e2, _⟩ := hd
        simp (config := {decide := true}) only [upd, H5L, fillL, if_true, if_false] at hK ⊢
        simp only [e2] at hK ⊢
        go_simp
        have hK2 := hK _ _ ⟨hRw, Below.refl _ _, rfl⟩
        exact hK2
      case s4 =>
        intro x' w' hRw hd K' hK
        simp only [All, H5L] at hd
        obtain ⟨e3, _⟩ := hd
        simp (config := {decide := true}) only [upd, H5L, fillL, if_true, if_false] at hK ⊢
        simp only [e3] at hK ⊢
        obtain ⟨y0, y1, y2, y3⟩ := kx.out w' hRw
        go_simp
        have hK2 := hK _ _ ⟨hRw, Below.refl _ _, rfl⟩
        exact hK2
      case s5 =>
        intro x' w' hRw hd K' hK
        simp only [All, H5L] at hd
        simp (config := {decide := true}) only [upd, H5L, fillL, if_true, if_false] at hK ⊢
        go_simp
        have hK2 := hK _ _ ⟨hRw, Below.refl _ _, rfl⟩
        exact hK2
      case s6 =>
        intro x' w' hRw hd K' hK
        simp only [All, H5L] at hd
        simp (config := {decide := true}) only [upd, H5L, fillL, if_true, if_false] at hK ⊢
        go_simp
        have hK2 := hK _ _ ⟨hRw, Below.refl _ _, rfl⟩
        exact hK2
      case s7 =>
        intro x' w' hRw hd K' hK
        simp only [All, H5L] at hd
        obtain ⟨e5, e6, _⟩ := hd
        simp (config := {decide := true}) only [upd, H5L, fillL, if_true, if_false] at hK ⊢
        simp only [e5, e6] at hK ⊢
        go_simp
        have hK2 := hK _ _ ⟨hRw, Below.refl _ _, rfl⟩
        exact hK2
      case s8 =>
        intro x' w' hRw hd K' hK
        simp only [All, H5L] at hd
        obtain ⟨e7, _⟩ := hd
        simp (config := {decide := true}) only [upd, H5L, fillL, if_true, if_false] at hK ⊢
        simp only [e7] at hK ⊢
        go_simp
        have hK2 := hK _ _ ⟨hRw, Below.refl _ _, rfl⟩
        exact hK2
      case s9 =>
        intro x' w' hRw hd K' hK
        simp only [All, H5L] at hd
        obtain ⟨e8, _⟩ := hd
        simp (config := {decide := true}) only [upd, H5L, fillL, if_true, if_false] at hK ⊢
        simp only [e8] at hK ⊢
        obtain ⟨y0, y1, y2, y3⟩ := kx.out w' hRw
        go_simp
        have hK2 := hK _ _ ⟨hRw, Below.refl _ _, rfl⟩
        exact hK2
      case s10 =>
        intro x' w' hRw hd K' hK
        simp only [All, H5L] at hd
        simp (config := {decide := true}) only [upd, H5L, fillL, if_true, if_false] at hK ⊢
        go_simp
        have hK2 := hK _ _ ⟨hRw, Below.refl _ _, rfl⟩
        exact hK2
      case s11 =>
        intro x' w' hRw hd K' hK
        simp only [All, H5L] at hd
        simp (config := {decide := true}) only [upd, H5L, fillL, if_true, if_false] at hK ⊢
        go_simp
        have hK2 := hK _ _ ⟨hRw, Below.refl _ _, rfl⟩
        exact hK2
      case s12 =>
        intro x' w' hRw hd K' hK
        simp only [All, H5L] at hd
        obtain ⟨e10, e11, _⟩ := hd
        simp (config := {decide := true}) only [upd, H5L, fillL, if_true, if_false] at hK ⊢
        simp only [e10, e11] at hK ⊢
        go_simp
        have hK2 := hK _ _ ⟨hRw, Below.refl _ _, rfl⟩
        exact hK2
      case s13 =>
        intro x' w' hRw hd K' hK
        simp only [All, H5L] at hd
        obtain ⟨e12, _⟩ := hd
        simp (config := {decide := true}) only [upd, H5L, fillL, if_true, if_false] at hK ⊢
        simp only [e12] at hK ⊢
        go_simp
        have hK2 := hK _ _ ⟨hRw, Below.refl _ _, rfl⟩
        exact hK2
      case s14 =>
        intro x' w' hRw hd K' hK
        simp only [All, H5L] at hd
        obtain ⟨e13, _⟩ := hd
        simp (config := {decide := true}) only [upd, H5L, fillL, if_true, if_false] at hK ⊢
        simp only [e13] at hK ⊢
        obtain ⟨y0, y1, y2, y3⟩ := kx.out w' hRw
        go_simp
        have hK2 := hK _ _ ⟨hRw, Below.refl _ _, rfl⟩
        exact hK2
      case s15 =>
        intro x' w' hRw hd K' hK
        simp only [All, H5L] at hd
        obtain ⟨e4, e9, e14, _⟩ := hd
        simp (config := {decide := true}) only [upd, H5L, fillL, if_true, if_false] at hK ⊢
        simp only [e4, e9, e14] at hK ⊢
        go_simp
        have hK2 := hK _ _ ⟨hRw, Below.refl _ _, rfl⟩
        exact hK2
      case s16 =>
        intro x' w' hRw hd K' hK
        simp only [All, H5L] at hd
        simp (config := {decide := true}) only [upd, H5L, fillL, if_true, if_false] at hK ⊢
        go_simp
        have hba : Below w'.heap.size w' (w'.alloc (.cells #[.string ⟨#[]⟩, .string ⟨#[]⟩, .int .i64 0, .slice none 0 0] 43)) := (Below.refl _ _).alloc (Nat.le_refl _) _
        have hK2 := hK _ _ ⟨bthen hRw hba, hba, _, rfl, Blk.new w' 43 _, hRw.size⟩
        exact hK2
      case sdone =>
        intro x' w5 hR5 hG fr hfr
        have e15 := hG 15 (by omega)
        have e16 := hG 16 (by omega)
        simp only [H5L] at e15 e16
        obtain ⟨q, e16, hq, hqS'⟩ := e16
        simp only [fillL] at hfr
        rw [e15, e16] at hfr
        clear hG e15 e16
        subst hfr
        refine wpList_store_row rfl 43 _ _ rfl q #[.string sp, .string nm, .int .i64 kd, .slice none 0 0] rfl rfl 43 _ hq (by kernel_rfl) rfl (by simp [Value.oneCell']) ?_
        obtain ⟨W5, hW5⟩ : ∃ W, W = w5.setRow q #[.string sp, .string nm, .int .i64 kd, .slice none 0 0] := ⟨_, rfl⟩
        rw [← hW5]
        have hQ5 : Blk W5 q 43 #[.string sp, .string nm, .int .i64 kd, .slice none 0 0] := by rw [hW5]; exact setRow_heap _ _ _ _ _ _ hq
        have hB45 : Below wr.heap.size wr W5 := by
          rw [hW5]
          exact ⟨hR5.os, hR5.tape, hR5.output, by rw [setRow_size]; exact hR5.size, fun k hk => (setRow_other _ _ _ _ (by omega)).trans (hR5.block k hk)⟩
        have hqS := hQ5.lt
        have hW45 := hB45.size
        obtain ⟨SV, hSV⟩ : ∃ v, v = Value.slice a3 m3 c3 := ⟨_, rfl⟩
        rw [← hW4.out] at hB45 hW45
        have hO4 := hO3.out
        have hIt4 := hIt.out
        have kx4 := kx.out
        have he4 := he.out.below hB.out
        have hB4 := hB.out
        have hq4 : W4.heap.size ≤ q := by rw [hW4.out]; exact hqS'
        rw [← hW4.out] at hO4 hIt4 kx4 he4 hB4
        replace hO4 := Lib.hid hO4
        replace hIt4 := Lib.hid hIt4
        replace kx4 := Lib.hid kx4
        replace he4 := Lib.hid he4
        replace hB4 := Lib.hid hB4
        replace hQ5 := Lib.hid hQ5
        replace hB45 := Lib.hid hB45
        replace hqS := Lib.hid hqS
        replace hW45 := Lib.hid hW45
        replace hW5 := Lib.hid hW5
        replace hq4 := Lib.hid hq4
        clear hR5 hq hqS' hSV SV
        go_wp2
        go_loopw [6] (fun s6 wv => ∃ (k : Nat) (a : Option Addr) (ck : Nat), k ≤ m ∧ s6 = .int .i64 k ∧ Blk wv q 43 #[.string sp, .string nm, .int .i64 kd, .slice a k ck] ∧ wv.ownsRow W5.heap.size 58 2 (.slice a k ck) k (flatE (it.take k)) ∧ Below W4.heap.size W5 wv) (fun s6 _ => m - (RowKit.intOf s6).toNat)
        case atStart => exact ⟨0, none, 0, Nat.zero_le _, rfl, hQ5.out, World.ownsRow_nil _ _ _ _, Below.refl _ _⟩
        case round =>
          obtain ⟨k, a, ck, hk, rfl, hQ, hO, hB5⟩ := hrel
          have hBx := hB45.out.trans hB5
          obtain ⟨x0, x1, x2, x3⟩ := kx4.out wr hBx
          by_cases hkm : k < m
          · have hkl : k < it.length := by rw [← hm9.out]; exact hkm
            obtain ⟨gg, oo, rfl, hcs⟩ := he4.out (by omega)
            obtain ⟨w0, w1⟩ := hcs k hkl
            have v0 := (hBx.cell (cell_lt w0)).trans w0
            have v1 := (hBx.cell (cell_lt w1)).trans w1
            have htk : it.take (k + 1) = it.take k ++ [it[k]] := List.take_succ_eq_append_getElem hkl
            generalize it[k] = en at w0 w1 v0 v1 htk
            obtain ⟨L, T⟩ := en
            simp only at w0 w1 v0 v1
            have hBz := hBx.size
            have ke := fun W (hW : Below wr.heap.size wr W) => And.intro ((hW.cell (cell_lt v0)).trans v0) ((hW.cell (cell_lt v1)).trans v1)
            have kx2 := fun W (hW : Below wr.heap.size wr W) => kx4.out W (hBx.trans (hW.mono hBz))
            have kq := fun W (hW : Below wr.heap.size wr W) => blk4 (hQ.below hW hQ.lt)
            have hkit : k ≤ it.length := by omega
            replace ke := Lib.hid ke
            replace kx2 := Lib.hid kx2
            replace kq := Lib.hid kq
            replace htk := Lib.hid htk
            replace hQ := Lib.hid hQ
            replace hO := Lib.hid hO
            replace hB5 := Lib.hid hB5
            clear hcs w0 w1 v0 v1 hBx x0 x1
            go_upto_region 9 with (fail)
            refine wp_lin_tail (by kernel_rfl) [none, none, none, none, none, none, none, none, none, none, none, none, none, none, none, none, none, none, none, none, none, none, none, none, none, none, none, none, none, none, none, none, none, none, none, none, none, none, none, some 0, some 1, some 2, some 3, some 4, some 5, some 6, some 7, some 8, some 9, some 10, some 11, some 12, some 13, some 14, some 15, some 16, some 17, some 18, some 19, some 20, some 21, none, none, none, none, none, none, none] (fun w' => Below wr.heap.size wr w') (fun w' w'' => Below w'.heap.size w' w'') (H9L q g (og + i * 4) i gg (oo + k * 2) k (.slice (some ⟨g, og, none⟩) n c) (.slice a k ck) (.slice (some ⟨gg, oo, none⟩) m cB) L T wr.heap.size) (by rfl) (by kernel_rfl) 22 _ rfl (by decide) (by kernel_rfl) [1, 22, 4, 4, 5, 6, 8, 8, 9, 10, 20, 13, 13, 14, 15, 17, 17, 18, 19, 20, 21, 22] (by kernel_rfl) ?thR ?tmono (.cons 21 (Wk.step_of [20] rfl (by kernel_rfl) ?t21) (.cons 20 (Wk.step_of [10, 19] rfl (by kernel_rfl) ?t20) (.cons 19 (Wk.step_of [18] rfl (by kernel_rfl) ?t19) (.cons 18 (Wk.step_of [17] rfl (by kernel_rfl) ?t18) (.cons 17 (Wk.step_of [15, 16] rfl (by kernel_rfl) ?t17) (.cons 16 (Wk.step_of [] rfl (by kernel_rfl) ?t16) (.cons 15 (Wk.step_of [14] rfl (by kernel_rfl) ?t15) (.cons 14 (Wk.step_of [13] rfl (by kernel_rfl) ?t14) (.cons 13 (Wk.step_of [11, 12] rfl (by kernel_rfl) ?t13) (.cons 12 (Wk.step_of [] rfl (by kernel_rfl) ?t12) (.cons 11 (Wk.step_of [] rfl (by kernel_rfl) ?t11) (.cons 10 (Wk.step_of [9] rfl (by kernel_rfl) ?t10) (.cons 9 (Wk.step_of [8] rfl (by kernel_rfl) ?t9) (.cons 8 (Wk.step_of [6, 7] rfl (by kernel_rfl) ?t8) (.cons 7 (Wk.step_of [] rfl (by kernel_rfl) ?t7) (.cons 6 (Wk.step_of [5] rfl (by kernel_rfl) ?t6) (.cons 5 (Wk.step_of [4] rfl (by kernel_rfl) ?t5) (.cons 4 (Wk.step_of [2, 3] rfl (by kernel_rfl) ?t4) (.cons 3 (Wk.step_of [] rfl (by kernel_rfl) ?t3) (.cons 2 (Wk.step_of [] rfl (by kernel_rfl) ?t2) (.cons 1 (Wk.step_of [0] rfl (by kernel_rfl) ?t1) (.cons 0 (Wk.step_of [] rfl (by kernel_rfl) ?t0) (.nil))))))))))))))))))))))) ?tdone
            case thR => exact (Below.refl _ _).drew
            case tmono => exact H9_monoL
            case t0 =>
              intro x' w' hRw hd K' hK
              simp only [All, H9L] at hd
              simp (config := {decide := true}) only [upd, H9L, fillL, if_true, if_false] at hK ⊢
              go_simp
              have hK2 := hK _ _ ⟨hRw, Below.refl _ _, rfl⟩
              exact hK2
            case t1 =>
              intro x' w' hRw hd K' hK
              simp only [All, H9L] at hd
              obtain ⟨e0, _⟩ := hd
              simp (config := {decide := true}) only [upd, H9L, fillL, if_true, if_false] at hK ⊢
              simp only [e0] at hK ⊢
              obtain ⟨z0, z1, z2, z3⟩ := kq.out w' hRw
              go_simp
              have hK2 := hK _ _ ⟨hRw, Below.refl _ _, rfl⟩
              exact hK2
            case t2 =>
              intro x' w' hRw hd K' hK
              simp only [All, H9L] at hd
              simp (config := {decide := true}) only [upd, H9L, fillL, if_true, if_false] at hK ⊢
              go_simp
              have hK2 := hK _ _ ⟨hRw, Below.refl _ _, rfl⟩
              exact hK2
            case t3 =>
              intro x' w' hRw hd K' hK
              simp only [All, H9L] at hd
              simp (config := {decide := true}) only [upd, H9L, fillL, if_true, if_false] at hK ⊢
              go_simp
              have hK2 := hK _ _ ⟨hRw, Below.refl _ _, rfl⟩
              exact hK2
            case t4 =>
              intro x' w' hRw hd K' hK
              simp only [All, H9L] at hd
              obtain ⟨e2, e3, _⟩ := hd
              simp (config := {decide := true}) only [upd, H9L, fillL, if_true, if_false] at hK ⊢
              simp only [e2, e3] at hK ⊢
              go_simp
              have hK2 := hK _ _ ⟨hRw, Below.refl _ _, rfl⟩
              exact hK2
            case t5 =>
              intro x' w' hRw hd K' hK
              simp only [All, H9L] at hd
              obtain ⟨e4, _⟩ := hd
              simp (config := {decide := true}) only [upd, H9L, fillL, if_true, if_false] at hK ⊢
              simp only [e4] at hK ⊢
              go_simp
              have hK2 := hK _ _ ⟨hRw, Below.refl _ _, rfl⟩
              exact hK2
            case t6 =>
              intro x' w' hRw hd K' hK
              simp only [All, H9L] at hd
              obtain ⟨e5, _⟩ := hd
              simp (config := {decide := true}) only [upd, H9L, fillL, if_true, if_false] at hK ⊢
              simp only [e5] at hK ⊢
              obtain ⟨y0, y1, y2, y3⟩ := kx2.out w' hRw
              go_simp
              have hK2 := hK _ _ ⟨hRw, Below.refl _ _, rfl⟩
              exact hK2
            case t7 =>
              intro x' w' hRw hd K' hK
              simp only [All, H9L] at hd
              simp (config := {decide := true}) only [upd, H9L, fillL, if_true, if_false] at hK ⊢
              go_simp
              have hK2 := hK _ _ ⟨hRw, Below.refl _ _, rfl⟩
              exact hK2
            case t8 =>
              intro x' w' hRw hd K' hK
              simp only [All, H9L] at hd
              obtain ⟨e6, e7, _⟩ := hd
              simp (config := {decide := true}) only [upd, H9L, fillL, if_true, if_false] at hK ⊢
              simp only [e6, e7] at hK ⊢
              go_simp
              have hK2 := hK _ _ ⟨hRw, Below.refl _ _, rfl⟩
              exact hK2
            case t9 =>
              intro x' w' hRw hd K' hK
              simp only [All, H9L] at hd
              obtain ⟨e8, _⟩ := hd
              simp (config := {decide := true}) only [upd, H9L, fillL, if_true, if_false] at hK ⊢
              simp only [e8] at hK ⊢
              go_simp
              have hK2 := hK _ _ ⟨hRw, Below.refl _ _, rfl⟩
              exact hK2
            case t10 =>
              intro x' w' hRw hd K' hK
              simp only [All, H9L] at hd
              obtain ⟨e9, _⟩ := hd
              simp (config := {decide := true}) only [upd, H9L, fillL, if_true, if_false] at hK ⊢
              simp only [e9] at hK ⊢
              obtain ⟨v0, v1⟩ := ke.out w' hRw
              go_simp
              have hK2 := hK _ _ ⟨hRw, Below.refl _ _, rfl⟩
              exact hK2
            case t11 =>
              intro x' w' hRw hd K' hK
              simp only [All, H9L] at hd
              simp (config := {decide := true}) only [upd, H9L, fillL, if_true, if_false] at hK ⊢
              go_simp
              have hK2 := hK _ _ ⟨hRw, Below.refl _ _, rfl⟩
              exact hK2
            case t12 =>
              intro x' w' hRw hd K' hK
              simp only [All, H9L] at hd
              simp (config := {decide := true}) only [upd, H9L, fillL, if_true, if_false] at hK ⊢
              go_simp
              have hK2 := hK _ _ ⟨hRw, Below.refl _ _, rfl⟩
              exact hK2
            case t13 =>
              intro x' w' hRw hd K' hK
              simp only [All, H9L] at hd
              obtain ⟨e11, e12, _⟩ := hd
              simp (config := {decide := true}) only [upd, H9L, fillL, if_true, if_false] at hK ⊢
              simp only [e11, e12] at hK ⊢
              go_simp
              have hK2 := hK _ _ ⟨hRw, Below.refl _ _, rfl⟩
              exact hK2
            case t14 =>
              intro x' w' hRw hd K' hK
              simp only [All, H9L] at hd
              obtain ⟨e13, _⟩ := hd
              simp (config := {decide := true}) only [upd, H9L, fillL, if_true, if_false] at hK ⊢
              simp only [e13] at hK ⊢
              go_simp
              have hK2 := hK _ _ ⟨hRw, Below.refl _ _, rfl⟩
              exact hK2
            case t15 =>
              intro x' w' hRw hd K' hK
              simp only [All, H9L] at hd
              obtain ⟨e14, _⟩ := hd
              simp (config := {decide := true}) only [upd, H9L, fillL, if_true, if_false] at hK ⊢
              simp only [e14] at hK ⊢
              obtain ⟨y0, y1, y2, y3⟩ := kx2.out w' hRw
              go_simp
              have hK2 := hK _ _ ⟨hRw, Below.refl _ _, rfl⟩
              exact hK2
            case t16 =>
              intro x' w' hRw hd K' hK
              simp only [All, H9L] at hd
              simp (config := {decide := true}) only [upd, H9L, fillL, if_true, if_false] at hK ⊢
              go_simp
              have hK2 := hK _ _ ⟨hRw, Below.refl _ _, rfl⟩
              exact hK2
            case t17 =>
              intro x' w' hRw hd K' hK
              simp only [All, H9L] at hd
              obtain ⟨e15, e16, _⟩ := hd
              simp (config := {decide := true}) only [upd, H9L, fillL, if_true, if_false] at hK ⊢
              simp only [e15, e16] at hK ⊢
              go_simp
              have hK2 := hK _ _ ⟨hRw, Below.refl _ _, rfl⟩
              exact hK2
            case t18 =>
              intro x' w' hRw hd K' hK
              simp only [All, H9L] at hd
              obtain ⟨e17, _⟩ := hd
              simp (config := {decide := true}) only [upd, H9L, fillL, if_true, if_false] at hK ⊢
              simp only [e17] at hK ⊢
              go_simp
              have hK2 := hK _ _ ⟨hRw, Below.refl _ _, rfl⟩
              exact hK2
            case t19 =>
              intro x' w' hRw hd K' hK
              simp only [All, H9L] at hd
              obtain ⟨e18, _⟩ := hd
              simp (config := {decide := true}) only [upd, H9L, fillL, if_true, if_false] at hK ⊢
              simp only [e18] at hK ⊢
              obtain ⟨v0, v1⟩ := ke.out w' hRw
              go_simp
              have hK2 := hK _ _ ⟨hRw, Below.refl _ _, rfl⟩
              exact hK2
            case t20 =>
              intro x' w' hRw hd K' hK
              simp only [All, H9L] at hd
              obtain ⟨e10, e19, _⟩ := hd
              simp (config := {decide := true}) only [upd, H9L, fillL, if_true, if_false] at hK ⊢
              simp only [e10, e19] at hK ⊢
              go_simp
              have hK2 := hK _ _ ⟨hRw, Below.refl _ _, rfl⟩
              exact hK2
            case t21 =>
              intro x' w' hRw hd K' hK
              simp only [All, H9L] at hd
              obtain ⟨e20, _⟩ := hd
              simp (config := {decide := true}) only [upd, H9L, fillL, if_true, if_false] at hK ⊢
              simp only [e20] at hK ⊢
              go_simp
              have hba : Below w'.heap.size w' (w'.alloc (.cells #[.string L, .string T] 58)) := (Below.refl _ _).alloc (Nat.le_refl _) _
              have hK2 := hK _ _ ⟨bthen hRw hba, hba, _, rfl, Blk.new w' 58 _, hRw.size⟩
              exact hK2
            case tdone =>
              intro x' w6 hR6 hG fr hfr
              have a1 := hG 1 (by omega)
              have a21 := hG 21 (by omega)
              simp only [H9L] at a1 a21
              clear hG
              obtain ⟨r, a21, hr, hrs⟩ := a21
              simp only [fillL] at hfr
              rw [a1, a21] at hfr
              clear a1 a21
              subst hfr
              have hO6 := row_kept hO.out hR6
              have hQ6 := hQ.out.below hR6 hQ.out.lt
              have hB6 := hB5.out.trans (hR6.mono (by have := hB5.out.size; have := hW45.out; omega))
              refine wpList_app_entL rfl _ _ rfl W5.heap.size a k ck (it.take k) (by rw [List.length_take]; omega) rfl hO6 r L T rfl hr (by omega) (by have := hB6.size; omega) ?_
              intro A' c' w7 h71 h72
              have hQ7 : Blk w7 q 43 #[.string sp, .string nm, .int .i64 kd, .slice a k ck] := hQ6.grown h72 (fun e => by have := (row_lt hO6 e.symm).1; have := hqS.out; omega)
              have hB7 : Below W4.heap.size W5 w7 := hB6.grown h72 (by have := hB6.size; have := hW45.out; omega) (fun z hz => by have := (row_lt hO6 hz).1; have := hW45.out; omega)
              have hO7 : w7.ownsRow W5.heap.size 58 2 (.slice A' (k + 1) c') (k + 1) (flatE (it.take (k + 1))) := by rw [htk.out]; exact h71
              clear h71 h72 hO6 hQ6 hB6
              have l7 := hQ7.cell 3
              have f7 := hQ7.frozen 3
              have hQ8 := hQ7.set_ 3 (.slice A' (k + 1) c')
              have hgr := set_gr w7 q 3 (.slice A' (k + 1) c')
              have hO8 := hO7.kept hgr (by
                cases e : (Value.slice A' (k + 1) c').ownBlock with
                | none => exact .inl rfl
                | some z => refine .inr fun e2 => ?_; injection e2 with e2; have := (row_lt hO7 e).1; have := hqS.out; omega)
              have hB8 := hB7.grown hgr (by have := hB7.size; have := hW45.out; omega) (fun z hz => by injection hz with hz; have := hq4.out; omega)
              replace hQ8 := Lib.hid hQ8
              replace hO8 := Lib.hid hO8
              replace hB8 := Lib.hid hB8
              clear hQ7 hO7 hB7 hgr
              go_wp2
              go_roundw
              case rel => exact ⟨k + 1, A', c', by omega, by go_num, hQ8.out, hO8.out, hB8.out⟩
              case measure => simp [RowKit.intOf]; omega
          · obtain rfl : k = m := by omega
            have hTk : it.take k = it := by rw [hm9.out, List.take_length]
            rw [hTk] at hO
            obtain ⟨z0, z1, z2, z3⟩ := blk4 hQ
            have hbA := (Below.refl wr.heap.size wr).alloc (Nat.le_refl _) (.cells #[.string sp, .string nm, .int .i64 kd, .slice a k ck] 43)
            obtain ⟨WA, hWA⟩ : ∃ W, W = wr.alloc (.cells #[.string sp, .string nm, .int .i64 kd, .slice a k ck] 43) := ⟨_, rfl⟩
            have hQA : Blk WA wr.heap.size 43 (prs (⟨sp, nm, kd, it⟩, a, ck)).toArray := by
              unfold prs; simp only; rw [← hm9.out, hWA]; exact Blk.new wr 43 _
            rw [← hWA] at hbA
            have hBA := hBx.trans (hbA.mono hBx.size)
            have hOA := row_kept hO4.out hBA
            have hIA : ∀ x ∈ o, ItemRowL WA w.heap.size x := fun x hx => row_kept (hIt4.out x hx) hBA
            have hIN : ItemRowL WA w.heap.size (⟨sp, nm, kd, it⟩, a, ck) := by
              have h1 := row_base (row_kept hO hbA) (show w.heap.size ≤ W5.heap.size by have := hB4.out.size; have := hW45.out; omega)
              unfold ItemRowL; simp only; rw [← hm9.out]; exact h1
            have hBw := hB4.out.trans (hBA.mono hB4.out.size)
            have hzA := hBw.size
            replace hQA := Lib.hid hQA
            replace hOA := Lib.hid hOA
            replace hIA := Lib.hid hIA
            replace hIN := Lib.hid hIN
            replace hBw := Lib.hid hBw
            clear hbA hBA hTk hBx hQ hO hB5 x0 x1 x2
            replace hWA := Lib.hid hWA
            go_upto_region 4 with (rw [← hWA.out]; refine wpList_app_propL rfl _ _ rfl w.heap.size _ o rfl hOA.out wr.heap.size (⟨sp, nm, kd, it⟩, a, ck) rfl hQA.out (by have := hol.out; omega) hzA ?_; intro A9 n9 c9 w9 h91 h92; replace h91 := Lib.hid h91; replace h92 := Lib.hid h92)
            have hB9 := hBw.out.grown h92.out hzA (fun z hz => (hOA.out.lt z hz).1)
            have hI9 : ∀ x ∈ o ++ [(⟨sp, nm, kd, it⟩, a, ck)], ItemRowL w9 w.heap.size x := fun x hx => by
              rcases List.mem_append.1 hx with h | h
              · exact (hIA.out x h).kept h92.out (rows_apart (hIA.out x h) hOA.out (by decide))
              · rw [List.mem_singleton.1 h]; exact hIN.out.kept h92.out (rows_apart hIN.out hOA.out (by decide))
            replace hB9 := Lib.hid hB9
            replace hI9 := Lib.hid hI9
            go_wp2
            go_roundw
            case rel => exact ⟨i + 1, _, by omega, by go_num, ⟨_, _, _, rfl⟩, by rw [List.length_append, hol.out]; rfl, by rw [hnx.out]; unfold pl; rw [List.map_append]; rfl, h91.out, hI9.out, hB9.out⟩
            case measure => simp [RowKit.intOf]; omega
    · obtain rfl : i = n := by omega
      have hpo2 : pl o = pl l := by rw [hpo, hnn.out, ← pl_len l, List.take_length]
      obtain ⟨A9, g9, c9, e9, hA9, hc9, hx9⟩ := row_outL hO3
      injection e9 with e9 e10 e11
      subst e9 e10 e11
      have hI9 : ∀ x ∈ o, GoodP wr x := fun x hx => by
        obtain ⟨h1, h2⟩ := item_outL (hIt x hx)
        have h3 : x.1 ∈ pl l := by rw [← hpo2]; unfold pl; exact List.mem_map_of_mem hx
        unfold pl at h3
        obtain ⟨y, hy, e⟩ := List.mem_map.1 h3
        have h4 := hs.out y hy
        rw [e] at h4
        exact ⟨h1, h2, h4⟩
      replace hpo2 := Lib.hid hpo2
      replace hx9 := Lib.hid hx9
      replace hI9 := Lib.hid hI9
      replace hA9 := Lib.hid hA9
      replace hB := Lib.hid hB
      replace hIt := Lib.hid hIt
      replace hO3 := Lib.hid hO3
      replace hpo := Lib.hid hpo
      replace hol := Lib.hid hol
      go_wp2
      go_ret
      exact ⟨hB.out, o, a3, g9, c3, rfl, hpo2.out, hA9.out, hc9, hx9.out, hI9.out⟩
end Go.Proofs.YtkpikpaepgknnaaGreatDoor

/- Two properties that are the same are told so. No condition. -/
namespace Go.Proofs.YtkpikpaepgknnaaGreatDoor
open Go Go.RowKit Go.Wk Go.Xt Go.Xe Go.Xw
theorem ent_neq (w : World) (L T : ByteArray) : (binOp .neq 58 (.agg #[.string L, .string T]) (.agg #[.string L, .string T])).run Tryz.prog w = .ok (.bool false) w := by
  rw [run_neq_struct, run_equalIn_agg w 9999 58 _ _ (by kernel_rfl) (by kernel_rfl)]
  simp only [Program.fieldsOf, Tryz.underlying58]
  simp [go_sem, Op.eqFields]
set_option maxHeartbeats 8000000 in
set_option maxRecDepth 100000 in
theorem ref_SameProps {w : World} (g1 o1 c1 g2 o2 c2 : Nat) (sp nm : ByteArray) (kd : Int) (it : List (ByteArray × ByteArray)) (A1 A2 : Option Addr) (d1 d2 : Nat) (hn : it.length ≤ 20) (hd1 : it.length ≤ d1) (hd2 : it.length ≤ d2)
    (h0 : w.cell? ⟨g1, o1, none⟩ = some (.string sp)) (h1 : w.cell? ⟨g1, o1 + 1, none⟩ = some (.string nm)) (h2 : w.cell? ⟨g1, o1 + 2, none⟩ = some (.int .i64 kd)) (h3 : w.cell? ⟨g1, o1 + 3, none⟩ = some (.slice A1 it.length d1))
    (k0 : w.cell? ⟨g2, o2, none⟩ = some (.string sp)) (k1 : w.cell? ⟨g2, o2 + 1, none⟩ = some (.string nm)) (k2 : w.cell? ⟨g2, o2 + 2, none⟩ = some (.int .i64 kd)) (k3 : w.cell? ⟨g2, o2 + 3, none⟩ = some (.slice A2 it.length d2))
    (hE1 : EnsAt w A1 it) (hE2 : EnsAt w A2 it) :
    Calls Tryz.prog 16 #[.slice (some ⟨g1, o1, none⟩) 1 c1, .slice (some ⟨g2, o2, none⟩) 1 c2] w fun e w' => e = .returned (.bool true) ∧ Below w.heap.size w w' := by
  obtain ⟨m, hm⟩ : ∃ m, m = it.length := ⟨_, rfl⟩
  rw [← hm] at hn hd1 hd2 h3 k3
  replace hm := Lib.hid hm
  replace hE1 := Lib.hid hE1
  replace hE2 := Lib.hid hE2
  have hq := ent_neq
  go_enter Tryz.func16, Tryz.ntmps16
  go_wp2
  refine wp_loop_rounds 2 ?_; rw [rounds_succ]
  go_wp2_with fail
  go_quiet (fail)
  go_wp2
  go_loopw [6] (fun s6 wx => ∃ k q : Nat, k ≤ m ∧ s6 = .int .i64 k ∧ wx = w.drewN q) (fun s6 _ => m - (RowKit.intOf s6).toNat)
  case atStart => exact ⟨0, nq, Nat.zero_le _, rfl, rfl⟩
  case round =>
    obtain ⟨k, q, hk, rfl, rfl⟩ := hrel
    by_cases hkm : k < m
    · have hkl : k < it.length := by rw [← hm.out]; exact hkm
      obtain ⟨ga, oa, rfl, hca⟩ := hE1.out (by omega)
      obtain ⟨gb, ob, rfl, hcb⟩ := hE2.out (by omega)
      obtain ⟨a0, a1⟩ := hca k hkl
      obtain ⟨b0, b1⟩ := hcb k hkl
      have hq2 := hq
      generalize it[k].1 = L at a0 b0
      generalize it[k].2 = T at a1 b1
      clear hca hcb
      replace hkl := Lib.hid hkl
      go_wp2_with fail
      go_quiet (fail)
      go_wp2
      go_roundw
      case rel => exact ⟨k + 1, _, by omega, by go_num, rfl⟩
      case measure => simp [RowKit.intOf]; omega
    · obtain rfl : k = m := by omega
      go_wp2
      rw [rounds_succ]
      go_wp2
      go_ret
      exact ⟨rfl, (Below.refl _ _).trans ⟨rfl, rfl, rfl, Nat.le_refl _, fun _ _ => rfl⟩⟩
end Go.Proofs.YtkpikpaepgknnaaGreatDoor

/- Properties added are there, in their order; the law's plain facts. No condition. -/
namespace Go.Proofs.YtkpikpaepgknnaaGreatDoor
open Go Go.RowKit Go.Wk Go.Xt Go.Xe Go.Xw
theorem add_some {l r : List Pr} {p : Pr} (h : addP l p = some r) : r = insP p l ∧ hasP p l = false ∧ (p.sp.toList == rdfL) = false := by
  have e : addP l p = if hasP p l || p.sp.toList == rdfL then none else some (insP p l) := rfl
  rw [e] at h
  cases h1 : hasP p l <;> cases h2 : (p.sp.toList == rdfL) <;> rw [h1, h2] at h <;> simp at h
  exact ⟨h.symm, rfl, rfl⟩
theorem ins_mem {p q : Pr} {l : List Pr} : q ∈ insP p l ↔ q = p ∨ q ∈ l := by
  unfold insP
  rw [List.mem_append, List.mem_cons]
  constructor
  · rintro (h | h | h)
    · exact .inr (List.mem_of_mem_take h)
    · exact .inl h
    · exact .inr (List.mem_of_mem_drop h)
  · rintro (h | h)
    · exact .inr (.inl h)
    · rw [← List.take_append_drop (posP p l) l] at h
      rcases List.mem_append.1 h with h | h
      · exact .inl h
      · exact .inr (.inr h)
theorem ins_length (p : Pr) (l : List Pr) : (insP p l).length = l.length + 1 := by
  have := pos_le p l
  unfold insP
  rw [List.length_append, List.length_cons, List.length_take, List.length_drop]
  omega
theorem addAll_ok : ∀ (ps acc R : List Pr), addAll acc ps = some R → Sorted acc → (∀ p ∈ acc, mayB p = true ∧ (p.sp.toList == rdfL) = false) →
    Sorted R ∧ (∀ p ∈ R, mayB p = true ∧ (p.sp.toList == rdfL) = false) ∧ (∀ p, p ∈ R ↔ p ∈ acc ∨ p ∈ ps) ∧ R.length = acc.length + ps.length
  | [], acc, R, h, hs, ha => by
    have : acc = R := by simpa [addAll] using h
    subst this
    exact ⟨hs, ha, fun p => by simp, by simp⟩
  | p :: ps, acc, R, h, hs, ha => by
    rw [addAll_cons] at h
    cases hm : mayB p with
    | false => rw [hm] at h; simp at h
    | true =>
      rw [hm, if_pos rfl] at h
      cases hp : addP acc p with
      | none => rw [hp] at h; cases h
      | some l =>
        rw [hp] at h
        obtain ⟨rfl, h1, h2⟩ := add_some hp
        obtain ⟨k1, k2, k3, k4⟩ := addAll_ok ps (insP p acc) R h (sorted_ins hs h1) (fun q hq => by
          rcases ins_mem.1 hq with rfl | hq
          · exact ⟨hm, h2⟩
          · exact ha q hq)
        refine ⟨k1, k2, fun q => ?_, by rw [k4, ins_length, List.length_cons]; omega⟩
        rw [k3, ins_mem, List.mem_cons]
        constructor
        · rintro ((h | h) | h)
          · exact .inr (.inl h)
          · exact .inl h
          · exact .inr (.inr h)
        · rintro (h | h | h)
          · exact .inl (.inr h)
          · exact .inl (.inl h)
          · exact .inr h
/-- in a sorted list there is one of a name -/
theorem sorted_one {R : List Pr} (hs : Sorted R) {p q : Pr} (hp : p ∈ R) (hq : q ∈ R) (h1 : p.sp.toList = q.sp.toList) (h2 : p.nm.toList = q.nm.toList) : p = q := by
  obtain ⟨i, hi, rfl⟩ := List.getElem_of_mem hp
  obtain ⟨j, hj, rfl⟩ := List.getElem_of_mem hq
  have he : eqP R[i] R[j] = true := by
    unfold eqP
    rw [show (R[i]).s = (R[j]).s from h1, show (R[i]).n = (R[j]).n from h2]
    simp
  rcases Nat.lt_trichotomy i j with h | h | h
  · have := (ltP_not (sorted_at hs h hj)).2.1
    rw [he] at this; cases this
  · subst h; rfl
  · have := (ltP_not (sorted_at hs h hi)).2.2
    rw [he] at this; cases this
theorem isF_self (p : Pr) : isF p.sp p.nm p = true := by unfold isF; simp
theorem isF_eq {p q : Pr} (h : isF p.sp p.nm q = true) : q.sp.toList = p.sp.toList ∧ q.nm.toList = p.nm.toList := by
  unfold isF at h
  simp only [Bool.and_eq_true, beq_iff_eq] at h
  exact h
theorem ord_facts {spa nma spb nmb : ByteArray} {kda kdb : Int} {ita itb : List (ByteArray × ByteArray)} (h : ltP (Pr.mk spb nmb kdb itb) (Pr.mk spa nma kda ita) = true) :
    Op.bytesLess spa.toList spb.toList = false ∧ ((spa.toList == spb.toList) = false ∨ (spa.toList == spb.toList) = true ∧ Op.bytesLess nma.toList nmb.toList = false ∧ (nma.toList == nmb.toList) = false) := by
  have e : ltP (Pr.mk spb nmb kdb itb) (Pr.mk spa nma kda ita) = (lt spb.toList spa.toList || (spb.toList == spa.toList && lt nmb.toList nma.toList)) := rfl
  rw [e, Bool.or_eq_true, Bool.and_eq_true, beq_iff_eq] at h
  rcases h with h | ⟨h1, h2⟩
  · refine ⟨lt_asym h, .inl ?_⟩
    rw [beq_eq_false_iff_ne]
    intro e
    rw [e, lt_irr] at h
    cases h
  · refine ⟨by rw [h1]; exact lt_irr _, .inr ⟨by rw [h1]; simp, lt_asym h2, ?_⟩⟩
    rw [beq_eq_false_iff_ne]
    intro e
    rw [e, lt_irr] at h2
    cases h2
theorem one_props {w : World} (q : Nat) (y : Pr) (A : Option Addr) (c : Nat) (hq : Blk w q 38 (prs (y, A, c)).toArray) (hE : EnsAt w A y.it) (hc : y.it.length ≤ c) (hs : Xw.Small y) :
    Calls Tryz.prog 17 #[.slice (some ⟨q, 0, none⟩) 1 1] w fun e w' => Below w.heap.size w w' ∧ ∃ g6 c6 A6 d6, e = .returned (.slice (some ⟨g6, 0, none⟩) 1 c6) ∧ w'.cell? ⟨g6, 0, none⟩ = some (.string y.sp) ∧ w'.cell? ⟨g6, 1, none⟩ = some (.string y.nm) ∧ w'.cell? ⟨g6, 2, none⟩ = some (.int .i64 y.kd) ∧ w'.cell? ⟨g6, 3, none⟩ = some (.slice A6 y.it.length d6) ∧ EnsAt w' A6 y.it ∧ y.it.length ≤ d6 := by
  have h := props_walkL (w := w) (some ⟨q, 0, none⟩) q 0 1 [(y, A, c)] (fun _ => rfl) (by simp) (by simp) (fun i hi => by
    have h0 : i = 0 := by simp at hi; exact hi
    subst h0
    obtain ⟨a0, a1, a2, a3⟩ := blk4 hq
    exact ⟨a0, a1, a2, a3⟩) (fun x hx => by rw [List.mem_singleton.1 hx]; exact ⟨hE, hc⟩) (fun x hx => by rw [List.mem_singleton.1 hx]; exact hs)
  refine h.mono ?_
  rintro e w' ⟨hB, l', A', g', c', rfl, hp, hA, _, hcs, hg⟩
  have hl : l'.length = 1 := by have := congrArg List.length hp; rw [pl_len, pl_len] at this; exact this
  obtain ⟨z, hz⟩ := List.length_eq_one_iff.1 hl
  subst hz
  have hz1 : z.1 = y := by simpa [pl] using hp
  obtain ⟨z1, Az, cz⟩ := z
  have hz1 : z1 = y := hz1
  subst hz1
  have hA := hA (by simp)
  subst hA
  obtain ⟨x0, x1, x2, x3⟩ := hcs 0 (by simp)
  obtain ⟨g1, g2, _⟩ := hg _ (List.mem_singleton.2 rfl)
  exact ⟨hB, g', c', Az, cz, rfl, x0, x1, x2, x3, g1, g2⟩
theorem one_same {w : World} (g6 c6 : Nat) (A6 : Option Addr) (d6 q : Nat) (y : Pr) (Ay : Option Addr) (cy : Nat) (h0 : w.cell? ⟨g6, 0, none⟩ = some (.string y.sp)) (h1 : w.cell? ⟨g6, 1, none⟩ = some (.string y.nm)) (h2 : w.cell? ⟨g6, 2, none⟩ = some (.int .i64 y.kd)) (h3 : w.cell? ⟨g6, 3, none⟩ = some (.slice A6 y.it.length d6)) (h4 : EnsAt w A6 y.it) (h5 : y.it.length ≤ d6) (hq : Blk w q 43 (prs (y, Ay, cy)).toArray) (hE : EnsAt w Ay y.it) (hc : y.it.length ≤ cy) (hs : Xw.Small y) :
    Calls Tryz.prog 16 #[.slice (some ⟨g6, 0, none⟩) 1 c6, .slice (some ⟨q, 0, none⟩) 1 1] w fun e w' => e = .returned (.bool true) ∧ Below w.heap.size w w' := by
  obtain ⟨a0, a1, a2, a3⟩ := blk4 hq
  exact ref_SameProps g6 0 c6 q 0 1 y.sp y.nm y.kd y.it A6 Ay d6 cy hs.it h5 hc h0 h1 h2 h3 a0 a1 a2 a3 h4 hE
end Go.Proofs.YtkpikpaepgknnaaGreatDoor

/- A property is written and read. No condition. -/
namespace Go.Proofs.YtkpikpaepgknnaaGreatDoor
open Go Go.RowKit Go.Wk Go.Xt Go.Xe Go.Xw
def pA : Pr := ⟨⟨#[117, 58]⟩, ⟨#[110]⟩, 0, [(⟨#[]⟩, ⟨#[120]⟩)]⟩
theorem signs_nil : signsB [] = true := by unfold signsB; rw [partsS_nil]; rfl
theorem pA_may : mayB pA = true := by
  have h1 : signsB [110] = true := by have := signs_safe (l := [110]) (by decide) []; rw [List.append_nil] at this; rw [this]; exact signs_nil
  have h2 : signsB [120] = true := by have := signs_safe (l := [120]) (by decide) []; rw [List.append_nil] at this; rw [this]; exact signs_nil
  have h3 : entB (⟨#[]⟩, ⟨#[120]⟩) = true := by unfold entB; show (true && signsB [120]) = true; rw [h2]; rfl
  unfold mayB
  have e1 : pA.sp.toList.isEmpty = false := by rw [Lib.toList_data]; rfl
  have e2 : pA.sp.data.toList.all spaceB = true := by decide
  have e3 : nameB pA.nm.data.toList = true := by decide
  have e4 : signsB pA.nm.data.toList = true := h1
  have e5 : kindB pA.kd pA.it.length = true := by decide
  have e6 : (pA.it.any fun e => !entB e) = false := by show ((!entB (⟨#[]⟩, ⟨#[120]⟩)) || false) = false; rw [h3]; rfl
  rw [e1, e2, e3, e4, e5, e6]
  rfl
theorem pA_rdf : (pA.sp.toList == rdfL) = false := by
  rw [Lib.toList_data]; rfl
theorem pA_add : addAll [] [pA] = some [pA] := by
  rw [addAll_cons, pA_may, if_pos rfl]
  have : addP [] pA = some [pA] := by
    have e : addP [] pA = if hasP pA [] || pA.sp.toList == rdfL then none else some (insP pA []) := rfl
    rw [e, pA_rdf]
    rfl
  rw [this]
  rfl
theorem pA_small : Xw.Small pA := ⟨by decide, by decide, by decide, fun e he => by rw [List.mem_singleton.1 he]; exact ⟨by decide, by decide⟩⟩
set_option maxHeartbeats 8000000 in
set_option maxRecDepth 100000 in
theorem awake_walk {w : World} (hT : Lib.Utf8Tabs 0 1 w) (h2 : 2 ≤ w.heap.size) (mx : Int) (hmx : w.cell? ⟨2, 0, none⟩ = some (.int .i64 mx)) :
    Calls Tryz.prog 8 #[] w fun e w' => e = .returned (.bool true) ∧ Below w.heap.size w w' := by
  obtain ⟨b0, e0⟩ : ∃ b, b = w.heap.size := ⟨_, rfl⟩
  obtain ⟨W1, hW1⟩ : ∃ W, W = w.alloc (.cells #[.string ⟨#[]⟩, .string ⟨#[120]⟩] 55) := ⟨_, rfl⟩
  obtain ⟨W2, hW2⟩ : ∃ W, W = W1.alloc (.cells #[.string ⟨#[117, 58]⟩, .string ⟨#[110]⟩, .int .i64 0, .slice (some ⟨b0, 0, none⟩) 1 1] 38) := ⟨_, rfl⟩
  have k1 : Below w.heap.size w W1 := by rw [hW1]; exact (Below.refl _ _).alloc (Nat.le_refl _) _
  have k2 : Below W1.heap.size W1 W2 := by rw [hW2]; exact (Below.refl _ _).alloc (Nat.le_refl _) _
  have z1 : W1.heap.size = w.heap.size + 1 := by rw [hW1]; exact World.size_alloc _ _
  have hR1 : Blk W1 b0 55 #[.string ⟨#[]⟩, .string ⟨#[120]⟩] := by rw [hW1, e0]; exact Blk.new w 55 _
  have hR1' := hR1.below k2 hR1.lt
  obtain ⟨b1, e1⟩ : ∃ b, b = b0 + 1 := ⟨_, rfl⟩
  have hR2 : Blk W2 b1 38 #[.string ⟨#[117, 58]⟩, .string ⟨#[110]⟩, .int .i64 0, .slice (some ⟨b0, 0, none⟩) 1 1] := by
    have h : Blk W2 W1.heap.size 38 #[.string ⟨#[117, 58]⟩, .string ⟨#[110]⟩, .int .i64 0, .slice (some ⟨b0, 0, none⟩) 1 1] := by rw [hW2]; exact Blk.new W1 38 _
    rw [z1, ← e0, ← e1] at h; exact h
  have kw := bthen k1 k2
  have hE : EnsAt W2 (some ⟨b0, 0, none⟩) pA.it := fun _ => ⟨b0, 0, rfl, fun i hi => by
    have h0 : i = 0 := by have : i < 1 := hi; omega
    subst h0
    exact ⟨hR1'.cell 0, hR1'.cell 1⟩⟩
  have cw := xmp_Write (w := W2) (some ⟨b1, 0, none⟩) b1 1 [(pA, some ⟨b0, 0, none⟩, 1)] (fun _ => rfl) (by simp) (by simp) (fun i hi => by
    have h0 : i = 0 := by have : i < 1 := hi; omega
    subst h0
    obtain ⟨a0, a1, a2, a3⟩ := blk4 hR2
    exact ⟨a0, a1, a2, a3⟩) (fun x hx => by rw [List.mem_singleton.1 hx]; exact ⟨hE, Nat.le_refl _, pA_small⟩) (tabs_below hT h2 kw) (by have := kw.size; omega)
  have hpl : pl [(pA, some (⟨b0, 0, none⟩ : Addr), 1)] = [pA] := rfl
  rw [hpl, pA_add] at cw
  have cr := fun W (hW : Below w.heap.size w W) A c (hy : Byt W A (packetL [pA])) (h1 : (packetL [pA]).length ≤ c) (h3 : c ≤ maxLen) (h4 : (packetL [pA]).length ≤ 10000000) => xmp_Read (w := W) A c (packetL [pA]) [pA] hy rfl h1 (by unfold maxLen at h3; exact h3) h4 mx ((hW.cell (cell_lt hmx)).trans hmx) (tabs_below hT h2 hW) (by have := hW.size; omega) (fun p hp => by rw [List.mem_singleton.1 hp]; exact pA_may) (List.pairwise_singleton _ _) (by simp) (fun p hp => by rw [List.mem_singleton.1 hp]; decide) (fun p hp e he => by rw [List.mem_singleton.1 hp] at he; rw [List.mem_singleton.1 he]; decide) (fun p hp => by rw [List.mem_singleton.1 hp]; exact pA_rdf)
  obtain ⟨m, hm⟩ : ∃ m, m = (packetL [pA]).length := ⟨_, rfl⟩
  replace cr := Lib.hid cr
  replace kw := Lib.hid kw
  replace k1 := Lib.hid k1
  replace k2 := Lib.hid k2
  replace z1 := Lib.hid z1
  clear hT h2 hmx hR1 hR1' hR2 hE hpl
  go_enter Tryz.func8, Tryz.ntmps8
  go_upto_region 2 with (rw [← hW1, ← e0])
  rw [← e1, ← hW2]
  refine cw.mono ?_
  rintro e w4 ⟨hb4, A4, c4, rfl, hy4, hl4, hm4, hz4⟩
  have b14 := bthen kw.out hb4
  have c14 := cr.out w4 b14 A4 c4 hy4 hl4 hm4 hz4
  rw [← hm] at c14 ⊢
  replace hm := Lib.hid hm
  replace hW1 := Lib.hid hW1
  replace hW2 := Lib.hid hW2
  replace e0 := Lib.hid e0
  replace e1 := Lib.hid e1
  replace b14 := Lib.hid b14
  replace hb4 := Lib.hid hb4
  clear cw hy4 hl4 hm4 hz4
  go_upto_region 3 with (go_at_call 14; (with_reducible refine c14.mono ?_); rintro e w5 ⟨ll, L, vv, rfl, hll, hLs, hM, hLb, hb5⟩)
  obtain ⟨⟨v0, hL0, hO0⟩, _, _, _⟩ := hM.list
  have hv0 := blk_one hL0 hLb
  subst hv0
  obtain ⟨AL, gL, capL, rfl, hAL, hcpL, hcsL⟩ := row_out hO0
  have hl1 : ll.length = 1 := by have := congrArg List.length hll; rw [pl_len] at this; exact this
  obtain ⟨z, hz⟩ := List.length_eq_one_iff.1 hl1
  subst hz
  obtain ⟨z1', Az, cz⟩ := z
  have hzp : z1' = pA := by simpa [pl] using hll
  subst hzp
  have hAe := hAL (by simp)
  subst hAe
  obtain ⟨x0, x1, x2, x3⟩ := hcsL 0 (by simp)
  have x3 : w5.cell? ⟨gL, 3, none⟩ = some (.slice Az 1 cz) := x3
  obtain ⟨hE5, hc5, _⟩ := hM.items _ hLb _ (List.mem_singleton.2 rfl)
  obtain ⟨g6, o6, hAz, hc6⟩ := hE5 (Nat.zero_lt_one)
  have hAz : Az = some ⟨g6, o6, none⟩ := hAz
  subst hAz
  have y1 : w5.cell? ⟨g6, o6 + 1, none⟩ = some (.string ⟨#[120]⟩) := (hc6 0 (Nat.zero_lt_one)).2
  have hcz : 1 ≤ cz := hc5
  have hcL : 1 ≤ capL := hcpL
  replace hb5 := Lib.hid hb5
  clear hM hLb hL0 hO0 hc6 hE5 hcsL hAL x0 x1 x2 hll hl1 hcpL hc5
  go_wp2
  go_ret
  exact ⟨rfl, bthen b14.out hb5.out⟩
end Go.Proofs.YtkpikpaepgknnaaGreatDoor

/- The argument opened. No condition. -/
namespace Go.Proofs.YtkpikpaepgknnaaGreatDoor
open Go Go.RowKit Go.Wk Go.Xt Go.Xe Go.Xw Go.WideShapes Go.ChangeShapes
section
variable {H : Type} {enc : TypeId × Value → H} {P : Program} {w : World} {base : Nat} {sp : Nat → Bool} {held : Bool}
theorem fields_at {fs : Array Field} {l : List (TypeId × Nat)} (h : fs.toList.map (fun f => (f.type, f.offset)) = l) {i : Nat} {t o : Nat} (hi : l[i]? = some (t, o)) : ∃ f, fs[i]? = some f ∧ f.type = t ∧ f.offset = o := by
  rw [← h, List.getElem?_map] at hi
  cases hf : fs[i]? with
  | none => rw [← Array.getElem?_toList] at hf; rw [hf] at hi; cases hi
  | some f =>
    rw [← Array.getElem?_toList] at hf
    rw [hf] at hi
    injection hi with hi
    injection hi with h1 h2
    exact ⟨f, rfl, h1, h2⟩
theorem rows_at {e k : Nat} {a : Addr} {len n : Nat} {elems : List (DataW H × List MemPlace)} (hce : P.cellsOf e = k) (hlen : elems.length = len)
    (hel : ∀ i, i < len → (w.cells? base (a.add (i * P.cellsOf e)) (P.cellsOf e)).bind (DataW.trod enc P w base sp held n e) = elems[i]?) :
    ∀ i, i < len → ∃ cs x, cs.length = k ∧ elems[i]? = some x ∧ DataW.trod enc P w base sp held n e cs = some x ∧ ∀ j, j < k → w.cell? (a.add (k * i + j)) = cs[j]? := by
  intro i hi
  have h1 := hel i hi
  rw [List.getElem?_eq_getElem (by omega), hce] at h1
  cases hcs : w.cells? base (a.add (i * k)) k with
  | none => rw [hcs] at h1; cases h1
  | some cs =>
    rw [hcs] at h1
    obtain ⟨h0, h2, h3⟩ := World.cells?_some hcs
    refine ⟨cs, _, h2, List.getElem?_eq_getElem (by omega), h1, fun j hj => ?_⟩
    have := h3 j (by omega)
    rw [← this, Addr.add_add, Nat.mul_comm k i]
end
theorem enty : ∃ fs, Tryz.prog.underlying 58 = some (.struct fs) ∧ fs.toList.map (fun f => (f.type, f.offset)) = [(9, 0), (9, 1)] := ⟨_, Tryz.underlying58, rfl⟩
theorem prty : ∃ fs, Tryz.prog.underlying 43 = some (.struct fs) ∧ fs.toList.map (fun f => (f.type, f.offset)) = [(9, 0), (9, 1), (3, 2), (41, 3)] := ⟨_, Tryz.underlying43, rfl⟩
set_option maxRecDepth 100000 in
theorem open_ent {H : Type} {enc : TypeId × Value → H} {W : World} {fuel : Nat} {cs : List Value} {x : DataW H × List MemPlace} (h : DataW.trod enc Tryz.prog W 0 (fun _ => true) true fuel 58 cs = some x) : ∃ L T : ByteArray, cs = [.string L, .string T] := by
  obtain ⟨fs, hfs, hfl⟩ := enty
  obtain ⟨xs, n, rfl, ex, hcl, hxl, hF⟩ := DataW.trod_struct hfs h
  have hc : Tryz.prog.cellsOf 58 = 2 := by kernel_rfl
  have hc9 : Tryz.prog.cellsOf 9 = 1 := by kernel_rfl
  have hsz : fs.size = 2 := by have := congrArg List.length hfl; simpa using this
  rw [hc] at hcl
  have fld : ∀ i, [(9, 0), (9, 1)][i]? = some (9, i) → ∃ y, DataW.trod enc Tryz.prog W 0 (fun _ => true) true n 9 ((cs.drop i).take 1) = some y := fun i hi => by
    obtain ⟨f, hf, ht, ho⟩ := fields_at hfl hi
    have hil : i < xs.length := by have := (Array.getElem?_eq_some_iff.1 hf).1; omega
    have := hF i f hf
    rw [ht, ho, hc9] at this
    exact ⟨_, this.trans (List.getElem?_eq_getElem hil)⟩
  match cs, hcl with
  | [c0, c1], _ =>
    obtain ⟨y0, z0⟩ := fld 0 rfl
    obtain ⟨y1, z1⟩ := fld 1 rfl
    obtain ⟨a, e0, _⟩ := DataW.trod_string Tryz.underlying9 (show DataW.trod enc Tryz.prog W 0 (fun _ => true) true n 9 [c0] = some y0 from z0)
    obtain ⟨b, e1, _⟩ := DataW.trod_string Tryz.underlying9 (show DataW.trod enc Tryz.prog W 0 (fun _ => true) true n 9 [c1] = some y1 from z1)
    injection e0 with e0; injection e1 with e1
    subst e0 e1
    exact ⟨a, b, rfl⟩
set_option maxRecDepth 100000 in
theorem open_ents {H : Type} {enc : TypeId × Value → H} {W : World} {fuel : Nat} {cs : List Value} {x : DataW H × List MemPlace} (hf : DataW.trod enc Tryz.prog W 0 (fun _ => true) true fuel 41 cs = some x) :
    ∃ A c it, cs = [.slice A (List.length it) c] ∧ EnsAt W A it ∧ it.length ≤ c := by
  have hce : Tryz.prog.cellsOf 58 = 2 := by kernel_rfl
  rcases DataW.trod_slice Tryz.underlying41 hf with ⟨rfl, _⟩ | ⟨a, len, cap, elems, rest, n, _, rfl, _, hb, hl, hm, hlen, hel, _⟩
  · exact ⟨none, 0, [], rfl, fun h => by simp at h, Nat.zero_le _⟩
  · have each : ∀ i, i < len → ∃ e : ByteArray × ByteArray, ∀ j u, [Value.string e.1, .string e.2][j]? = some u → W.cell? (a.add (2 * i + j)) = some u := fun i hi => by
      obtain ⟨cs, x, hc4, hx, ht, hj⟩ := rows_at hce hlen hel i hi
      obtain ⟨L, T, rfl⟩ := open_ent ht
      exact ⟨(L, T), fun j u hu => (hj j (List.getElem?_eq_some_iff.1 hu).1).trans hu⟩
    obtain ⟨it, hl0, hp⟩ := list_of each
    subst hl0
    refine ⟨some a, cap, it, rfl, fun h0 => ?_, hl⟩
    obtain ⟨b, o, spot⟩ := a
    have h1 := hp 0 h0 0 _ rfl
    have hspot : spot = none := by simpa [Addr.add] using World.cell?_spot h1
    subst hspot
    refine ⟨b, o, rfl, fun i hi => ?_⟩
    have h2 := hp i hi 0 _ rfl
    have h3 := hp i hi 1 _ rfl
    rw [add_none] at h2 h3
    rw [show o + (2 * i + 0) = o + i * 2 by omega] at h2
    rw [show o + (2 * i + 1) = o + i * 2 + 1 by omega] at h3
    exact ⟨h2, h3⟩
set_option maxRecDepth 100000 in
theorem open_pr {H : Type} {enc : TypeId × Value → H} {W : World} {fuel : Nat} {cs : List Value} {x : DataW H × List MemPlace} (h : DataW.trod enc Tryz.prog W 0 (fun _ => true) true fuel 43 cs = some x) : ∃ y : PA, cs = prs y ∧ Held W y := by
  obtain ⟨fs, hfs, hfl⟩ := prty
  obtain ⟨xs, n, rfl, ex, hcl, hxl, hF⟩ := DataW.trod_struct hfs h
  have hc : Tryz.prog.cellsOf 43 = 4 := by kernel_rfl
  have hc9 : Tryz.prog.cellsOf 9 = 1 := by kernel_rfl
  have hc3 : Tryz.prog.cellsOf 3 = 1 := by kernel_rfl
  have hc41 : Tryz.prog.cellsOf 41 = 1 := by kernel_rfl
  have hsz : fs.size = 4 := by have := congrArg List.length hfl; simpa using this
  rw [hc] at hcl
  have fld : ∀ i t, [(9, 0), (9, 1), (3, 2), (41, 3)][i]? = some (t, i) → Tryz.prog.cellsOf t = 1 → ∃ y, DataW.trod enc Tryz.prog W 0 (fun _ => true) true n t ((cs.drop i).take 1) = some y := fun i t hi hct => by
    obtain ⟨f, hf, ht, ho⟩ := fields_at hfl hi
    have hil : i < xs.length := by have := (Array.getElem?_eq_some_iff.1 hf).1; omega
    have := hF i f hf
    rw [ht, ho, hct] at this
    exact ⟨_, this.trans (List.getElem?_eq_getElem hil)⟩
  match cs, hcl with
  | [c0, c1, c2, c3], _ =>
    obtain ⟨y0, z0⟩ := fld 0 9 rfl hc9
    obtain ⟨y1, z1⟩ := fld 1 9 rfl hc9
    obtain ⟨y2, z2⟩ := fld 2 3 rfl hc3
    obtain ⟨y3, z3⟩ := fld 3 41 rfl hc41
    obtain ⟨a, e0, _⟩ := DataW.trod_string Tryz.underlying9 (show DataW.trod enc Tryz.prog W 0 (fun _ => true) true n 9 [c0] = some y0 from z0)
    obtain ⟨b, e1, _⟩ := DataW.trod_string Tryz.underlying9 (show DataW.trod enc Tryz.prog W 0 (fun _ => true) true n 9 [c1] = some y1 from z1)
    obtain ⟨c, e2, _⟩ := DataW.trod_int Tryz.underlying3 (show DataW.trod enc Tryz.prog W 0 (fun _ => true) true n 3 [c2] = some y2 from z2)
    obtain ⟨A, cp, it, e3, he, hle⟩ := open_ents (show DataW.trod enc Tryz.prog W 0 (fun _ => true) true n 41 [c3] = some y3 from z3)
    injection e0 with e0; injection e1 with e1; injection e2 with e2; injection e3 with e3
    subst e0 e1 e2 e3
    exact ⟨(⟨a, b, c, it⟩, A, cp), rfl, he, hle⟩
set_option maxRecDepth 100000 in
theorem open_props {H : Type} {enc : TypeId × Value → H} {W : World} {base : Nat} {v : Value} {d : DataW H} {p : List MemPlace} (hv : Value.okWide Tryz.prog W .any base 22 v) (h : DataW.Trod enc Tryz.prog W 0 (fun _ => true) true 22 v d p) :
    ∃ A g o c l, v = .slice A (List.length l) c ∧ (0 < l.length → A = some ⟨g, o, none⟩) ∧ l.length ≤ c ∧ CellsO W g o l ∧ (∀ x ∈ l, Held W x) ∧ l.length ≤ 9223372036854775807 := by
  obtain ⟨a0, len0, cap0, rfl⟩ := okWide_slice Tryz.underlying22 hv
  obtain ⟨fuel, hf⟩ := h
  have hce : Tryz.prog.cellsOf 43 = 4 := by kernel_rfl
  have hf : DataW.trod enc Tryz.prog W 0 (fun _ => true) true fuel 22 [.slice a0 len0 cap0] = some (d, p) := hf
  rcases DataW.trod_slice Tryz.underlying22 hf with ⟨e, _⟩ | ⟨a, len, cap, elems, rest, n, _, e, _, hb, hl, hm, hlen, hel, _⟩
  · injection e with e
    injection e with e1 e2 e3
    subst e1 e2 e3
    exact ⟨none, 0, 0, 0, [], rfl, fun h => by simp at h, Nat.le_refl _, fun i hi => by simp at hi, fun x hx => by simp at hx, by decide⟩
  · injection e with e
    injection e with e1 e2 e3
    subst e1 e2 e3
    have each : ∀ i, i < len0 → ∃ y : PA, (∀ j u, (prs y)[j]? = some u → W.cell? (a.add (4 * i + j)) = some u) ∧ Held W y := fun i hi => by
      obtain ⟨cs, x, hc4, hx, ht, hj⟩ := rows_at hce hlen hel i hi
      obtain ⟨y, rfl, hy⟩ := open_pr ht
      exact ⟨y, fun j u hu => (hj j (List.getElem?_eq_some_iff.1 hu).1).trans hu, hy⟩
    obtain ⟨l, hl0, hp⟩ := list_of each
    subst hl0
    by_cases h0 : 0 < l.length
    · obtain ⟨b, o, spot⟩ := a
      have h1 := (hp 0 h0).1 0 _ rfl
      have hspot : spot = none := by simpa [Addr.add] using World.cell?_spot h1
      subst hspot
      refine ⟨_, b, o, cap0, l, rfl, fun _ => rfl, hl, fun i hi => ?_, fun x hx => ?_, by unfold maxLen at hm; omega⟩
      · have g : ∀ j u, (prs l[i])[j]? = some u → W.cell? ⟨b, o + i * 4 + j, none⟩ = some u := fun j u hu => by
          have := (hp i hi).1 j u hu
          rw [add_none] at this
          rw [show o + i * 4 + j = o + (4 * i + j) by omega]; exact this
        exact ⟨g 0 _ rfl, g 1 _ rfl, g 2 _ rfl, g 3 _ rfl⟩
      · obtain ⟨i, hi, rfl⟩ := List.getElem_of_mem hx
        exact (hp i hi).2
    · have hl00 : l = [] := List.eq_nil_of_length_eq_zero (by omega)
      subst hl00
      exact ⟨some a, 0, 0, cap0, [], rfl, fun h => by simp at h, hl, fun i hi => by simp at hi, fun x hx => by simp at hx, by decide⟩
set_option maxRecDepth 100000 in
theorem tabs_of {w : World} (h : laidMet Tryz.prog Rows.xmpWritesRow.laid w) : Lib.Utf8Tabs 0 1 w :=
  utf8Tabs_of_readsT (P := Tryz.prog) (ρ := ⟨fun n => n, fun | 5 => 5 | 119 => 160 | 138 => 162 | 139 => 163 | n => n, fun | 3 => 0 | 4 => 1 | n => n⟩) ⟨Tryz.underlying5, Tryz.underlying160, Tryz.underlying162, Tryz.underlying163⟩ ⟨by kernel_rfl, by kernel_rfl, by kernel_rfl, by kernel_rfl, by kernel_rfl, by kernel_rfl, by kernel_rfl⟩
    (Go.Lib.laidMet.reads h (List.mem_of_getElem? (i := 1) (by kernel_rfl))) (Go.Lib.laidMet.reads h (List.mem_of_getElem? (i := 0) (by kernel_rfl)))
theorem globs : Tryz.prog.globals.size = 3 := by kernel_rfl
end Go.Proofs.YtkpikpaepgknnaaGreatDoor

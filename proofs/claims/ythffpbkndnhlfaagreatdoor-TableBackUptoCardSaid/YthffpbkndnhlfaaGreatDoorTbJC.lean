/- Walks and laws, joined: part C. No condition. -/
import Derived.Test.YthffpbkndnhlfaaGreatDoorTbJB
import Derived.Deep.RegionHeld3
import Derived.Deep.DrawnRows
set_option linter.unusedSimpArgs false
set_option linter.unusedVariables false
set_option maxRecDepth 100000
set_option maxHeartbeats 32000000
namespace Go.Proofs.YthffpbkndnhlfaaGreatDoor
open Go Go.RowKit Go.Wk Go.Rd Go.Fx
theorem and_all255L : ∀ n : Fin 512, bits BinOp.and IntKind.i64 ((n.val : Nat) : Int) 255 = ((n.val % 256 : Nat) : Int) := by decide +kernel
theorem and_255L (n : Nat) (h : n < 512) : bits BinOp.and IntKind.i64 (n : Int) 255 = ((n % 256 : Nat) : Int) := and_all255L ⟨n, h⟩
theorem or_allL : ∀ n : Fin 64, ∀ d : Fin 8, bits BinOp.or IntKind.i64 ((8 * n.val : Nat) : Int) ((d.val : Nat) : Int) = ((8 * n.val + d.val : Nat) : Int) := by decide +kernel
def escVL : Option UInt8 → Int
 | none => -1
 | some x => (x.toNat : Int)
section
variable {L R : Nat} {A : Option Addr} {c : Nat} {bs : Bs} {M V : Value} {w w' w0 : World} {r r' : Bs}
theorem lx_eol {x : UInt8} {t : Bs} {X : Int} (hX : X = (x.toNat : Int)) (W : World) (h : LS L R A c bs M V W t) : Calls Tryz.prog 186 #[.pointer (some ⟨R, 0, none⟩), .int .i64 X] W fun e w' => e = .returned (.tuple #[]) ∧ LS L R A c bs M V w' (eolS x t) ∧ Save L W w' := by
 have hX0 : 0 ≤ X ∧ X ≤ 255 := by rw [hX]; have := x.toNat_lt; omega
 have h13 : (X == 13) = (x == 13) := by rw [hX, u8_eqI x 13]; rfl
 have q0 := h.q0
 cases hx : (x == 13) with
 | false =>
  have e : eolS x t = t := by unfold eolS; rw [if_neg (by rintro ⟨e, _⟩; rw [e] at hx; exact absurd hx (by decide))]
  rw [e]
  rw [hx] at h13
  replace h := hi_ h
  clear hX e
  go_enter Tryz.func186, Tryz.ntmps186
  go_wp2
  exact bodyPost_end (by simp [results, Tryz.results186, go_sem]; try rfl) rfl ⟨rfl, h.out, Save.refl _ _⟩
 | true =>
  have hx2 : x = 13 := by simpa using hx
  have e : eolS x t = if ([10] : Bs) <+: t then t.drop 1 else t := by
   unfold eolS
   by_cases hp : ([10] : Bs) <+: t
   ·obtain ⟨u, hu⟩ := hp
    rw [if_pos ⟨hx2, by rw [← hu]; rfl⟩, if_pos ⟨u, hu⟩]
   ·have hn : ¬ (x = 13 ∧ t[0]? = some 10) := by
     rintro ⟨_, e⟩
     apply hp
     cases t with
     | nil => simp at e
     | cons y t => simp at e; exact ⟨t, by rw [e]; rfl⟩
    rw [if_neg hn, if_neg hp]
  rw [e]
  rw [hx] at h13
  obtain rfl : X = 13 := by simpa using h13
  have cm := hi_ fun W h => ls_match (L := L) (R := R) (A := A) (c := c) (bs := bs) (M := M) (V := V) (r := t) ⟨#[10]⟩ (by decide) (by decide) W h
  obtain ⟨K, hK⟩ : ∃ K, K = if ([10] : Bs) <+: t then t.drop 1 else t := ⟨_, rfl⟩
  rw [← hK]
  have hL := hi_ h
  have hS := hi_ (Save.refl L W)
  replace hK := hi_ hK
  clear h hX e hx2
  go_enter Tryz.func186, Tryz.ntmps186
  go_wp2_with (go_at_call 54; (with_reducible refine (cm.out _ hL.out).mono ?_); rintro e w1 ⟨rfl, hL2, hS2⟩; replace hL := hi_ hL2; replace hS := hi_ (hS.out.trans hS2); replace q0 := hL.out.q0; clear hL2 hS2)
  exact bodyPost_end (by simp [results, Tryz.results186, go_sem]; try rfl) rfl ⟨rfl, by rw [hK.out]; exact hL.out, hS.out⟩
theorem oct_lt8 {x : UInt8} (h : octB x = true) : 48 ≤ x.toNat ∧ x.toNat ≤ 55 := by
 unfold octB at h
 simp only [Bool.and_eq_true, decide_eq_true_eq] at h
 exact h
theorem lx_octal {x : UInt8} {t : Bs} {X : Int} (hX : X = (x.toNat : Int)) (hx : octB x = true) (W : World) (h : LS L R A c bs M V W t) : Calls Tryz.prog 205 #[.pointer (some ⟨R, 0, none⟩), .int .i64 X] W fun e w' => e = .returned (.int .i64 (((octS 2 (x.toNat - 48) t).1 % 256 : Nat))) ∧ LS L R A c bs M V w' (octS 2 (x.toNat - 48) t).2 ∧ Save L W w' := by
 obtain ⟨K, hK⟩ : ∃ K, K = octS 2 (x.toNat - 48) t := ⟨_, rfl⟩
 rw [← hK]
 have hx8 := oct_lt8 hx
 have hX1 : 48 ≤ X ∧ X ≤ 55 := by rw [hX]; omega
 have q0 := h.q0
 replace h := hi_ h
 have hst : Hid (IntKind.i64.wrap (X - 48) = ((x.toNat - 48 : Nat) : Int)) := hi_ (by rw [IntWalk.i64_in _ (by omega), hX]; omega)
 replace hK := hi_ hK
 replace hX := hi_ hX
 go_enter Tryz.func205, Tryz.ntmps205
 go_wp2
 go_loopw [5, 6] (fun s5 s6 wr => ∃ (n k : Nat) (r1 : Bs), s5 = .int .i64 (n : Nat) ∧ (∃ i : Nat, s6 = .int .i64 (i : Nat) ∧ i + k = 2) ∧ n < 8 ^ (3 - k) ∧ LS L R A c bs M V wr r1 ∧ octS k n r1 = K ∧ Save L W wr) (fun _ s6 _ => 4 - (RowKit.intOf s6).toNat)
 case atStart => exact ⟨x.toNat - 48, 2, t, by first | rfl | exact congrArg (Value.int .i64) (by have := hX.out; omega), ⟨0, rfl, rfl⟩, by omega, h.out, hK.out.symm, Save.refl _ _⟩
 case round =>
  obtain ⟨n, k, r1, rfl, ⟨i, rfl, hik⟩, hn, hL, hE, hS⟩ := hrel
  have q0 := hL.q0
  clear h hK hst hX hX1 hx8 hx
  match k, hik, hn, hE with
  | 0, hik, hn, hE =>
   obtain rfl : i = 2 := by omega
   have ha := and_255L n (by simpa using hn)
   subst hE
   replace hL := hi_ hL
   replace hS := hi_ hS
   clear hn hik
   go_wp2
   go_ret
   exact ⟨by first | exact congrArg (fun z => Ending.returned (.int .i64 z)) ha | rfl, hL.out, hS.out⟩
  | k + 1, hik, hn, hE =>
   have hn64 : n < 64 := by
    have : 8 ^ (3 - (k + 1)) ≤ 8 ^ 2 := Nat.pow_le_pow_right (by omega) (by omega)
    omega
   have hi2 : ((i : Int) < 2) := by omega
   cases r1 with
   | nil =>
    have cp := hi_ fun W h => ls_peekN (L := L) (R := R) (A := A) (c := c) (bs := bs) (M := M) (V := V) W h
    obtain rfl : K = (n, []) := by rw [← hE]; rfl
    have ha := and_255L n (by omega)
    replace hL := hi_ hL
    replace hS := hi_ hS
    clear hn hik hE
    go_wp2_with (go_at_call 56; (with_reducible refine (cp.out _ hL.out).mono ?_); rintro e w1 ⟨rfl, hL2, hS2⟩; replace hL := hi_ hL2; replace hS := hi_ (hS.out.trans hS2); replace q0 := hL.out.q0; clear hL2 hS2)
    go_ret
    exact ⟨by first | exact congrArg (fun z => Ending.returned (.int .i64 z)) ha | rfl, hL.out, hS.out⟩
   | cons y u =>
    obtain ⟨Y, hY⟩ := hidE (y.toNat : Int)
    have hY0 : 0 ≤ Y ∧ Y ≤ 255 := by rw [hY.out]; have := y.toNat_lt; omega
    have cp := hi_ fun W h => ls_peekC (L := L) (R := R) (A := A) (c := c) (bs := bs) (M := M) (V := V) (t := u) hY.out W h
    have cn := hi_ fun W h => ls_next (L := L) (R := R) (A := A) (c := c) (bs := bs) (M := M) (V := V) (t := u) hY.out W h
    cases hy : octB y with
    | false =>
     obtain rfl : K = (n, y :: u) := by rw [← hE, octS, if_neg (by rw [hy]; decide)]
     have ha := and_255L n (by omega)
     have hno : ¬ (48 ≤ Y ∧ Y ≤ 55) := by
      rw [hY.out]
      unfold octB at hy
      simp only [Bool.and_eq_false_iff, decide_eq_false_iff_not] at hy
      omega
     replace hL := hi_ hL
     replace hS := hi_ hS
     clear hn hik hE hy
     by_cases h48 : 48 ≤ Y
     ·have h55 : ¬ Y ≤ 55 := fun e => hno ⟨h48, e⟩
      clear hno
      go_wp2_with (go_at_call 56; (with_reducible refine (cp.out _ hL.out).mono ?_); rintro e w1 ⟨rfl, hL2, hS2⟩; replace hL := hi_ hL2; replace hS := hi_ (hS.out.trans hS2); replace q0 := hL.out.q0; clear hL2 hS2)
      go_ret
      exact ⟨by first | exact congrArg (fun z => Ending.returned (.int .i64 z)) ha | rfl, hL.out, hS.out⟩
     ·clear hno
      go_wp2_with (go_at_call 56; (with_reducible refine (cp.out _ hL.out).mono ?_); rintro e w1 ⟨rfl, hL2, hS2⟩; replace hL := hi_ hL2; replace hS := hi_ (hS.out.trans hS2); replace q0 := hL.out.q0; clear hL2 hS2)
      go_ret
      exact ⟨by first | exact congrArg (fun z => Ending.returned (.int .i64 z)) ha | rfl, hL.out, hS.out⟩
    | true =>
     have hE2 := hi_ (show octS k (8 * n + (y.toNat - 48)) u = K by rw [← hE, octS, if_pos hy])
     have hy8 := oct_lt8 hy
     have h48 : 48 ≤ Y ∧ Y ≤ 55 := by rw [hY.out]; omega
     have ho := or_allL ⟨n, hn64⟩ ⟨y.toNat - 48, by omega⟩
     have e1 : ((y.toNat - 48 : Nat) : Int) = Y - 48 := by rw [hY.out]; omega
     have e2 : ((8 * n : Nat) : Int) = (n : Int) * 8 := by omega
     simp only [] at ho
     rw [e1, e2] at ho
     have hw1 : IntKind.i64.wrap (Y - 48) = Y - 48 := IntWalk.i64_in _ (by omega)
     have hw2 : IntKind.i64.wrap ((n : Int) * 8) = (n : Int) * 8 := IntWalk.i64_in _ (by omega)
     refine h6_ hL hS hy8 e1 hn hik ?_; clear hL hS hy8 e1 hn hik; intro hL hS hy8 e1 hn hik
     clear hE hy e2
     go_wp2_with (first | ((first | (go_at_call 56; (with_reducible refine (cp.out _ hL.out).mono ?_)) | (go_at_call 60; (with_reducible refine (cn.out _ hL.out).mono ?_))); rintro e w1 ⟨rfl, hL2, hS2⟩; replace hL := hi_ hL2; replace hS := hi_ (hS.out.trans hS2); replace q0 := hL.out.q0; clear hL2 hS2))
     refine ⟨⟨8 * n + (y.toNat - 48), k, u, ?_, ⟨i + 1, ?_, ?_⟩, ?_, hL.out, hE2.out, hS.out⟩, ?_⟩
     ·exact congrArg (Value.int .i64) (by omega)
     ·first | rfl | exact congrArg (Value.int .i64) (by omega)
     ·have := hik.out; omega
     ·have h1 := hik.out
      have h2 := hn.out
      have h3 := hy8.out
      have h4 : k = 0 ∨ k = 1 := by omega
      rcases h4 with rfl | rfl <;> simp at h2 ⊢ <;> omega
     ·have := hik.out
      simp [RowKit.intOf]; omega
theorem lx_escape {x : UInt8} {t : Bs} {X : Int} (hX : X = (x.toNat : Int)) (W : World) (h : LS L R A c bs M V W t) : Calls Tryz.prog 185 #[.pointer (some ⟨R, 0, none⟩), .int .i64 X] W fun e w' => e = .returned (.int .i64 (escVL (escS x t).1)) ∧ LS L R A c bs M V w' (escS x t).2 ∧ Save L W w' := by
 have hX0 : 0 ≤ X ∧ X ≤ 255 := by rw [hX]; have := x.toNat_lt; omega
 have q0 := h.q0
 have ce := hi_ fun W h => lx_eol (L := L) (R := R) (A := A) (c := c) (bs := bs) (M := M) (V := V) (t := t) hX W h
 have hL := hi_ h
 have hS := hi_ (Save.refl L W)
 by_cases h110 : x = 110
 ·subst h110
  obtain rfl : X = 110 := hX
  clear ce h
  rw [show escS 110 t = (some 10, t) from by unfold escS; rw [if_neg (by decide), if_neg (by decide)]; rfl]
  go_enter Tryz.func185, Tryz.ntmps185
  go_wp2
  go_ret
  exact ⟨rfl, hL.out, hS.out⟩
 by_cases h114 : x = 114
 ·subst h114
  obtain rfl : X = 114 := hX
  clear ce h
  rw [show escS 114 t = (some 13, t) from by unfold escS; rw [if_neg (by decide), if_neg (by decide)]; rfl]
  go_enter Tryz.func185, Tryz.ntmps185
  go_wp2
  go_ret
  exact ⟨rfl, hL.out, hS.out⟩
 by_cases h116 : x = 116
 ·subst h116
  obtain rfl : X = 116 := hX
  clear ce h
  rw [show escS 116 t = (some 9, t) from by unfold escS; rw [if_neg (by decide), if_neg (by decide)]; rfl]
  go_enter Tryz.func185, Tryz.ntmps185
  go_wp2
  go_ret
  exact ⟨rfl, hL.out, hS.out⟩
 by_cases h98 : x = 98
 ·subst h98
  obtain rfl : X = 98 := hX
  clear ce h
  rw [show escS 98 t = (some 8, t) from by unfold escS; rw [if_neg (by decide), if_neg (by decide)]; rfl]
  go_enter Tryz.func185, Tryz.ntmps185
  go_wp2
  go_ret
  exact ⟨rfl, hL.out, hS.out⟩
 by_cases h102 : x = 102
 ·subst h102
  obtain rfl : X = 102 := hX
  clear ce h
  rw [show escS 102 t = (some 12, t) from by unfold escS; rw [if_neg (by decide), if_neg (by decide)]; rfl]
  go_enter Tryz.func185, Tryz.ntmps185
  go_wp2
  go_ret
  exact ⟨rfl, hL.out, hS.out⟩
 by_cases h10 : x = 10
 ·subst h10
  obtain rfl : X = 10 := hX
  clear h
  rw [show escS 10 t = (none, eolS 10 t) from by unfold escS; rw [if_pos (by decide)]]
  generalize eolS 10 t = K at *
  go_enter Tryz.func185, Tryz.ntmps185
  go_wp2_with (go_at_call 186; (with_reducible refine (ce.out _ hL.out).mono ?_); rintro e w1 ⟨rfl, hL2, hS2⟩; replace hL := hi_ hL2; replace hS := hi_ (hS.out.trans hS2); replace q0 := hL.out.q0; clear hL2 hS2)
  go_ret
  exact ⟨rfl, hL.out, hS.out⟩
 by_cases h13 : x = 13
 ·subst h13
  obtain rfl : X = 13 := hX
  clear h
  rw [show escS 13 t = (none, eolS 13 t) from by unfold escS; rw [if_pos (by decide)]]
  generalize eolS 13 t = K at *
  go_enter Tryz.func185, Tryz.ntmps185
  go_wp2_with (go_at_call 186; (with_reducible refine (ce.out _ hL.out).mono ?_); rintro e w1 ⟨rfl, hL2, hS2⟩; replace hL := hi_ hL2; replace hS := hi_ (hS.out.trans hS2); replace q0 := hL.out.q0; clear hL2 hS2)
  go_ret
  exact ⟨rfl, hL.out, hS.out⟩
 have ne : ∀ v : UInt8, x ≠ v → ¬ X = (v.toNat : Int) := fun v hv e => hv (UInt8.toNat_inj.1 (by omega))
 have n1 := ne 110 h110
 have n2 := ne 114 h114
 have n3 := ne 116 h116
 have n4 := ne 98 h98
 have n5 := ne 102 h102
 have n6 := ne 10 h10
 have n7 := ne 13 h13
 simp only [UInt8.reduceToNat, Int.cast_ofNat_Int] at n1 n2 n3 n4 n5 n6 n7
 clear ne
 cases ho : octB x with
 | true =>
  have hx8 := oct_lt8 ho
  have h48 : 48 ≤ X ∧ X ≤ 55 := by rw [hX]; omega
  have co := hi_ fun W h => lx_octal (L := L) (R := R) (A := A) (c := c) (bs := bs) (M := M) (V := V) (t := t) hX ho W h
  have hE : escS x t = (some (UInt8.ofNat ((octS 2 (x.toNat - 48) t).1 % 256)), (octS 2 (x.toNat - 48) t).2) := by
   unfold escS
   rw [if_neg (by rintro (e | e); exact h13 e; exact h10 e), if_pos ho]
  rw [hE]
  generalize octS 2 (x.toNat - 48) t = K at *
  have hk : escVL (some (UInt8.ofNat (K.1 % 256))) = ((K.1 % 256 : Nat) : Int) := by
   show ((UInt8.ofNat (K.1 % 256)).toNat : Int) = _
   rw [UInt8.toNat_ofNat']; omega
  rw [hk]
  generalize K.1 % 256 = k1 at *
  generalize K.2 = k2 at *
  clear ce hX h hE hk hx8
  go_enter Tryz.func185, Tryz.ntmps185
  go_wp2_with (go_at_call 205; (with_reducible refine (co.out _ hL.out).mono ?_); rintro e w1 ⟨rfl, hL2, hS2⟩; replace hL := hi_ hL2; replace hS := hi_ (hS.out.trans hS2); replace q0 := hL.out.q0; clear hL2 hS2)
  go_ret
  exact ⟨rfl, hL.out, hS.out⟩
 | false =>
  have hno : ¬ (48 ≤ X ∧ X ≤ 55) := by
   rw [hX]
   unfold octB at ho
   simp only [Bool.and_eq_false_iff, decide_eq_false_iff_not] at ho
   omega
  have hE : escS x t = (some x, t) := by
   unfold escS
   rw [if_neg (by rintro (e | e); exact h13 e; exact h10 e), if_neg (by rw [ho]; decide), if_neg h110, if_neg h114, if_neg h116, if_neg h98, if_neg h102]
  rw [hE]
  replace hX := hi_ hX
  clear ce h hE ho
  by_cases h48 : 48 ≤ X
  ·have h55 : ¬ X ≤ 55 := fun e => hno ⟨h48, e⟩
   clear hno
   go_enter Tryz.func185, Tryz.ntmps185
   go_wp2
   go_ret
   exact ⟨by rw [hX.out]; rfl, hL.out, hS.out⟩
  ·clear hno
   go_enter Tryz.func185, Tryz.ntmps185
   go_wp2
   go_ret
   exact ⟨by rw [hX.out]; rfl, hL.out, hS.out⟩
end
def LexL (w0 : World) (L R : Nat) (A : Option Addr) (c : Nat) (bs : Bs) (m : Nat) (res : Res Bs) (e : Ending) (w' : World) : Prop := match res with
 | .ok b u => e = .returned (.int .i64 0) ∧ LO w0 L R A c bs m b w' u
 | .err k _ => e = .returned (.int .i64 k) ∧ ∃ b u, LO w0 L R A c bs m b w' u
theorem pk_twoL {t : Bs} (h : 0 ≤ digI (pk t 1)) : 2 ≤ t.length := by
 rcases Nat.lt_or_ge t.length 2 with h1 | h1
 ·exfalso
  have e : pk t 1 = -1 := by unfold pk; rw [List.getElem?_eq_none (by omega)]
  rw [e] at h
  exact absurd h (by decide)
 ·exact h1
theorem dig_rangeL (x : Int) : -1 ≤ digI x ∧ digI x ≤ 15 := by unfold digI; split; omega; split; omega; split <;> omega
theorem or_hexL : ∀ n : Fin 16, ∀ d : Fin 16, bits BinOp.or IntKind.i64 ((n.val : Nat) * 16 : Int) ((d.val : Nat) : Int) = ((n.val * 16 + d.val : Nat) : Int) := by decide +kernel
theorem or_hexI {a b : Int} (ha : 0 ≤ a ∧ a ≤ 15) (hb : 0 ≤ b ∧ b ≤ 15) : bits BinOp.or IntKind.i64 (a * 16) b = a * 16 + b := by
 have := or_hexL ⟨a.toNat, by omega⟩ ⟨b.toNat, by omega⟩
 simp only [] at this
 rw [show ((a.toNat : Nat) : Int) = a from by omega, show ((b.toNat : Nat) : Int) = b from by omega] at this
 rw [this]; omega
section
variable {L R : Nat} {A : Option Addr} {c : Nat} {bs : Bs} {M V : Value} {w w' w0 : World} {r r' : Bs} {m : Nat} {out : Bs}
theorem lx_name (h : LO w0 L R A c bs 127 [] w r) : Calls Tryz.prog 151 #[.pointer (some ⟨R, 0, none⟩)] w (LexL w0 L R A c bs 127 (nameS (r.length + 1) [] r)) := by
 obtain ⟨K, hK⟩ : ∃ K, K = nameS (r.length + 1) [] r := ⟨_, rfl⟩
 rw [← hK]
 replace hK := hi_ hK
 replace h := hi_ h
 go_enter Tryz.func151, Tryz.ntmps151
 go_wp2
 go_loopw [] (fun wr => ∃ f out r1, LO w0 L R A c bs 127 out wr r1 ∧ nameS f out r1 = K ∧ r1.length < f ∧ out.length ≤ 127) (fun wr => bs.length + 1 - posOf L wr)
 case atStart => exact ⟨_, _, r, h.out, hK.out.symm, Nat.lt_succ_self _, by simp⟩
 case round =>
  obtain ⟨f, out, r1, hO, hE, hf, h127⟩ := hrel
  have hms := hO.posOf
  obtain ⟨f, rfl⟩ : ∃ g, f = g + 1 := ⟨f - 1, by omega⟩
  obtain ⟨v, hL, hW⟩ := hO.ls
  have q0 := hL.q0
  clear h hK
  cases r1 with
  | nil =>
   obtain rfl : K = .ok out [] := by rw [← hE, nameS]
   have cp := hi_ fun W h => ls_peekN (L := L) (R := R) (A := A) (c := c) (bs := bs) (M := .int .i64 (127 : Nat)) (V := v) W h
   have cr := hi_ fun W => lex_RegularN W
   refine h3_ hL hO hW ?_; clear hL hO hW; intro hL hO hW
   have hS := hi_ (Save.refl L wr)
   clear hms hE hf h127
   go_wp2_with (first | (go_at_call 56; (with_reducible refine (cp.out _ hL.out).mono ?_); rintro e w1 ⟨rfl, hL2, hS2⟩; replace hL := hi_ hL2; replace hS := hi_ (hS.out.trans hS2); replace q0 := hL.out.q0; clear hL2 hS2) | (go_at_call 55; (with_reducible refine (cr.out _).mono ?_); rintro e w2 ⟨rfl, rfl⟩))
   go_ret
   exact ⟨rfl, hO.out.mk2 hL.out hW.out hS.out⟩
  | cons x t =>
   obtain ⟨X, hX⟩ := hidE (x.toNat : Int)
   have hX0 : 0 ≤ X ∧ X ≤ 255 := by rw [hX.out]; have := x.toNat_lt; omega
   have cp := hi_ fun W h => ls_peekC (L := L) (R := R) (A := A) (c := c) (bs := bs) (M := .int .i64 (127 : Nat)) (V := v) (t := t) hX.out W h
   have cn := hi_ fun W h => ls_next (L := L) (R := R) (A := A) (c := c) (bs := bs) (M := .int .i64 (127 : Nat)) (V := v) (t := t) hX.out W h
   have h35 : (X == 35) = (x == 35) := by rw [hX.out, u8_eqI x 35]; rfl
   have hpc := pos_cons hL.suf
   have hple := suf_len hL.suf
   simp only [List.length_cons] at hf hple
   replace hL := hi_ hL
   replace hW := hi_ hW
   have hS := hi_ (Save.refl L wr)
   refine h6_ hO hms hpc hple hf h127 ?_; clear hO hms hpc hple hf h127; intro hO hms hpc hple hf h127
   cases hrx : regB x with
   | false =>
    have cr := hi_ fun W => lex_RegularI hX.out hrx.symm W
    obtain rfl : K = .ok out (x :: t) := by rw [← hE, nameS, if_pos hrx]
    clear hE h35 cn
    go_wp2_with (first | (go_at_call 56; (with_reducible refine (cp.out _ hL.out).mono ?_); rintro e w1 ⟨rfl, hL2, hS2⟩; replace hL := hi_ hL2; replace hS := hi_ (hS.out.trans hS2); replace q0 := hL.out.q0; clear hL2 hS2) | (go_at_call 55; (with_reducible refine (cr.out _).mono ?_); rintro e w2 ⟨rfl, rfl⟩))
    go_ret
    exact ⟨rfl, hO.out.mk2 hL.out hW.out hS.out⟩
   | true =>
    have cr := hi_ fun W => lex_RegularI hX.out hrx.symm W
    cases hx35 : (x == 35) with
    | false =>
     rw [hx35] at h35
     have hn35 : ¬ x = 35 := by simpa using hx35
     have cput := hi_ fun W h => lx_put (w0 := w0) (L := L) (R := R) (A := A) (c := c) (bs := bs) (m := 127) (out := out) (r := t) hX.out (by omega) W h h127.out
     by_cases h7 : 127 ≤ out.length
     ·have e4 : K = .err 3 t := by rw [← hE, nameS, if_neg (by rw [hrx]; decide), if_neg hn35, if_pos h7]
      subst e4
      clear hE
      replace h7 := hi_ h7
      go_wp2_with (first | ((first | (go_at_call 56; (with_reducible refine (cp.out _ hL.out).mono ?_)) | (go_at_call 60; (with_reducible refine (cn.out _ hL.out).mono ?_))); rintro e w1 ⟨rfl, hL2, hS2⟩; replace hL := hi_ hL2; replace hS := hi_ (hS.out.trans hS2); replace q0 := hL.out.q0; clear hL2 hS2) | (go_at_call 55; (with_reducible refine (cr.out _).mono ?_); rintro e w2 ⟨rfl, rfl⟩) | (go_at_call 184; (with_reducible refine (cput.out _ (hO.out.mk2 hL.out hW.out hS.out)).mono ?_); rintro e w1 ⟨k1, k2⟩; obtain ⟨rfl, hO2⟩ := k1 h7.out; replace hO2 := hi_ hO2; clear k1 k2))
      go_ret
      exact ⟨rfl, _, _, hO2.out⟩
     ·have e4 := hi_ (show nameS f (out ++ [x]) t = K by rw [← hE, nameS, if_neg (by rw [hrx]; decide), if_neg hn35, if_neg h7])
      replace h7 := hi_ h7
      go_wp2_with (first | ((first | (go_at_call 56; (with_reducible refine (cp.out _ hL.out).mono ?_)) | (go_at_call 60; (with_reducible refine (cn.out _ hL.out).mono ?_))); rintro e w1 ⟨rfl, hL2, hS2⟩; replace hL := hi_ hL2; replace hS := hi_ (hS.out.trans hS2); replace q0 := hL.out.q0; clear hL2 hS2) | (go_at_call 55; (with_reducible refine (cr.out _).mono ?_); rintro e w2 ⟨rfl, rfl⟩) | (go_at_call 184; (with_reducible refine (cput.out _ (hO.out.mk2 hL.out hW.out hS.out)).mono ?_); rintro e w1 ⟨k1, k2⟩; obtain ⟨rfl, hO2⟩ := k2 (Nat.lt_of_not_le h7.out); replace hO2 := hi_ hO2; clear k1 k2))
      have e1 := hO2.out.posOf
      have e2 := hms.out
      have e5 := h7.out
      have e6 := hf.out
      have e3 := hpc.out
      exact ⟨⟨f, _, t, hO2.out, e4.out, by omega, by simp only [List.length_append, List.length_cons, List.length_nil]; omega⟩, by rw [e1, e2]; omega⟩
    | true =>
     have hx : x = 35 := by simpa using hx35
     obtain rfl : X = 35 := by rw [hX.out, hx]; rfl
     obtain ⟨P0, hP0⟩ := hidE (pk t 0)
     obtain ⟨P1, hP1⟩ := hidE (pk t 1)
     obtain ⟨H, hH⟩ := hidE (digI P0)
     obtain ⟨J, hJ⟩ := hidE (digI P1)
     have r0 : -1 ≤ P0 ∧ P0 ≤ 255 := by rw [hP0.out]; exact pk_range t 0
     have r1 : -1 ≤ P1 ∧ P1 ≤ 255 := by rw [hP1.out]; exact pk_range t 1
     have rH : -1 ≤ H ∧ H ≤ 15 := by rw [hH.out]; exact dig_rangeL _
     have rJ : -1 ≤ J ∧ J ≤ 15 := by rw [hJ.out]; exact dig_rangeL _
     have cd0 := hi_ (show ∀ W, Calls Tryz.prog 183 #[.int .i64 P0] W fun e w' => e = .returned (.int .i64 H) ∧ w' = W from fun W => by rw [hH.out]; exact (asc_Digit P0 r0).mono fun _ _ k => ⟨k.1, k.2.symm⟩)
     have cd1 := hi_ (show ∀ W, Calls Tryz.prog 183 #[.int .i64 P1] W fun e w' => e = .returned (.int .i64 J) ∧ w' = W from fun W => by rw [hJ.out]; exact (asc_Digit P1 r1).mono fun _ _ k => ⟨k.1, k.2.symm⟩)
     have hE2 := hi_ hE
     rw [nameS, if_neg (by rw [hrx]; decide), if_pos hx, ← hP0.out, ← hP1.out, ← hH.out, ← hJ.out] at hE
     replace hE := hi_ hE
     have hw1 : IntKind.i64.wrap (H * 16) = H * 16 := IntWalk.i64_in _ (by omega)
     replace r0 := hi_ r0
     replace r1 := hi_ r1
     clear h35
     go_upto_region 4 with (first | ((first | (go_at_call 56; (with_reducible refine (cp.out _ hL.out).mono ?_)) | (go_at_call 60; (with_reducible refine (cn.out _ hL.out).mono ?_))); rintro e w1 ⟨rfl, hL2, hS2⟩; replace hL := hi_ hL2; replace hS := hi_ (hS.out.trans hS2); replace q0 := hL.out.q0; clear hL2 hS2) | (go_at_call 55; (with_reducible refine (cr.out _).mono ?_); rintro e w2 ⟨rfl, rfl⟩))
     have cq0 := hi_ (show ∀ n, Calls Tryz.prog 56 #[.pointer (some ⟨L, 0, none⟩), .int .i64 0] (w1.drewN n) fun e w' => e = .returned (.int .i64 P0) ∧ ∃ m, w' = w1.drewN m from fun n => by rw [hP0.out]; exact ls_peekQ hL.out 0 (by omega) n)
     have cq1 := hi_ (show ∀ n, Calls Tryz.prog 56 #[.pointer (some ⟨L, 0, none⟩), .int .i64 1] (w1.drewN n) fun e w' => e = .returned (.int .i64 P1) ∧ ∃ m, w' = w1.drewN m from fun n => by rw [hP1.out]; exact ls_peekQ hL.out 1 (by omega) n)
     go_quiet (first
      | (go_at_call 56; with_reducible exact cq0.out _)
      | (go_at_call 56; with_reducible exact cq1.out _)
      | (go_at_call 183; with_reducible exact Calls.quiet_of_same (cd0.out _))
      | (go_at_call 183; with_reducible exact Calls.quiet_of_same (cd1.out _)))
     clear cd0 cd1 cq0 cq1 cp cn cr
     by_cases hH0 : H < 0
     ·obtain rfl : H = -1 := by omega
      replace rJ := hi_ rJ
      have e4 : K = .err 4 t := by rw [← hE.out, if_pos (.inl (by decide))]
      subst e4
      clear hE hE2
      obtain ⟨C, hC⟩ : ∃ C, bits BinOp.or IntKind.i64 (-16) J = C := ⟨_, rfl⟩
      clear hw1 rH hH0
      go_wp2
      go_ret
      exact ⟨rfl, _, _, hO.out.mk2 (hL.out.drawn nq) hW.out (hS.out.trans (Save.of_below (below_drawn _ _)))⟩
     ·obtain ⟨a, rfl⟩ : ∃ a : Nat, H = (a : Int) := ⟨H.toNat, by omega⟩
      obtain ⟨C, hC⟩ : ∃ C, bits BinOp.or IntKind.i64 ((a : Int) * 16) J = C := ⟨_, rfl⟩
      by_cases hJ0 : J < 0
      ·have e4 : K = .err 4 t := by rw [← hE.out, if_pos (.inr (.inl hJ0))]
       subst e4
       clear hE hE2
       replace rJ := hi_ rJ
       replace rH := hi_ rH
       go_wp2
       go_ret
       exact ⟨rfl, _, _, hO.out.mk2 (hL.out.drawn nq) hW.out (hS.out.trans (Save.of_below (below_drawn _ _)))⟩
      ·have hC2 : C = a * 16 + J := by rw [← hC]; exact or_hexI (by omega) (by omega)
       by_cases hC0 : (a : Int) + J = 0
       ·have e4 : K = .err 4 t := by rw [← hE.out, if_pos (.inr (.inr hC0))]
        subst e4
        clear hE hE2
        obtain rfl : C = 0 := by omega
        refine h3_ rJ rH hC2 ?_; clear rJ rH hC2; intro rJ rH hC2
        go_wp2
        go_ret
        exact ⟨rfl, _, _, hO.out.mk2 (hL.out.drawn nq) hW.out (hS.out.trans (Save.of_below (below_drawn _ _)))⟩
       ·have hCn : ¬ C = 0 := by omega
        have hCr : 0 ≤ C ∧ C ≤ 255 := by omega
        obtain ⟨z, hz⟩ : ∃ z : UInt8, z = UInt8.ofNat ((a : Int) * 16 + J).toNat := ⟨_, rfl⟩
        have hzC : C = (z.toNat : Int) := by rw [hz, ← hC2, UInt8.toNat_ofNat']; omega
        have h2 : 2 ≤ t.length := pk_twoL (by rw [← hP1.out, ← hJ.out]; omega)
        have hE' := hE.out
        rw [if_neg (by rintro (e | e | e); exact hH0 e; exact hJ0 e; exact hC0 e), ← hz] at hE'
        have hpd := pos_drop hL.out.suf 2 h2
        have hps := pos_le bs t
        have hts := suf_len hL.out.suf
        have hd2 : (t.drop 2).length = t.length - 2 := List.length_drop
        have cput := hi_ fun W h => lx_put (w0 := w0) (L := L) (R := R) (A := A) (c := c) (bs := bs) (m := 127) (out := out) (r := t.drop 2) hzC (by omega) W h h127.out
        have csk := hi_ fun W h => ls_seek (L := L) (R := R) (A := A) (c := c) (bs := bs) (M := .int .i64 (127 : Nat)) (V := v) (r := t) (suf_dropn hL.out.suf 2) (q := (pos bs t : Int) + 2) (by rw [hpd]; omega) W h
        have cps := hi_ fun W h => ls_pos (L := L) (R := R) (A := A) (c := c) (bs := bs) (M := .int .i64 (127 : Nat)) (V := v) (r := t) W h
        obtain ⟨p, hp⟩ : ∃ p, p = pos bs t := ⟨_, rfl⟩
        rw [← hp] at csk cps hps
        have hsm := hL.out.cur.small
        have hwp : IntKind.i64.wrap ((p : Int) + 2) = (p : Int) + 2 := IntWalk.i64_in _ (by omega)
        generalize t.drop 2 = t2 at *
        replace hL := hi_ (hL.out.drawn nq)
        replace hS := hi_ (hS.out.trans (Save.of_below (below_drawn w1 nq)))
        replace q0 := hL.out.q0
        obtain ⟨W5, hW5⟩ : ∃ W5, W5 = w1.drewN nq := ⟨_, rfl⟩
        rw [← hW5] at hL hS q0 ⊢
        clear hW5
        refine h9_ hp hpd hps hts hd2 hsm h2 hz hzC ?_; clear hp hpd hps hts hd2 hsm h2 hz hzC; intro hp hpd hps hts hd2 hsm h2 hz hzC
        refine h4_ rJ rH hC2 hC0 ?_; clear rJ rH hC2 hC0; intro rJ rH hC2 hC0
        clear hE hE2
        by_cases h7 : 127 ≤ out.length
        ·have e4 : K = .err 3 t2 := by rw [← hE', if_pos h7]
         subst e4
         clear hE'
         replace h7 := hi_ h7
         go_wp2
         replace hL := hi_ (hL.out.belowW (Below.refl _ W5).drew)
         replace hS := hi_ (hS.out.trans (Save.of_below (Below.refl _ W5).drew))
         go_region_with (first | (go_at_call 14; (with_reducible refine (cps.out _ hL.out).mono ?_); rintro e w2 ⟨rfl, rfl⟩) | (go_at_call 30; (with_reducible refine (csk.out _ hL.out).mono ?_); rintro e w1 ⟨rfl, hL2, hS2⟩; replace hL := hi_ hL2; replace hS := hi_ (hS.out.trans hS2); replace q0 := hL.out.q0; clear hL2 hS2))
         all_goals go_wp2_with (go_at_call 184; (with_reducible refine (cput.out _ (hO.out.mk2 hL.out hW.out hS.out)).mono ?_); rintro e w1 ⟨k1, k2⟩; obtain ⟨rfl, hO2⟩ := k1 h7.out; replace hO2 := hi_ hO2; clear k1 k2)
         all_goals go_ret
         all_goals exact ⟨rfl, _, _, hO2.out⟩
        ·have e4 := hi_ (show nameS f (out ++ [z]) t2 = K by rw [← hE', if_neg h7])
         clear hE'
         replace h7 := hi_ h7
         go_wp2
         replace hL := hi_ (hL.out.belowW (Below.refl _ W5).drew)
         replace hS := hi_ (hS.out.trans (Save.of_below (Below.refl _ W5).drew))
         go_region_with (first | (go_at_call 14; (with_reducible refine (cps.out _ hL.out).mono ?_); rintro e w2 ⟨rfl, rfl⟩) | (go_at_call 30; (with_reducible refine (csk.out _ hL.out).mono ?_); rintro e w1 ⟨rfl, hL2, hS2⟩; replace hL := hi_ hL2; replace hS := hi_ (hS.out.trans hS2); replace q0 := hL.out.q0; clear hL2 hS2))
         all_goals go_wp2_with (go_at_call 184; (with_reducible refine (cput.out _ (hO.out.mk2 hL.out hW.out hS.out)).mono ?_); rintro e w1 ⟨k1, k2⟩; obtain ⟨rfl, hO2⟩ := k2 (Nat.lt_of_not_le h7.out); replace hO2 := hi_ hO2; clear k1 k2)
         all_goals
          have e1 := hO2.out.posOf
          have e2 := hms.out
          have e3 := hpc.out
          have e5 := h7.out
          have e6 := hf.out
          have e7 := hpd.out
          have e8 := hp.out
          have e9 := hd2.out
          have e10 := h2.out
          have e11 := hple.out
          exact ⟨⟨f, _, t2, hO2.out, e4.out, by omega, by simp only [List.length_append, List.length_cons, List.length_nil]; omega⟩, by rw [e1, e2]; omega⟩
end
theorem text_escL {f op : Nat} {out u : Bs} {d : UInt8} : textS (f + 1) op out (92 :: d :: u) = match escS d u with | (none, v) => textS f op out v | (some x, v) => if 32767 ≤ out.length then .err 3 v else textS f op (out ++ [x]) v := by
 rw [textS.eq_def]; rfl
theorem text_eolL {f op : Nat} {out t : Bs} {x : UInt8} (hx : x = 13 ∨ x = 10) : textS (f + 1) op out (x :: t) = if 32767 ≤ out.length then .err 3 t else textS f op (out ++ [10]) (eolS x t) := by
 rcases hx with rfl | rfl <;> (rw [textS.eq_def]; rfl)
theorem text_oneL {f op : Nat} {out t : Bs} {x : UInt8} (h1 : x ≠ 92) (h2 : ¬ (x = 13 ∨ x = 10)) : textS (f + 1) op out (x :: t) = if x = 41 ∧ op = 1 then .ok out t else if 32767 ≤ out.length then .err 3 t else textS f (if x = 40 then op + 1 else if x = 41 then op - 1 else op) (out ++ [x]) t := by
 rw [textS.eq_def]; simp only []; rw [if_neg h1, if_neg h2]
theorem eolS_lenL (x : UInt8) (t : Bs) : (eolS x t).length ≤ t.length := by unfold eolS; split <;> simp
theorem oct_leL : ∀ (k n : Nat) (r : Bs), (octS k n r).2.length ≤ r.length
 | 0, n, r => Nat.le_refl _
 | k + 1, n, [] => Nat.le_refl _
 | k + 1, n, c :: r => by
  rw [octS]
  split
  ·have := oct_leL k (8 * n + (c.toNat - 48)) r
   simp only [List.length_cons]; omega
  ·exact Nat.le_refl _
theorem esc_lenL (d : UInt8) (t : Bs) : (escS d t).2.length ≤ t.length := by
 unfold escS
 split
 ·exact eolS_lenL d t
 split
 ·exact oct_leL _ _ _
 ·exact Nat.le_refl _
section
variable {L R : Nat} {A : Option Addr} {c : Nat} {bs : Bs} {M V : Value} {w w' w0 : World} {r r' : Bs} {m : Nat} {out : Bs}
theorem lx_text (h : LO w0 L R A c bs 32767 [] w r) : Calls Tryz.prog 152 #[.pointer (some ⟨R, 0, none⟩)] w (LexL w0 L R A c bs 32767 (textS (r.length + 1) 1 [] r)) := by
 obtain ⟨K, hK⟩ : ∃ K, K = textS (r.length + 1) 1 [] r := ⟨_, rfl⟩
 rw [← hK]
 have hrl : r.length ≤ 1000000000 := by
  obtain ⟨v, hL, _⟩ := h.ls
  have := suf_len hL.suf
  have := hL.cur.small
  omega
 refine h3_ hK h hrl ?_; clear hK h hrl; intro hK h hrl
 go_enter Tryz.func152, Tryz.ntmps152
 go_wp2
 go_loopw [3] (fun s3 wr => ∃ f op out r1, s3 = .int .i64 (op : Nat) ∧ 1 ≤ op ∧ op + r1.length ≤ r.length + 1 ∧ LO w0 L R A c bs 32767 out wr r1 ∧ textS f op out r1 = K ∧ r1.length < f ∧ out.length ≤ 32767) (fun _ wr => bs.length + 1 - posOf L wr)
 case atStart => exact ⟨_, 1, _, r, rfl, by omega, by omega, h.out, hK.out.symm, Nat.lt_succ_self _, by simp⟩
 case round =>
  obtain ⟨f, op, out, r1, rfl, hop1, hop2, hO, hE, hf, hmx⟩ := hrel
  have hms := hO.posOf
  obtain ⟨f, rfl⟩ : ∃ g, f = g + 1 := ⟨f - 1, by omega⟩
  obtain ⟨v, hL, hW⟩ := hO.ls
  have q0 := hL.q0
  obtain ⟨oi, hoi⟩ := hidE (op : Int)
  have hoi0 : 1 ≤ oi ∧ oi ≤ 1000000001 := by have := hrl.out; rw [hoi.out]; omega
  rw [← hoi.out]
  have hbw : bs.length + 1 - posOf L wr = r1.length + 1 := by rw [hms]; have := pos_len hL.suf; have := pos_le bs r1; omega
  have hup : ∀ W out' r2, LO w0 L R A c bs 32767 out' W r2 → bs.length + 1 - posOf L W = r2.length + 1 := fun W out' r2 ho => by
   obtain ⟨v, hL, _⟩ := ho.ls
   rw [hL.posOf]; have := pos_len hL.suf; have := pos_le bs r2; omega
  clear h hK hms
  refine h9_ hup hbw hop1 hop2 hf hmx hL hW hO ?_; clear hup hbw hop1 hop2 hf hmx hL hW hO; intro hup hbw hop1 hop2 hf hmx hL hW hO
  have hS := hi_ (Save.refl L wr)
  cases r1 with
  | nil =>
   have cn := hi_ fun W h => ls_nextN (L := L) (R := R) (A := A) (c := c) (bs := bs) (M := .int .i64 (32767 : Nat)) (V := v) W h
   obtain rfl : K = .err 2 [] := by rw [← hE, textS]
   clear hE
   go_wp2_with (go_at_call 60; (with_reducible refine (cn.out _ hL.out).mono ?_); rintro e w1 ⟨rfl, hL2, hS2⟩; replace hL := hi_ hL2; replace hS := hi_ (hS.out.trans hS2); replace q0 := hL.out.q0; clear hL2 hS2)
   go_ret
   exact ⟨rfl, _, _, hO.out.mk2 hL.out hW.out hS.out⟩
  | cons x t =>
   obtain ⟨X, hX⟩ := hidE (x.toNat : Int)
   have hX0 : 0 ≤ X ∧ X ≤ 255 := by rw [hX.out]; have := x.toNat_lt; omega
   have cn := hi_ fun W h => ls_next (L := L) (R := R) (A := A) (c := c) (bs := bs) (M := .int .i64 (32767 : Nat)) (V := v) (t := t) hX.out W h
   have ne : ∀ a : UInt8, x ≠ a → ¬ X = (a.toNat : Int) := fun a hv e => hv (UInt8.toNat_inj.1 (by rw [hX.out] at e; omega))
   replace ne := hi_ ne
   by_cases h92 : x = 92
   ·subst h92
    obtain rfl : X = 92 := hX.out
    cases t with
    | nil =>
     have cn2 := hi_ fun W h => ls_nextN (L := L) (R := R) (A := A) (c := c) (bs := bs) (M := .int .i64 (32767 : Nat)) (V := v) W h
     obtain rfl : K = .err 2 [] := by rw [← hE, textS.eq_def]; rfl
     clear hE
     go_wp2_with (first | ((first | (go_at_call 60; (with_reducible refine (cn.out _ hL.out).mono ?_)) | (go_at_call 60; (with_reducible refine (cn2.out _ hL.out).mono ?_))); rintro e w1 ⟨rfl, hL2, hS2⟩; replace hL := hi_ hL2; replace hS := hi_ (hS.out.trans hS2); replace q0 := hL.out.q0; clear hL2 hS2))
     go_ret
     exact ⟨rfl, _, _, hO.out.mk2 hL.out hW.out hS.out⟩
    | cons d u =>
     obtain ⟨Y, hY⟩ := hidE (d.toNat : Int)
     have hY0 : 0 ≤ Y ∧ Y ≤ 255 := by rw [hY.out]; have := d.toNat_lt; omega
     have cn2 := hi_ fun W h => ls_next (L := L) (R := R) (A := A) (c := c) (bs := bs) (M := .int .i64 (32767 : Nat)) (V := v) (t := u) hY.out W h
     have ces := hi_ fun W h => lx_escape (L := L) (R := R) (A := A) (c := c) (bs := bs) (M := .int .i64 (32767 : Nat)) (V := v) (t := u) hY.out W h
     rw [text_escL] at hE
     have hul := esc_lenL d u
     obtain ⟨E, hEe⟩ : ∃ E, E = escS d u := ⟨_, rfl⟩
     rw [← hEe] at ces hE hul
     replace hEe := hi_ hEe
     obtain ⟨ev, u2⟩ := E
     cases ev with
     | none =>
      simp only [] at hE hul
      replace hE := hi_ hE
      replace hul := hi_ hul
      rw [show escVL (none, u2).1 = -1 from rfl] at ces
      go_wp2_with (first | ((first | (go_at_call 60; (with_reducible refine (cn.out _ hL.out).mono ?_)) | (go_at_call 60; (with_reducible refine (cn2.out _ hL.out).mono ?_)) | (go_at_call 185; (with_reducible refine (ces.out _ hL.out).mono ?_))); rintro e w1 ⟨rfl, hL2, hS2⟩; replace hL := hi_ hL2; replace hS := hi_ (hS.out.trans hS2); replace q0 := hL.out.q0; clear hL2 hS2))
      have hO2 := hO.out.mk2 hL.out hW.out hS.out
      have e1 := hup.out _ _ _ hO2
      have e2 := hbw.out
      have e3 := hul.out
      have e4 := hop2.out
      have e5 := hf.out
      simp only [List.length_cons] at e2 e3 e4 e5
      exact ⟨⟨f, op, out, u2, congrArg (Value.int .i64) hoi.out, hop1.out, by omega, hO2, hE.out, by omega, hmx.out⟩, by rw [e1, e2]; omega⟩
     | some z =>
      simp only [] at hE hul
      obtain ⟨Z, hZ⟩ := hidE (z.toNat : Int)
      have hZ0 : 0 ≤ Z ∧ Z ≤ 255 := by rw [hZ.out]; have := z.toNat_lt; omega
      rw [show escVL (some z, u2).1 = Z from hZ.out.symm] at ces
      replace hul := hi_ hul
      have cput := hi_ fun W h => lx_put (w0 := w0) (L := L) (R := R) (A := A) (c := c) (bs := bs) (m := 32767) (out := out) (r := u2) (x := z) (X := Z) hZ.out (by omega) W h hmx.out
      by_cases h7 : 32767 ≤ out.length
      ·have e4 : K = .err 3 u2 := by rw [← hE, if_pos h7]
       subst e4
       clear hE
       replace h7 := hi_ h7
       go_wp2_with (first | ((first | (go_at_call 60; (with_reducible refine (cn.out _ hL.out).mono ?_)) | (go_at_call 60; (with_reducible refine (cn2.out _ hL.out).mono ?_)) | (go_at_call 185; (with_reducible refine (ces.out _ hL.out).mono ?_))); rintro e w1 ⟨rfl, hL2, hS2⟩; replace hL := hi_ hL2; replace hS := hi_ (hS.out.trans hS2); replace q0 := hL.out.q0; clear hL2 hS2) | (go_at_call 184; (with_reducible refine (cput.out _ (hO.out.mk2 hL.out hW.out hS.out)).mono ?_); rintro e w1 ⟨k1, k2⟩; obtain ⟨rfl, hO2⟩ := k1 h7.out; replace hO2 := hi_ hO2; clear k1 k2))
       go_ret
       exact ⟨rfl, _, _, hO2.out⟩
      ·have e4 := hi_ (show textS f (op) (out ++ [z]) u2 = K by rw [← hE, if_neg h7])
       clear hE
       replace h7 := hi_ h7
       go_wp2_with (first | ((first | (go_at_call 60; (with_reducible refine (cn.out _ hL.out).mono ?_)) | (go_at_call 60; (with_reducible refine (cn2.out _ hL.out).mono ?_)) | (go_at_call 185; (with_reducible refine (ces.out _ hL.out).mono ?_))); rintro e w1 ⟨rfl, hL2, hS2⟩; replace hL := hi_ hL2; replace hS := hi_ (hS.out.trans hS2); replace q0 := hL.out.q0; clear hL2 hS2) | (go_at_call 184; (with_reducible refine (cput.out _ (hO.out.mk2 hL.out hW.out hS.out)).mono ?_); rintro e w1 ⟨k1, k2⟩; obtain ⟨rfl, hO2⟩ := k2 (Nat.lt_of_not_le h7.out); replace hO2 := hi_ hO2; clear k1 k2))
       have e1 := hup.out _ _ _ hO2.out
       have e2 := hbw.out
       have e3 := hul.out
       have e6 := hop2.out
       have e5 := hf.out
       have e8 := h7.out
       have e9 := hop1.out
       simp only [List.length_cons] at e2 e3 e6 e5
       exact ⟨⟨f, op, _, u2, congrArg (Value.int .i64) hoi.out, hop1.out, by omega, hO2.out, e4.out, by omega, by simp only [List.length_append, List.length_cons, List.length_nil]; omega⟩, by rw [e1, e2]; omega⟩
   ·have n92 := ne.out 92 h92
    simp only [UInt8.reduceToNat, Int.cast_ofNat_Int] at n92
    by_cases h13 : x = 13 ∨ x = 10
    ·have cel := hi_ fun W h => lx_eol (L := L) (R := R) (A := A) (c := c) (bs := bs) (M := .int .i64 (32767 : Nat)) (V := v) (t := t) hX.out W h
     rw [text_eolL h13] at hE
     have hul := eolS_lenL x t
     generalize eolS x t = u2 at *
     have hZ : Hid ((10 : Int) = ((10 : UInt8).toNat : Int)) := hi_ rfl
     replace hul := hi_ hul
     rcases h13 with rfl | rfl
     ·obtain rfl : X = 13 := hX.out
      have cput := hi_ fun W h => lx_put (w0 := w0) (L := L) (R := R) (A := A) (c := c) (bs := bs) (m := 32767) (out := out) (r := u2) (x := 10) (X := 10) hZ.out (by omega) W h hmx.out
      by_cases h7 : 32767 ≤ out.length
      ·have e4 : K = .err 3 t := by rw [← hE, if_pos h7]
       subst e4
       clear hE
       replace h7 := hi_ h7
       go_wp2_with (first | ((first | (go_at_call 60; (with_reducible refine (cn.out _ hL.out).mono ?_)) | (go_at_call 186; (with_reducible refine (cel.out _ hL.out).mono ?_))); rintro e w1 ⟨rfl, hL2, hS2⟩; replace hL := hi_ hL2; replace hS := hi_ (hS.out.trans hS2); replace q0 := hL.out.q0; clear hL2 hS2) | (go_at_call 184; (with_reducible refine (cput.out _ (hO.out.mk2 hL.out hW.out hS.out)).mono ?_); rintro e w1 ⟨k1, k2⟩; obtain ⟨rfl, hO2⟩ := k1 h7.out; replace hO2 := hi_ hO2; clear k1 k2))
       go_ret
       exact ⟨rfl, _, _, hO2.out⟩
      ·have e4 := hi_ (show textS f (op) (out ++ [10]) u2 = K by rw [← hE, if_neg h7])
       clear hE
       replace h7 := hi_ h7
       go_wp2_with (first | ((first | (go_at_call 60; (with_reducible refine (cn.out _ hL.out).mono ?_)) | (go_at_call 186; (with_reducible refine (cel.out _ hL.out).mono ?_))); rintro e w1 ⟨rfl, hL2, hS2⟩; replace hL := hi_ hL2; replace hS := hi_ (hS.out.trans hS2); replace q0 := hL.out.q0; clear hL2 hS2) | (go_at_call 184; (with_reducible refine (cput.out _ (hO.out.mk2 hL.out hW.out hS.out)).mono ?_); rintro e w1 ⟨k1, k2⟩; obtain ⟨rfl, hO2⟩ := k2 (Nat.lt_of_not_le h7.out); replace hO2 := hi_ hO2; clear k1 k2))
       have e1 := hup.out _ _ _ hO2.out
       have e2 := hbw.out
       have e3 := hul.out
       have e6 := hop2.out
       have e5 := hf.out
       have e8 := h7.out
       have e9 := hop1.out
       simp only [List.length_cons] at e2 e3 e6 e5
       exact ⟨⟨f, op, _, u2, congrArg (Value.int .i64) hoi.out, hop1.out, by omega, hO2.out, e4.out, by omega, by simp only [List.length_append, List.length_cons, List.length_nil]; omega⟩, by rw [e1, e2]; omega⟩
     ·obtain rfl : X = 10 := hX.out
      have cput := hi_ fun W h => lx_put (w0 := w0) (L := L) (R := R) (A := A) (c := c) (bs := bs) (m := 32767) (out := out) (r := u2) (x := 10) (X := 10) hZ.out (by omega) W h hmx.out
      by_cases h7 : 32767 ≤ out.length
      ·have e4 : K = .err 3 t := by rw [← hE, if_pos h7]
       subst e4
       clear hE
       replace h7 := hi_ h7
       go_wp2_with (first | ((first | (go_at_call 60; (with_reducible refine (cn.out _ hL.out).mono ?_)) | (go_at_call 186; (with_reducible refine (cel.out _ hL.out).mono ?_))); rintro e w1 ⟨rfl, hL2, hS2⟩; replace hL := hi_ hL2; replace hS := hi_ (hS.out.trans hS2); replace q0 := hL.out.q0; clear hL2 hS2) | (go_at_call 184; (with_reducible refine (cput.out _ (hO.out.mk2 hL.out hW.out hS.out)).mono ?_); rintro e w1 ⟨k1, k2⟩; obtain ⟨rfl, hO2⟩ := k1 h7.out; replace hO2 := hi_ hO2; clear k1 k2))
       go_ret
       exact ⟨rfl, _, _, hO2.out⟩
      ·have e4 := hi_ (show textS f (op) (out ++ [10]) u2 = K by rw [← hE, if_neg h7])
       clear hE
       replace h7 := hi_ h7
       go_wp2_with (first | ((first | (go_at_call 60; (with_reducible refine (cn.out _ hL.out).mono ?_)) | (go_at_call 186; (with_reducible refine (cel.out _ hL.out).mono ?_))); rintro e w1 ⟨rfl, hL2, hS2⟩; replace hL := hi_ hL2; replace hS := hi_ (hS.out.trans hS2); replace q0 := hL.out.q0; clear hL2 hS2) | (go_at_call 184; (with_reducible refine (cput.out _ (hO.out.mk2 hL.out hW.out hS.out)).mono ?_); rintro e w1 ⟨k1, k2⟩; obtain ⟨rfl, hO2⟩ := k2 (Nat.lt_of_not_le h7.out); replace hO2 := hi_ hO2; clear k1 k2))
       have e1 := hup.out _ _ _ hO2.out
       have e2 := hbw.out
       have e3 := hul.out
       have e6 := hop2.out
       have e5 := hf.out
       have e8 := h7.out
       have e9 := hop1.out
       simp only [List.length_cons] at e2 e3 e6 e5
       exact ⟨⟨f, op, _, u2, congrArg (Value.int .i64) hoi.out, hop1.out, by omega, hO2.out, e4.out, by omega, by simp only [List.length_append, List.length_cons, List.length_nil]; omega⟩, by rw [e1, e2]; omega⟩
    ·rw [text_oneL h92 h13] at hE
     have n13 := ne.out 13 (fun e => h13 (.inl e))
     have n10 := ne.out 10 (fun e => h13 (.inr e))
     simp only [UInt8.reduceToNat, Int.cast_ofNat_Int] at n13 n10
     have hul : Hid (t.length ≤ t.length) := hi_ (Nat.le_refl _)
     have hZ := hX
     by_cases h40 : x = 40
     ·subst h40
      obtain rfl : X = 40 := hX.out
      rw [if_neg (by rintro ⟨e, _⟩; exact absurd e (by decide)), show (if (40 : UInt8) = 40 then op + 1 else if (40 : UInt8) = 41 then op - 1 else op) = op + 1 from by simp] at hE
      have cput := hi_ fun W h => lx_put (w0 := w0) (L := L) (R := R) (A := A) (c := c) (bs := bs) (m := 32767) (out := out) (r := t) (x := 40) (X := 40) hZ.out (by omega) W h hmx.out
      by_cases h7 : 32767 ≤ out.length
      ·have e4 : K = .err 3 t := by rw [← hE, if_pos h7]
       subst e4
       clear hE
       replace h7 := hi_ h7
       go_wp2_with (first | (go_at_call 60; (with_reducible refine (cn.out _ hL.out).mono ?_); rintro e w1 ⟨rfl, hL2, hS2⟩; replace hL := hi_ hL2; replace hS := hi_ (hS.out.trans hS2); replace q0 := hL.out.q0; clear hL2 hS2) | (go_at_call 184; (with_reducible refine (cput.out _ (hO.out.mk2 hL.out hW.out hS.out)).mono ?_); rintro e w1 ⟨k1, k2⟩; obtain ⟨rfl, hO2⟩ := k1 h7.out; replace hO2 := hi_ hO2; clear k1 k2))
       go_ret
       exact ⟨rfl, _, _, hO2.out⟩
      ·have e4 := hi_ (show textS f (op + 1) (out ++ [40]) t = K by rw [← hE, if_neg h7])
       clear hE
       replace h7 := hi_ h7
       go_wp2_with (first | (go_at_call 60; (with_reducible refine (cn.out _ hL.out).mono ?_); rintro e w1 ⟨rfl, hL2, hS2⟩; replace hL := hi_ hL2; replace hS := hi_ (hS.out.trans hS2); replace q0 := hL.out.q0; clear hL2 hS2) | (go_at_call 184; (with_reducible refine (cput.out _ (hO.out.mk2 hL.out hW.out hS.out)).mono ?_); rintro e w1 ⟨k1, k2⟩; obtain ⟨rfl, hO2⟩ := k2 (Nat.lt_of_not_le h7.out); replace hO2 := hi_ hO2; clear k1 k2))
       have e1 := hup.out _ _ _ hO2.out
       have e2 := hbw.out
       have e3 := hul.out
       have e6 := hop2.out
       have e5 := hf.out
       have e8 := h7.out
       have e9 := hop1.out
       simp only [List.length_cons] at e2 e3 e6 e5
       exact ⟨⟨f, op + 1, _, t, congrArg (Value.int .i64) (by have := hoi.out; omega), Nat.succ_pos _, by omega, hO2.out, e4.out, by omega, by simp only [List.length_append, List.length_cons, List.length_nil]; omega⟩, by rw [e1, e2]; omega⟩
     ·have n40 := ne.out 40 h40
      simp only [UInt8.reduceToNat, Int.cast_ofNat_Int] at n40
      by_cases h41 : x = 41
      ·subst h41
       obtain rfl : X = 41 := hX.out
       by_cases hp1 : op = 1
       ·obtain rfl : oi = 1 := by rw [hoi.out, hp1]; rfl
        obtain rfl : K = .ok out t := by rw [← hE, if_pos ⟨rfl, hp1⟩]
        clear hE
        replace hp1 := hi_ hp1
        go_wp2_with (go_at_call 60; (with_reducible refine (cn.out _ hL.out).mono ?_); rintro e w1 ⟨rfl, hL2, hS2⟩; replace hL := hi_ hL2; replace hS := hi_ (hS.out.trans hS2); replace q0 := hL.out.q0; clear hL2 hS2)
        go_ret
        exact ⟨rfl, hO.out.mk2 hL.out hW.out hS.out⟩
       ·have hoi1 : ¬ oi = 1 := by rw [hoi.out]; omega
        have hoi2 : (oi - 1 == 0) = false := by rw [beq_eq_false_iff_ne]; omega
        rw [if_neg (by rintro ⟨_, e⟩; exact hp1 e), show (if (41 : UInt8) = 40 then op + 1 else if (41 : UInt8) = 41 then op - 1 else op) = op - 1 from by simp] at hE
        replace hp1 := hi_ hp1
        have cput := hi_ fun W h => lx_put (w0 := w0) (L := L) (R := R) (A := A) (c := c) (bs := bs) (m := 32767) (out := out) (r := t) (x := 41) (X := 41) hZ.out (by omega) W h hmx.out
        by_cases h7 : 32767 ≤ out.length
        ·have e4 : K = .err 3 t := by rw [← hE, if_pos h7]
         subst e4
         clear hE
         replace h7 := hi_ h7
         go_wp2_with (first | (go_at_call 60; (with_reducible refine (cn.out _ hL.out).mono ?_); rintro e w1 ⟨rfl, hL2, hS2⟩; replace hL := hi_ hL2; replace hS := hi_ (hS.out.trans hS2); replace q0 := hL.out.q0; clear hL2 hS2) | (go_at_call 184; (with_reducible refine (cput.out _ (hO.out.mk2 hL.out hW.out hS.out)).mono ?_); rintro e w1 ⟨k1, k2⟩; obtain ⟨rfl, hO2⟩ := k1 h7.out; replace hO2 := hi_ hO2; clear k1 k2))
         go_ret
         exact ⟨rfl, _, _, hO2.out⟩
        ·have e4 := hi_ (show textS f (op - 1) (out ++ [41]) t = K by rw [← hE, if_neg h7])
         clear hE
         replace h7 := hi_ h7
         go_wp2_with (first | (go_at_call 60; (with_reducible refine (cn.out _ hL.out).mono ?_); rintro e w1 ⟨rfl, hL2, hS2⟩; replace hL := hi_ hL2; replace hS := hi_ (hS.out.trans hS2); replace q0 := hL.out.q0; clear hL2 hS2) | (go_at_call 184; (with_reducible refine (cput.out _ (hO.out.mk2 hL.out hW.out hS.out)).mono ?_); rintro e w1 ⟨k1, k2⟩; obtain ⟨rfl, hO2⟩ := k2 (Nat.lt_of_not_le h7.out); replace hO2 := hi_ hO2; clear k1 k2))
         have e1 := hup.out _ _ _ hO2.out
         have e2 := hbw.out
         have e3 := hul.out
         have e6 := hop2.out
         have e5 := hf.out
         have e8 := h7.out
         have e9 := hop1.out
         simp only [List.length_cons] at e2 e3 e6 e5
         exact ⟨⟨f, op - 1, _, t, congrArg (Value.int .i64) (by have := hoi.out; have := hop1.out; omega), (by have := hop1.out; have := hp1.out; omega), by omega, hO2.out, e4.out, by omega, by simp only [List.length_append, List.length_cons, List.length_nil]; omega⟩, by rw [e1, e2]; omega⟩
      ·have n41 := ne.out 41 h41
       simp only [UInt8.reduceToNat, Int.cast_ofNat_Int] at n41
       rw [if_neg (by rintro ⟨e, _⟩; exact h41 e), if_neg h40, if_neg h41] at hE
       have cput := hi_ fun W h => lx_put (w0 := w0) (L := L) (R := R) (A := A) (c := c) (bs := bs) (m := 32767) (out := out) (r := t) (x := x) (X := X) hZ.out (by omega) W h hmx.out
       by_cases h7 : 32767 ≤ out.length
       ·have e4 : K = .err 3 t := by rw [← hE, if_pos h7]
        subst e4
        clear hE
        replace h7 := hi_ h7
        go_wp2_with (first | (go_at_call 60; (with_reducible refine (cn.out _ hL.out).mono ?_); rintro e w1 ⟨rfl, hL2, hS2⟩; replace hL := hi_ hL2; replace hS := hi_ (hS.out.trans hS2); replace q0 := hL.out.q0; clear hL2 hS2) | (go_at_call 184; (with_reducible refine (cput.out _ (hO.out.mk2 hL.out hW.out hS.out)).mono ?_); rintro e w1 ⟨k1, k2⟩; obtain ⟨rfl, hO2⟩ := k1 h7.out; replace hO2 := hi_ hO2; clear k1 k2))
        go_ret
        exact ⟨rfl, _, _, hO2.out⟩
       ·have e4 := hi_ (show textS f (op) (out ++ [x]) t = K by rw [← hE, if_neg h7])
        clear hE
        replace h7 := hi_ h7
        go_wp2_with (first | (go_at_call 60; (with_reducible refine (cn.out _ hL.out).mono ?_); rintro e w1 ⟨rfl, hL2, hS2⟩; replace hL := hi_ hL2; replace hS := hi_ (hS.out.trans hS2); replace q0 := hL.out.q0; clear hL2 hS2) | (go_at_call 184; (with_reducible refine (cput.out _ (hO.out.mk2 hL.out hW.out hS.out)).mono ?_); rintro e w1 ⟨k1, k2⟩; obtain ⟨rfl, hO2⟩ := k2 (Nat.lt_of_not_le h7.out); replace hO2 := hi_ hO2; clear k1 k2))
        have e1 := hup.out _ _ _ hO2.out
        have e2 := hbw.out
        have e3 := hul.out
        have e6 := hop2.out
        have e5 := hf.out
        have e8 := h7.out
        have e9 := hop1.out
        simp only [List.length_cons] at e2 e3 e6 e5
        exact ⟨⟨f, op, _, t, congrArg (Value.int .i64) hoi.out, hop1.out, by omega, hO2.out, e4.out, by omega, by simp only [List.length_append, List.length_cons, List.length_nil]; omega⟩, by rw [e1, e2]; omega⟩
end
theorem hex_stepL {f : Nat} {h : Int} {out t : Bs} {x : UInt8} (hw : whiteB x = false) : hexR (f + 1) h out (x :: t) =
 if x = 62 then (if h < 0 then .ok out t else if 32767 ≤ out.length then .err 3 t else .ok (out ++ [UInt8.ofNat (16 * h).toNat]) t)
 else if digI x.toNat < 0 then .err 4 t else if h < 0 then hexR f (digI x.toNat) out t else if 32767 ≤ out.length then .err 3 t else hexR f (-1) (out ++ [UInt8.ofNat (16 * h + digI x.toNat).toNat]) t := by
 rw [hexR, if_neg (by rw [hw]; decide)]
section
variable {L R : Nat} {A : Option Addr} {c : Nat} {bs : Bs} {M V : Value} {w w' w0 : World} {r r' : Bs} {m : Nat} {out : Bs}
theorem lx_hex (h : LO w0 L R A c bs 32767 [] w r) : Calls Tryz.prog 153 #[.pointer (some ⟨R, 0, none⟩)] w (LexL w0 L R A c bs 32767 (hexR (r.length + 1) (-1) [] r)) := by
 obtain ⟨K, hK⟩ : ∃ K, K = hexR (r.length + 1) (-1) [] r := ⟨_, rfl⟩
 rw [← hK]
 replace hK := hi_ hK
 replace h := hi_ h
 go_enter Tryz.func153, Tryz.ntmps153
 go_wp2
 go_loopw [3] (fun s3 wr => ∃ f hi out r1, s3 = .int .i64 hi ∧ (-1 ≤ hi ∧ hi ≤ 15) ∧ LO w0 L R A c bs 32767 out wr r1 ∧ hexR f hi out r1 = K ∧ r1.length < f ∧ out.length ≤ 32767) (fun _ wr => bs.length + 1 - posOf L wr)
 case atStart => exact ⟨_, -1, _, r, rfl, by omega, h.out, hK.out.symm, Nat.lt_succ_self _, by simp⟩
 case round =>
  obtain ⟨f, hi, out, r1, rfl, hi0, hO, hE, hf, hmx⟩ := hrel
  have hms := hO.posOf
  obtain ⟨f, rfl⟩ : ∃ g, f = g + 1 := ⟨f - 1, by omega⟩
  obtain ⟨v, hL, hW⟩ := hO.ls
  have q0 := hL.q0
  have hbw : bs.length + 1 - posOf L wr = r1.length + 1 := by rw [hms]; have := pos_len hL.suf; have := pos_le bs r1; omega
  have hup : ∀ W out' r2, LO w0 L R A c bs 32767 out' W r2 → bs.length + 1 - posOf L W = r2.length + 1 := fun W out' r2 ho => by
   obtain ⟨v, hL, _⟩ := ho.ls
   rw [hL.posOf]; have := pos_len hL.suf; have := pos_le bs r2; omega
  clear h hK hms
  refine h7_ hup hbw hf hmx hL hW hO ?_; clear hup hbw hf hmx hL hW hO; intro hup hbw hf hmx hL hW hO
  have hS := hi_ (Save.refl L wr)
  cases r1 with
  | nil =>
   have cn := hi_ fun W h => ls_nextN (L := L) (R := R) (A := A) (c := c) (bs := bs) (M := .int .i64 (32767 : Nat)) (V := v) W h
   have cd := hi_ (show ∀ W, Calls Tryz.prog 183 #[.int .i64 (-1)] W fun e w' => e = .returned (.int .i64 (-1)) ∧ W = w' from fun W => asc_Digit (-1) (by omega))
   obtain rfl : K = .err 2 [] := by rw [← hE, hexR]
   clear hE
   go_wp2_with (first | (go_at_call 60; (with_reducible refine (cn.out _ hL.out).mono ?_); rintro e w1 ⟨rfl, hL2, hS2⟩; replace hL := hi_ hL2; replace hS := hi_ (hS.out.trans hS2); replace q0 := hL.out.q0; clear hL2 hS2) | (go_at_call 183; (with_reducible refine (cd.out _).mono ?_); rintro e w2 ⟨rfl, rfl⟩))
   go_ret
   exact ⟨rfl, _, _, hO.out.mk2 hL.out hW.out hS.out⟩
  | cons x t =>
   obtain ⟨X, hX⟩ := hidE (x.toNat : Int)
   have hX0 : 0 ≤ X ∧ X ≤ 255 := by rw [hX.out]; have := x.toNat_lt; omega
   obtain ⟨D, hD⟩ := hidE (digI X)
   have rD : -1 ≤ D ∧ D ≤ 15 := by rw [hD.out]; exact dig_rangeL _
   have cn := hi_ fun W h => ls_next (L := L) (R := R) (A := A) (c := c) (bs := bs) (M := .int .i64 (32767 : Nat)) (V := v) (t := t) hX.out W h
   have cd := hi_ (show ∀ W, Calls Tryz.prog 183 #[.int .i64 X] W fun e w' => e = .returned (.int .i64 D) ∧ W = w' from fun W => by rw [hD.out]; exact asc_Digit X (by omega))
   have ne : ∀ a : UInt8, x ≠ a → ¬ X = (a.toNat : Int) := fun a hv e => hv (UInt8.toNat_inj.1 (by rw [hX.out] at e; omega))
   replace ne := hi_ ne
   cases hwx : whiteB x with
   | true =>
    have cw := hi_ fun W => asc_WhiteI hX.out hwx.symm W
    have e4 := hi_ (show hexR f hi out t = K by rw [← hE, hexR, if_pos hwx])
    clear hE
    replace hi0 := hi_ hi0
    go_wp2_with (first | (go_at_call 60; (with_reducible refine (cn.out _ hL.out).mono ?_); rintro e w1 ⟨rfl, hL2, hS2⟩; replace hL := hi_ hL2; replace hS := hi_ (hS.out.trans hS2); replace q0 := hL.out.q0; clear hL2 hS2) | ((first | (go_at_call 183; (with_reducible refine (cd.out _).mono ?_)) | (go_at_call 59; (with_reducible refine (cw.out _).mono ?_))); rintro e w2 ⟨rfl, rfl⟩))
    have hO2 := hO.out.mk2 hL.out hW.out hS.out
    have e1 := hup.out _ _ _ hO2
    have e2 := hbw.out
    have e5 := hf.out
    simp only [List.length_cons] at e2 e5
    exact ⟨⟨f, hi, out, t, rfl, hi0.out, hO2, e4.out, by omega, hmx.out⟩, by rw [e1, e2]; omega⟩
   | false =>
    have cw := hi_ fun W => asc_WhiteI hX.out hwx.symm W
    rw [hex_stepL hwx] at hE
    rw [← hX.out, ← hD.out] at hE
    by_cases h62 : x = 62
    ·subst h62
     obtain rfl : X = 62 := hX.out
     rw [if_pos rfl] at hE
     by_cases hn : hi < 0
     ·obtain rfl : K = .ok out t := by rw [← hE, if_pos hn]
      clear hE
      go_wp2_with (first | (go_at_call 60; (with_reducible refine (cn.out _ hL.out).mono ?_); rintro e w1 ⟨rfl, hL2, hS2⟩; replace hL := hi_ hL2; replace hS := hi_ (hS.out.trans hS2); replace q0 := hL.out.q0; clear hL2 hS2) | ((first | (go_at_call 183; (with_reducible refine (cd.out _).mono ?_)) | (go_at_call 59; (with_reducible refine (cw.out _).mono ?_))); rintro e w2 ⟨rfl, rfl⟩))
      go_ret
      exact ⟨rfl, hO.out.mk2 hL.out hW.out hS.out⟩
     ·obtain ⟨a, rfl⟩ : ∃ a : Nat, hi = (a : Int) := ⟨hi.toNat, by omega⟩
      rw [if_neg hn] at hE
      obtain ⟨z, hz⟩ : ∃ z : UInt8, z = UInt8.ofNat (16 * (a : Int)).toNat := ⟨_, rfl⟩
      have hZ : Hid ((a : Int) * 16 = (z.toNat : Int)) := hi_ (by rw [hz, UInt8.toNat_ofNat']; omega)
      rw [← hz] at hE
      have hw1 : IntKind.i64.wrap ((a : Int) * 16) = (a : Int) * 16 := IntWalk.i64_in _ (by omega)
      have cput := hi_ fun W h => lx_put (w0 := w0) (L := L) (R := R) (A := A) (c := c) (bs := bs) (m := 32767) (out := out) (r := t) (x := z) (X := (a : Int) * 16) hZ.out (by omega) W h hmx.out
      replace hz := hi_ hz
      by_cases h7 : 32767 ≤ out.length
      ·obtain rfl : K = .err 3 t := by rw [← hE, if_pos h7]
       clear hE
       replace h7 := hi_ h7
       go_wp2_with (first | (go_at_call 60; (with_reducible refine (cn.out _ hL.out).mono ?_); rintro e w1 ⟨rfl, hL2, hS2⟩; replace hL := hi_ hL2; replace hS := hi_ (hS.out.trans hS2); replace q0 := hL.out.q0; clear hL2 hS2) | ((first | (go_at_call 183; (with_reducible refine (cd.out _).mono ?_)) | (go_at_call 59; (with_reducible refine (cw.out _).mono ?_))); rintro e w2 ⟨rfl, rfl⟩) | (go_at_call 184; (with_reducible refine (cput.out _ (hO.out.mk2 hL.out hW.out hS.out)).mono ?_); rintro e w1 ⟨k1, k2⟩; obtain ⟨rfl, hO2⟩ := k1 h7.out; replace hO2 := hi_ hO2; clear k1 k2))
       go_ret
       exact ⟨rfl, _, _, hO2.out⟩
      ·obtain rfl : K = .ok (out ++ [z]) t := by rw [← hE, if_neg h7]
       clear hE
       replace h7 := hi_ h7
       go_wp2_with (first | (go_at_call 60; (with_reducible refine (cn.out _ hL.out).mono ?_); rintro e w1 ⟨rfl, hL2, hS2⟩; replace hL := hi_ hL2; replace hS := hi_ (hS.out.trans hS2); replace q0 := hL.out.q0; clear hL2 hS2) | ((first | (go_at_call 183; (with_reducible refine (cd.out _).mono ?_)) | (go_at_call 59; (with_reducible refine (cw.out _).mono ?_))); rintro e w2 ⟨rfl, rfl⟩) | (go_at_call 184; (with_reducible refine (cput.out _ (hO.out.mk2 hL.out hW.out hS.out)).mono ?_); rintro e w1 ⟨k1, k2⟩; obtain ⟨rfl, hO2⟩ := k2 (Nat.lt_of_not_le h7.out); replace hO2 := hi_ hO2; clear k1 k2))
       go_ret
       exact ⟨rfl, hO2.out⟩
    ·have n62 := ne.out 62 h62
     simp only [UInt8.reduceToNat, Int.cast_ofNat_Int] at n62
     rw [if_neg h62] at hE
     by_cases hD0 : D < 0
     ·obtain rfl : K = .err 4 t := by rw [← hE, if_pos hD0]
      clear hE
      replace hi0 := hi_ hi0
      go_wp2_with (first | (go_at_call 60; (with_reducible refine (cn.out _ hL.out).mono ?_); rintro e w1 ⟨rfl, hL2, hS2⟩; replace hL := hi_ hL2; replace hS := hi_ (hS.out.trans hS2); replace q0 := hL.out.q0; clear hL2 hS2) | ((first | (go_at_call 183; (with_reducible refine (cd.out _).mono ?_)) | (go_at_call 59; (with_reducible refine (cw.out _).mono ?_))); rintro e w2 ⟨rfl, rfl⟩))
      go_ret
      exact ⟨rfl, _, _, hO.out.mk2 hL.out hW.out hS.out⟩
     ·rw [if_neg hD0] at hE
      by_cases hn : hi < 0
      ·have e4 := hi_ (show hexR f D out t = K by rw [← hE, if_pos hn])
       clear hE
       go_wp2_with (first | (go_at_call 60; (with_reducible refine (cn.out _ hL.out).mono ?_); rintro e w1 ⟨rfl, hL2, hS2⟩; replace hL := hi_ hL2; replace hS := hi_ (hS.out.trans hS2); replace q0 := hL.out.q0; clear hL2 hS2) | ((first | (go_at_call 183; (with_reducible refine (cd.out _).mono ?_)) | (go_at_call 59; (with_reducible refine (cw.out _).mono ?_))); rintro e w2 ⟨rfl, rfl⟩))
       have hO2 := hO.out.mk2 hL.out hW.out hS.out
       have e1 := hup.out _ _ _ hO2
       have e2 := hbw.out
       have e5 := hf.out
       simp only [List.length_cons] at e2 e5
       exact ⟨⟨f, D, out, t, rfl, rD, hO2, e4.out, by omega, hmx.out⟩, by rw [e1, e2]; omega⟩
      ·obtain ⟨a, rfl⟩ : ∃ a : Nat, hi = (a : Int) := ⟨hi.toNat, by omega⟩
       rw [if_neg hn] at hE
       have hor : bits BinOp.or IntKind.i64 ((a : Int) * 16) D = (a : Int) * 16 + D := or_hexI (by omega) (by omega)
       obtain ⟨z, hz⟩ : ∃ z : UInt8, z = UInt8.ofNat (16 * (a : Int) + D).toNat := ⟨_, rfl⟩
       have hZ : Hid ((a : Int) * 16 + D = (z.toNat : Int)) := hi_ (by rw [hz, UInt8.toNat_ofNat']; omega)
       rw [← hz] at hE
       have hw1 : IntKind.i64.wrap ((a : Int) * 16) = (a : Int) * 16 := IntWalk.i64_in _ (by omega)
       have cput := hi_ fun W h => lx_put (w0 := w0) (L := L) (R := R) (A := A) (c := c) (bs := bs) (m := 32767) (out := out) (r := t) (x := z) (X := (a : Int) * 16 + D) hZ.out (by omega) W h hmx.out
       replace hz := hi_ hz
       by_cases h7 : 32767 ≤ out.length
       ·obtain rfl : K = .err 3 t := by rw [← hE, if_pos h7]
        clear hE
        replace h7 := hi_ h7
        go_wp2_with (first | (go_at_call 60; (with_reducible refine (cn.out _ hL.out).mono ?_); rintro e w1 ⟨rfl, hL2, hS2⟩; replace hL := hi_ hL2; replace hS := hi_ (hS.out.trans hS2); replace q0 := hL.out.q0; clear hL2 hS2) | ((first | (go_at_call 183; (with_reducible refine (cd.out _).mono ?_)) | (go_at_call 59; (with_reducible refine (cw.out _).mono ?_))); rintro e w2 ⟨rfl, rfl⟩) | (go_at_call 184; (with_reducible refine (cput.out _ (hO.out.mk2 hL.out hW.out hS.out)).mono ?_); rintro e w1 ⟨k1, k2⟩; obtain ⟨rfl, hO2⟩ := k1 h7.out; replace hO2 := hi_ hO2; clear k1 k2))
        go_ret
        exact ⟨rfl, _, _, hO2.out⟩
       ·have e4 := hi_ (show hexR f (-1) (out ++ [z]) t = K by rw [← hE, if_neg h7])
        clear hE
        replace h7 := hi_ h7
        go_wp2_with (first | (go_at_call 60; (with_reducible refine (cn.out _ hL.out).mono ?_); rintro e w1 ⟨rfl, hL2, hS2⟩; replace hL := hi_ hL2; replace hS := hi_ (hS.out.trans hS2); replace q0 := hL.out.q0; clear hL2 hS2) | ((first | (go_at_call 183; (with_reducible refine (cd.out _).mono ?_)) | (go_at_call 59; (with_reducible refine (cw.out _).mono ?_))); rintro e w2 ⟨rfl, rfl⟩) | (go_at_call 184; (with_reducible refine (cput.out _ (hO.out.mk2 hL.out hW.out hS.out)).mono ?_); rintro e w1 ⟨k1, k2⟩; obtain ⟨rfl, hO2⟩ := k2 (Nat.lt_of_not_le h7.out); replace hO2 := hi_ hO2; clear k1 k2))
        have e1 := hup.out _ _ _ hO2.out
        have e2 := hbw.out
        have e5 := hf.out
        have e8 := h7.out
        simp only [List.length_cons] at e2 e5
        exact ⟨⟨f, -1, _, t, rfl, by omega, hO2.out, e4.out, by omega, by simp only [List.length_append, List.length_cons, List.length_nil]; omega⟩, by rw [e1, e2]; omega⟩
end
section
open Go Go.RowKit Go.Wk Go.Rd Go.Fx
attribute [local go_sem ↓] Go.wp_at_zero Go.wp_at_succ
theorem cur_takeO {w : World} {L : Nat} {A : Option Addr} {c : Nat} {bs : List UInt8} {p : Nat} (n : Nat) (h : Cur w w L A c bs p) (hcap : bs.length ≤ c) (hn : 1 ≤ n) (hle : p + n ≤ bs.length) :
 Calls Tryz.prog 61 #[.pointer (some ⟨L, 0, none⟩), .int .i64 n] w fun e w' => ∃ a2 m2 c2, e = .returned (.tuple #[.slice a2 m2 c2, .bool true]) ∧ Own w.heap.size w' (.slice a2 m2 c2) ((bs.drop p).take n) ∧ Cur w w' L A c bs (p + n) := by
 have H := hi_ h
 obtain ⟨h1, h2, h3, h4, h5, h6, h7, h8⟩ := h
 obtain ⟨b, o, rfl, hc⟩ := h6.2 (by omega)
 have hpc : ¬ c = p := by omega
 have cl := Tryz.bytes_Clone_at ⟨b, o + p, none⟩ n (c - p) (((bs.drop p).take n).map fun x => (x.toNat : Int)) w.drew (by simp; omega) (by omega) (fun i hi => by
  have := hc (p + i) (by omega)
  rw [Wk.add_none, Nat.add_assoc]
  show w.cell? _ = _
  rw [this]
  simp [List.getD, hi, show p + i < bs.length by omega])
 have hl : ((bs.drop p).take n).length = n := by simp; omega
 generalize hT : (bs.drop p).take n = T at *
 replace hT := hi_ hT
 replace cl := hi_ cl
 have kp := hi_ fun (w1 : World) (hb : Below w.heap.size w w1) => (⟨(H.out.below hb).cb, (H.out.below hb).ca⟩ : w1.cell? ⟨L, 0, none⟩ = some (.slice (some ⟨b, o, none⟩) bs.length c) ∧ w1.cell? ⟨L, 1, none⟩ = some (.int .i64 (p : Nat)))
 have hp0 : (0 : Int) ≤ (p : Int) := by omega
 have hpn : (p : Int) + (n : Int) ≤ (bs.length : Int) := by omega
 have hbc : (bs.length : Int) ≤ (c : Int) := by omega
 have hw : IntKind.i64.wrap ((p : Int) + (n : Int)) = (p : Int) + (n : Int) := IntWalk.i64_in _ (by omega)
 clear hc h6 h2 h1
 go_enter Tryz.func61, Tryz.ntmps61
 go_wp2_with (go_at_call 58; (with_reducible refine (cur_left H.out).mono ?_); rintro e w1 ⟨rfl, rfl⟩)
 go_region_held (fun w' => w'.cell? ⟨L, 0, none⟩ = some (.slice (some ⟨b, o, none⟩) bs.length c) ∧ w'.cell? ⟨L, 1, none⟩ = some (.int .i64 (p : Nat)))
  (first | go_keep | exact kp.out _ ((Below.refl _ _).drew.trans hw2))
  ((go_at_call 87; (with_reducible refine cl.out.mono ?_); rintro e w2 ⟨v, rfl, hown, hne, hw2⟩))
 have hb2 : Below w1.heap.size w1 w2 := (Below.refl w1.heap.size w1).drew.trans hw2
 have hC2 := hi_ (H.out.below hb2)
 have k5 := hC2.out.fr
 obtain ⟨k3, k4⟩ := kp.out _ hb2
 rw [valsB_map] at hown
 have hO : Own w1.heap.size w2 v T := ⟨by rw [hl]; exact hown⟩
 obtain ⟨a2, m2, c2, rfl⟩ := hO.sl
 have hL1 : L < w1.heap.size := cell_lt H.out.cb
 have hoL : (Value.slice a2 m2 c2).ownBlock ≠ some L := by
  rcases hO.row.2 with ⟨e, _⟩ | ⟨g, cap, cur, e, hB, _⟩
  ·rw [e]; simp [Value.ownBlock]
  ·rw [e]; intro e2
   have : g = L := by simpa [Value.ownBlock] using e2
   omega
 replace hO := hi_ hO
 replace hoL := hi_ hoL
 clear hown hne hw2
 go_wp2
 go_ret2
 refine ⟨a2, m2, c2, rfl, hO.out.farL hoL.out, ?_⟩
 have h9 := hC2.out.go (p + n) hle
 rw [show ((p + n : Nat) : Int) = (p : Int) + (n : Int) by omega] at h9
 exact h9
theorem run_atL (r : Bs) (k : Nat) (h : k ≤ (runS r).length) : regP (r.drop k) = decide (k < (runS r).length) := by
 unfold runS at h ⊢
 induction r generalizing k with
 | nil => simp at h; subst h; rfl
 | cons x r ih =>
  cases hx : regB x with
  | false =>
   rw [List.takeWhile_cons, hx] at h ⊢
   simp at h
   subst h
   simp [regP, hx]
  | true =>
   rw [List.takeWhile_cons, hx] at h ⊢
   cases k with
   | zero => simp [regP, hx]
   | succ k =>
    simp only [List.drop_succ_cons, if_true, List.length_cons] at h ⊢
    rw [ih k (by omega)]
    simp
theorem run_lenL (r : Bs) : (runS r).length ≤ r.length := (List.takeWhile_prefix (p := regB) (l := r)).length_le
theorem run_takeL (r : Bs) : r.take (runS r).length = runS r := by
 have h := List.takeWhile_prefix (p := regB) (l := r)
 exact (List.prefix_iff_eq_take.1 h).symm
section
variable {L R : Nat} {A : Option Addr} {c : Nat} {bs : Bs} {M V : Value} {w w' w0 : World} {r r' : Bs} {m : Nat} {out : Bs}
theorem ls_take (n : Nat) (hn : 1 ≤ n) (hn2 : n ≤ r.length) (W : World) (h : LS L R A c bs M V W r) : Calls Tryz.prog 61 #[.pointer (some ⟨L, 0, none⟩), .int .i64 n] W fun e w' => ∃ a2 m2 c2, e = .returned (.tuple #[.slice a2 m2 c2, .bool true]) ∧ Own W.heap.size w' (.slice a2 m2 c2) (r.take n) ∧ LS L R A c bs M V w' (r.drop n) ∧ Save L W w' := by
 have hp := pos_suf h.suf n hn2
 have := pos_le bs (r.drop n)
 refine (cur_takeO n h.cur h.cap hn (by omega)).mono ?_
 rintro e w' ⟨a2, m2, c2, rfl, hO, k⟩
 rw [suf_drop h.suf] at hO
 exact ⟨a2, m2, c2, rfl, hO, h.save_to k (suf_dropn h.suf n) hp⟩
theorem lx_run (h0 : regP r = true) (W : World) (h : LS L R A c bs M V W r) : Calls Tryz.prog 155 #[.pointer (some ⟨R, 0, none⟩)] W fun e w' => ∃ a2 m2 c2, e = .returned (.slice a2 m2 c2) ∧ Own W.heap.size w' (.slice a2 m2 c2) (runS r) ∧ LS L R A c bs M V w' (r.drop (runS r).length) ∧ Save L W w' := by
 obtain ⟨n, hn⟩ : ∃ n, n = (runS r).length := ⟨_, rfl⟩
 have h1 : 1 ≤ n := by
  cases r with
  | nil => cases h0
  | cons x t =>
   have : regB x = true := h0
   rw [hn]; unfold runS; rw [List.takeWhile_cons, this]; simp
 have hnr : n ≤ r.length := by rw [hn]; exact run_lenL r
 have hr : r.take n = runS r := by rw [hn]; exact run_takeL r
 have hbig : r.length ≤ 1000000000 := by have := suf_len h.suf; have := h.cur.small; omega
 have cp := hi_ fun (k : Nat) (hk : k ≤ 2000000000) W h => ls_peek (L := L) (R := R) (A := A) (c := c) (bs := bs) (M := M) (V := V) (r := r) k hk W h
 have cr := hi_ (show ∀ (k : Nat) (hk : k ≤ n) (W : World), Calls Tryz.prog 55 #[.int .i64 (pk r k)] W fun e w' => e = .returned (.bool (decide (k < n))) ∧ W = w' from fun k hk W => by
  have e1 := run_atL r k (by omega)
  rw [hn, ← e1]
  have := lex_RegularP (r.drop k) W
  rw [show pk (r.drop k) 0 = pk r k from by unfold pk; rw [List.getElem?_drop]; rfl] at this
  exact this)
 have ct := hi_ fun W h => ls_take (L := L) (R := R) (A := A) (c := c) (bs := bs) (M := M) (V := V) (r := r) n h1 hnr W h
 rw [hr] at ct
 rw [← hn]
 refine h5_ hn hr h hnr h1 ?_; clear hn hr h hnr h1; intro hn hr h hnr h1
 clear h0
 go_enter Tryz.func155, Tryz.ntmps155
 go_wp2
 go_loopw [3] (fun s3 wr => ∃ k : Nat, s3 = .int .i64 (k : Nat) ∧ k ≤ n ∧ LS L R A c bs M V wr r ∧ Save L W wr) (fun s3 _ => n - (RowKit.intOf s3).toNat)
 case atStart => exact ⟨0, rfl, Nat.zero_le _, h.out, Save.refl _ _⟩
 case round =>
  obtain ⟨k, rfl, hk, hL, hS⟩ := hrel
  have hkb : k ≤ 1000000000 := by have := hnr.out; omega
  have cpk := hi_ (cp.out k (by omega))
  have crk := hi_ (cr.out k hk)
  have q0 := hL.q0
  clear h cp cr
  obtain ⟨P, hP⟩ := hidE (pk r k)
  rw [← hP.out] at cpk crk
  replace hL := hi_ hL
  replace hS := hi_ hS
  by_cases hkn : k < n
  ·rw [decide_eq_true hkn] at crk
   replace hkn := hi_ hkn
   replace hk := hi_ hk
   go_wp2_with (first | (go_at_call 56; (with_reducible refine (cpk.out _ hL.out).mono ?_); rintro e w1 ⟨rfl, hL2, hS2⟩; replace hL := hi_ hL2; replace hS := hi_ (hS.out.trans hS2); replace q0 := hL.out.q0; clear hL2 hS2) | (go_at_call 55; (with_reducible refine (crk.out _).mono ?_); rintro e w2 ⟨rfl, rfl⟩))
   refine ⟨⟨k + 1, by first | rfl | exact congrArg (Value.int .i64) (by omega), hkn.out, hL.out, hS.out⟩, ?_⟩
   have := hkn.out
   simp [RowKit.intOf]; omega
  ·obtain rfl : k = n := by omega
   rw [decide_eq_false hkn] at crk
   clear hkn
   replace hk := hi_ hk
   go_wp2_with (first | (go_at_call 56; (with_reducible refine (cpk.out _ hL.out).mono ?_); rintro e w1 ⟨rfl, hL2, hS2⟩; replace hL := hi_ hL2; replace hS := hi_ (hS.out.trans hS2); replace q0 := hL.out.q0; clear hL2 hS2) | (go_at_call 55; (with_reducible refine (crk.out _).mono ?_); rintro e w2 ⟨rfl, rfl⟩) | (go_at_call 61; (with_reducible refine (ct.out _ hL.out).mono ?_); rintro e w1 ⟨a2, m2, c2, rfl, hO, hL2, hS2⟩; have hO := hi_ (hO.base hS.out.size); replace hL := hi_ hL2; replace hS := hi_ (hS.out.trans hS2); clear hL2 hS2))
   go_ret
   exact ⟨a2, m2, c2, rfl, hO.out, hL.out, hS.out⟩
end
end
section
open Go Go.RowKit Go.Wk Go.Fx
theorem Save.all {a b : World} (h : Save a.heap.size a b) : Below a.heap.size a b := ⟨h.os, h.tape, h.output, h.size, fun k hk => h.block k hk (by omega)⟩
theorem fx_digits {w0 w : World} {L : Nat} {A : Option Addr} {c : Nat} {bs : List UInt8} {p : Nat} (h : Cur w0 w L A c bs p) :
 Calls Tryz.prog 206 #[.pointer (some ⟨L, 0, none⟩)] w fun e w' => e = .returned (.tuple #[.int .i64 ((numD (digs bs p)).1 : Nat), .int .i64 ((digs bs p).length : Nat), .bool (numD (digs bs p)).2]) ∧ Cur w0 w' L A c bs (p + (digs bs p).length) := by
 have hsm := h.small
 go_enter Tryz.func206, Tryz.ntmps206
 go_wp2
 go_loopw [5, 6, 7] (fun nv mv ov wr => ∃ k : Nat, k ≤ (digs bs p).length ∧ nv = .int .i64 ((numD ((digs bs p).take k)).1 : Nat) ∧ mv = .int .i64 k ∧ ov = .bool (numD ((digs bs p).take k)).2 ∧ Cur w0 wr L A c bs (p + k)) (fun _ mv _ _ => (digs bs p).length - (RowKit.intOf mv).toNat)
 case atStart => exact ⟨0, Nat.zero_le _, rfl, rfl, rfl, h⟩
 case round =>
  obtain ⟨k, hk, rfl, rfl, rfl, hC⟩ := hrel
  have hle := numD_le ((digs bs p).take k) (0, true) (by omega)
  change (numD ((digs bs p).take k)).1 ≤ 2147483647 at hle
  replace hC := hi_ hC
  have hdl : (digs bs p).length ≤ 1000000000 := by
   have : (digs bs p).length ≤ (bs.drop p).length := (List.takeWhile_sublist _).length_le
   rw [List.length_drop] at this; omega
  by_cases hlt : k < (digs bs p).length
  ·obtain ⟨hp1, hp2, hp3, hp4⟩ := peek_in hlt
   have HT := hi_ (numD_take (digs bs p) k hlt)
   generalize hd : (digs bs p)[k] = d at *
   obtain ⟨S, hS⟩ := hidE (peekS bs (p + k))
   have hS2 := hi_ (show S = (d.toNat : Int) by rw [hS.out, hp1])
   have hS0 : 48 ≤ S ∧ S ≤ 57 := by rw [hS.out]; omega
   clear hd hp1 hp2 hp3
   replace hp4 := hi_ hp4
   generalize numD ((digs bs p).take k) = q at *
   obtain ⟨n, ok⟩ := q
   simp only at hle ⊢
   obtain ⟨N, hN⟩ := hidE (n : Int)
   have hN0 : 0 ≤ N ∧ N ≤ 2147483647 := by rw [hN.out]; omega
   rw [← hN.out]
   clear hle h
   go_wp2_with (first
    | (go_at_call 56; (with_reducible refine (cur_peek hC.out).mono ?_); clear hC; rintro e w1 ⟨rfl, hC⟩; replace hC := hi_ hC; rw [← hS.out])
    | (go_at_call 60; (with_reducible refine (cur_next hC.out).mono ?_); clear hC; rintro e w1 ⟨rfl, hC⟩; rw [if_pos hp4.out] at hC; replace hC := hi_ hC; rw [← hS.out]))
   ·rename_i hgt
    have e := HT.out
    have h1 := hS2.out
    have h2 := hN.out
    rw [stepD, if_pos (by simp only; omega)] at e
    refine ⟨⟨k + 1, by omega, by rw [e]; rfl, by rfl, by rw [e], hC.out⟩, by simp only [RowKit.intOf]; omega⟩
   ·rename_i hgt
    have e := HT.out
    have h1 := hS2.out
    have h2 := hN.out
    rw [stepD, if_neg (by simp only; omega)] at e
    refine ⟨⟨k + 1, by omega, by rw [e]; congr 1; simp only; omega, by rfl, by rw [e], hC.out⟩, by simp only [RowKit.intOf]; omega⟩
  ·have hk' : k = (digs bs p).length := by omega
   subst hk'
   rw [List.take_length] at hle ⊢
   have hpo := peek_out bs p
   obtain ⟨S, hS⟩ := hidE (peekS bs (p + (digs bs p).length))
   rw [← hS.out] at hpo
   clear h hle
   rcases hpo with hpo | hpo
   ·go_wp2_with (go_at_call 56; (with_reducible refine (cur_peek hC.out).mono ?_); clear hC; rintro e w1 ⟨rfl, hC⟩; replace hC := hi_ hC; rw [← hS.out])
    go_ret3
    exact ⟨rfl, hC.out⟩
   ·go_wp2_with (go_at_call 56; (with_reducible refine (cur_peek hC.out).mono ?_); clear hC; rintro e w1 ⟨rfl, hC⟩; replace hC := hi_ hC; rw [← hS.out])
    go_ret3
    exact ⟨rfl, hC.out⟩
theorem fx_behind {w0 w : World} {L : Nat} {A : Option Addr} {c : Nat} {bs : List UInt8} {p : Nat} (h : Cur w0 w L A c bs p) :
 Calls Tryz.prog 207 #[.pointer (some ⟨L, 0, none⟩)] w fun e w' => e = .returned (.tuple #[.int .i64 (fracD (digs bs p) : Nat), .int .i64 ((digs bs p).length : Nat)]) ∧ Cur w0 w' L A c bs (p + (digs bs p).length) := by
 have hsm := h.small
 go_enter Tryz.func207, Tryz.ntmps207
 go_wp2
 go_loopw [4, 5] (fun nv mv wr => ∃ k : Nat, k ≤ (digs bs p).length ∧ nv = .int .i64 (valD (((digs bs p).take k).take 5) : Nat) ∧ mv = .int .i64 k ∧ Cur w0 wr L A c bs (p + k)) (fun _ mv _ => (digs bs p).length - (RowKit.intOf mv).toNat)
 case atStart => exact ⟨0, Nat.zero_le _, rfl, rfl, h⟩
 case round =>
  obtain ⟨k, hk, rfl, rfl, hC⟩ := hrel
  have hle : valD (((digs bs p).take k).take 5) ≤ 99999 := by
   have h1 := valD_lt (((digs bs p).take k).take 5) fun b hb => digs_all b (List.mem_of_mem_take (List.mem_of_mem_take hb))
   have h2 : 10 ^ (((digs bs p).take k).take 5).length ≤ 10 ^ 5 := Nat.pow_le_pow_right (by omega) (by rw [List.length_take]; omega)
   omega
  replace hC := hi_ hC
  have hdl : (digs bs p).length ≤ 1000000000 := by
   have : (digs bs p).length ≤ (bs.drop p).length := (List.takeWhile_sublist _).length_le
   rw [List.length_drop] at this; omega
  by_cases hlt : k < (digs bs p).length
  ·obtain ⟨hp1, hp2, hp3, hp4⟩ := peek_in hlt
   have HT := hi_ (val_step (digs bs p) k hlt)
   generalize hd : (digs bs p)[k] = d at *
   obtain ⟨S, hS⟩ := hidE (peekS bs (p + k))
   have hS2 := hi_ (show S = (d.toNat : Int) by rw [hS.out, hp1])
   have hS0 : 48 ≤ S ∧ S ≤ 57 := by rw [hS.out]; omega
   clear hd hp1 hp2 hp3
   replace hp4 := hi_ hp4
   generalize valD (((digs bs p).take k).take 5) = n at *
   obtain ⟨N, hN⟩ := hidE (n : Int)
   have hN0 : 0 ≤ N ∧ N ≤ 99999 := by rw [hN.out]; omega
   rw [← hN.out]
   clear hle h
   go_wp2_with (first
    | (go_at_call 56; (with_reducible refine (cur_peek hC.out).mono ?_); clear hC; rintro e w1 ⟨rfl, hC⟩; replace hC := hi_ hC; rw [← hS.out])
    | (go_at_call 60; (with_reducible refine (cur_next hC.out).mono ?_); clear hC; rintro e w1 ⟨rfl, hC⟩; rw [if_pos hp4.out] at hC; replace hC := hi_ hC; rw [← hS.out]))
   ·rename_i hgt
    have e := HT.out.1 (by omega)
    have h1 := hS2.out
    have h2 := hN.out
    refine ⟨⟨k + 1, by omega, by rw [e]; congr 1; omega, by rfl, hC.out⟩, by simp only [RowKit.intOf]; omega⟩
   ·rename_i hgt
    have e := HT.out.2 (by omega)
    have h2 := hN.out
    refine ⟨⟨k + 1, by omega, by rw [e, h2], by rfl, hC.out⟩, by simp only [RowKit.intOf]; omega⟩
  ·have hk' : k = (digs bs p).length := by omega
   subst hk'
   rw [List.take_length] at hle ⊢
   have hpo := peek_out bs p
   obtain ⟨S, hS⟩ := hidE (peekS bs (p + (digs bs p).length))
   rw [← hS.out] at hpo
   clear h
   rcases hpo with hpo | hpo
   ·go_wp2_with (go_at_call 56; (with_reducible refine (cur_peek hC.out).mono ?_); clear hC; rintro e w1 ⟨rfl, hC⟩; replace hC := hi_ hC; rw [← hS.out])
    have hv : Hid (valD ((digs bs p).take 5) < 10 ^ (((digs bs p).take 5).length)) := hi_ (valD_lt _ fun b hb => digs_all b (List.mem_of_mem_take hb))
    rw [List.length_take] at hv
    go_loop [4, 7] (fun nv iv => ∃ j : Nat, (digs bs p).length ≤ j ∧ (j ≤ 5 ∨ j = (digs bs p).length) ∧ iv = .int .i64 j ∧ nv = .int .i64 (valD ((digs bs p).take 5) * 10 ^ (j - (digs bs p).length) : Nat)) (fun _ iv => 5 - (RowKit.intOf iv).toNat)
    case atStart => exact ⟨_, Nat.le_refl _, .inr rfl, rfl, by simp⟩
    case round =>
     obtain ⟨j, hj1, hj2, rfl, rfl⟩ := hrel
     have hjl : j ≤ 1000000000 := by omega
     by_cases hj5 : j < 5
     ·have hb : valD ((digs bs p).take 5) * 10 ^ (j - (digs bs p).length) ≤ 99999 := by
       have h1 : valD ((digs bs p).take 5) * 10 ^ (j - (digs bs p).length) ≤ 10 ^ (min 5 (digs bs p).length) * 10 ^ (j - (digs bs p).length) := Nat.mul_le_mul_right _ (Nat.le_of_lt hv.out)
       rw [← Nat.pow_add] at h1
       have h2 : 10 ^ (min 5 (digs bs p).length + (j - (digs bs p).length)) ≤ 10 ^ 4 := Nat.pow_le_pow_right (by omega) (by omega)
       omega
      have hnx := hi_ (show valD ((digs bs p).take 5) * 10 ^ (j + 1 - (digs bs p).length) = valD ((digs bs p).take 5) * 10 ^ (j - (digs bs p).length) * 10 by
       rw [show j + 1 - (digs bs p).length = (j - (digs bs p).length) + 1 by omega, Nat.pow_succ, Nat.mul_assoc])
      generalize valD ((digs bs p).take 5) * 10 ^ (j - (digs bs p).length) = m at *
      obtain ⟨M, hM⟩ := hidE (m : Int)
      have hM0 : 0 ≤ M ∧ M ≤ 99999 := by rw [hM.out]; omega
      rw [← hM.out]
      clear hb hle hj2
      go_wp2
      refine ⟨⟨j + 1, by omega, .inl (by omega), by rfl, by rw [hnx.out]; congr 1; have := hM.out; omega⟩, by simp only [RowKit.intOf]; omega⟩
     ·have hf := hi_ (show valD ((digs bs p).take 5) * 10 ^ (j - (digs bs p).length) = fracD (digs bs p) by
       unfold fracD
       rw [show j - (digs bs p).length = 5 - (digs bs p).length by omega])
      generalize valD ((digs bs p).take 5) * 10 ^ (j - (digs bs p).length) = m at *
      obtain ⟨M, hM⟩ := hidE (m : Int)
      rw [← hM.out]
      clear hle hj2 hj1
      go_wp2
      go_ret2
      exact ⟨by rw [← hf.out, ← hM.out]; rfl, hC.out⟩
   ·go_wp2_with (go_at_call 56; (with_reducible refine (cur_peek hC.out).mono ?_); clear hC; rintro e w1 ⟨rfl, hC⟩; replace hC := hi_ hC; rw [← hS.out])
    have hv : Hid (valD ((digs bs p).take 5) < 10 ^ (((digs bs p).take 5).length)) := hi_ (valD_lt _ fun b hb => digs_all b (List.mem_of_mem_take hb))
    rw [List.length_take] at hv
    go_loop [4, 7] (fun nv iv => ∃ j : Nat, (digs bs p).length ≤ j ∧ (j ≤ 5 ∨ j = (digs bs p).length) ∧ iv = .int .i64 j ∧ nv = .int .i64 (valD ((digs bs p).take 5) * 10 ^ (j - (digs bs p).length) : Nat)) (fun _ iv => 5 - (RowKit.intOf iv).toNat)
    case atStart => exact ⟨_, Nat.le_refl _, .inr rfl, rfl, by simp⟩
    case round =>
     obtain ⟨j, hj1, hj2, rfl, rfl⟩ := hrel
     have hjl : j ≤ 1000000000 := by omega
     by_cases hj5 : j < 5
     ·have hb : valD ((digs bs p).take 5) * 10 ^ (j - (digs bs p).length) ≤ 99999 := by
       have h1 : valD ((digs bs p).take 5) * 10 ^ (j - (digs bs p).length) ≤ 10 ^ (min 5 (digs bs p).length) * 10 ^ (j - (digs bs p).length) := Nat.mul_le_mul_right _ (Nat.le_of_lt hv.out)
       rw [← Nat.pow_add] at h1
       have h2 : 10 ^ (min 5 (digs bs p).length + (j - (digs bs p).length)) ≤ 10 ^ 4 := Nat.pow_le_pow_right (by omega) (by omega)
       omega
      have hnx := hi_ (show valD ((digs bs p).take 5) * 10 ^ (j + 1 - (digs bs p).length) = valD ((digs bs p).take 5) * 10 ^ (j - (digs bs p).length) * 10 by
       rw [show j + 1 - (digs bs p).length = (j - (digs bs p).length) + 1 by omega, Nat.pow_succ, Nat.mul_assoc])
      generalize valD ((digs bs p).take 5) * 10 ^ (j - (digs bs p).length) = m at *
      obtain ⟨M, hM⟩ := hidE (m : Int)
      have hM0 : 0 ≤ M ∧ M ≤ 99999 := by rw [hM.out]; omega
      rw [← hM.out]
      clear hb hle hj2
      go_wp2
      refine ⟨⟨j + 1, by omega, .inl (by omega), by rfl, by rw [hnx.out]; congr 1; have := hM.out; omega⟩, by simp only [RowKit.intOf]; omega⟩
     ·have hf := hi_ (show valD ((digs bs p).take 5) * 10 ^ (j - (digs bs p).length) = fracD (digs bs p) by
       unfold fracD
       rw [show j - (digs bs p).length = 5 - (digs bs p).length by omega])
      generalize valD ((digs bs p).take 5) * 10 ^ (j - (digs bs p).length) = m at *
      obtain ⟨M, hM⟩ := hidE (m : Int)
      rw [← hM.out]
      clear hle hj2 hj1
      go_wp2
      go_ret2
      exact ⟨by rw [← hf.out, ← hM.out]; rfl, hC.out⟩
theorem cur_newF {w : World} {A : Option Addr} {c : Nat} {bs : List UInt8} (h : Byt w A bs) (hcap : bs.length ≤ c) (hs : bs.length ≤ 1000000000) :
 Calls Tryz.prog 50 #[.slice A bs.length c] w fun e w' => e = .returned (.pointer (some ⟨w.heap.size, 0, none⟩)) ∧ Cur w w' w.heap.size A bs.length bs 0 := by
 have H := hi_ h
 clear h
 go_enter Tryz.func50, Tryz.ntmps50
 go_wp2
 go_ret
 refine ⟨rfl, ⟨fun h0 x hx => ?_, Save.of_below ((Below.refl _ _).alloc (Nat.le_refl _) _), ?_, ?_, World.frozen?_alloc_new _ _ _ _, H.out, Nat.zero_le _, hs⟩⟩
 ·obtain ⟨g, o, e, hc⟩ := H.out.2 h0
  rw [hx] at e
  injection e with e
  have := cell_lt (hc 0 h0)
  rw [e]
  show g ≠ w.heap.size
  have : g < w.heap.size := this
  omega
 ·exact alloc_cell (i := 0)
 ·have := alloc_cell (w := w) (vs := #[.slice A bs.length bs.length, .int .i64 0]) (e := 93) (i := 1)
  rw [Nat.zero_add] at this
  exact this
theorem fx_parse {w : World} {A : Option Addr} {c : Nat} {bs : List UInt8} (h : Byt w A bs) (hcap : bs.length ≤ c) (hs : bs.length ≤ 1000000000) :
 Calls Tryz.prog 187 #[.slice A bs.length c] w fun e w' => e = .returned (.tuple #[.int .i64 (parseS bs).1, .bool (parseS bs).2.1, .int .i64 (parseS bs).2.2]) ∧ Below w.heap.size w w' := by
 have hnew := cur_newF h hcap hs
 by_cases h43 : bs[0]? = some 43
 ·have g43 := hi_ h43
  by_cases hdot : bs[1 + (digs bs 1).length]? = some 46
  ·replace hdot := hi_ hdot
   have hsg : sgn bs = (1, false) := by unfold sgn; simp [h43]
   have hR : parseS bs = parseP bs 1 false := by rw [parseS_eq, hsg]
   have hR2 := hi_ (show parseS bs = if 1 + (digs bs 1).length + 1 + (digs bs (1 + (digs bs 1).length + 1)).length < bs.length ∨ (digs bs 1).length + (digs bs (1 + (digs bs 1).length + 1)).length = 0 then (0, false, 4) else if (numD (digs bs 1)).2 then (signI false * (((numD (digs bs 1)).1 : Int) * 100000 + (fracD (digs bs (1 + (digs bs 1).length + 1)) : Int)), false, 0) else (0, false, 5) by rw [hR]; unfold parseP; rw [if_pos hdot.out]; (try simp only [Nat.zero_add]))
   have hfl := fracD_le bs (1 + (digs bs 1).length + 1)
   have hml := digs_le bs (1 + (digs bs 1).length + 1)
   have hnl := numD_le (digs bs 1) (0, true) (by omega)
   change (numD (digs bs 1)).1 ≤ 2147483647 at hnl
   have hdl := digs_le bs 1
   clear hR hsg h hcap
   generalize parseS bs = R at *
   go_enter Tryz.func187, Tryz.ntmps187
   go_wp2_with (first
    | (go_at_call 50; (with_reducible refine hnew.mono ?_); clear hnew; rintro e w1 ⟨rfl, hC⟩; replace hC := hi_ hC)
    | (go_at_call 54; (with_reducible refine (cur_match_yes (ch := 43) hC.out (Nat.le_refl _) g43.out).mono ?_); clear hC; rintro e w2 ⟨rfl, hC⟩; replace hC := hi_ hC)
    | (go_at_call 54; (with_reducible refine (cur_match_yes (ch := 46) hC.out (Nat.le_refl _) hdot.out).mono ?_); clear hC; rintro e w2 ⟨rfl, hC⟩; replace hC := hi_ hC)
    | (go_at_call 206; (with_reducible refine (fx_digits hC.out).mono ?_); clear hC; rintro e w2 ⟨rfl, hC⟩; replace hC := hi_ hC)
    | (go_at_call 207; (with_reducible refine (fx_behind hC.out).mono ?_); clear hC; rintro e w2 ⟨rfl, hC⟩; replace hC := hi_ hC)
    | (go_at_call 58; (with_reducible refine (cur_left hC.out).mono ?_); rintro e w2 ⟨rfl, rfl⟩))
   ·rename _ ∨ _ => hd
    go_ret3
    refine ⟨?_, hC.out.bel.all⟩
    have hf : 1 + (digs bs 1).length + 1 + (digs bs (1 + (digs bs 1).length + 1)).length < bs.length ∨ (digs bs 1).length + (digs bs (1 + (digs bs 1).length + 1)).length = 0 := by
     rcases hd with hd | hd
     ·omega
     ·have hd2 := eq_of_beq hd; omega
    rw [hR2.out, if_pos hf]; rfl
   ·rename _ ∧ _ => hd
    rename (!_) = true => ho
    go_ret3
    refine ⟨?_, hC.out.bel.all⟩
    have hd2 := beq_eq_false_iff_ne.1 hd.2
    have hf : ¬ (1 + (digs bs 1).length + 1 + (digs bs (1 + (digs bs 1).length + 1)).length < bs.length ∨ (digs bs 1).length + (digs bs (1 + (digs bs 1).length + 1)).length = 0) := by omega
    have ho2 : ¬ (numD (digs bs 1)).2 = true := by simpa using ho
    rw [hR2.out, if_neg hf, if_neg ho2]; rfl
   ·rename _ ∧ _ => hd
    rename (!_) = false => ho
    go_ret3
    refine ⟨?_, hC.out.bel.all⟩
    have hd2 := beq_eq_false_iff_ne.1 hd.2
    have hf : ¬ (1 + (digs bs 1).length + 1 + (digs bs (1 + (digs bs 1).length + 1)).length < bs.length ∨ (digs bs 1).length + (digs bs (1 + (digs bs 1).length + 1)).length = 0) := by omega
    have ho2 : (numD (digs bs 1)).2 = true := by simpa using ho
    rw [hR2.out, if_neg hf, if_pos ho2]; simp [signI]
   ·go_ret3
    refine ⟨?_, hC.out.bel.all⟩
    have hf : 1 + (digs bs 1).length + 1 + (digs bs (1 + (digs bs 1).length + 1)).length < bs.length ∨ (digs bs 1).length + (digs bs (1 + (digs bs 1).length + 1)).length = 0 := by omega
    rw [hR2.out, if_pos hf]; rfl
  ·replace hdot := hi_ hdot
   have hsg : sgn bs = (1, false) := by unfold sgn; simp [h43]
   have hR : parseS bs = parseP bs 1 false := by rw [parseS_eq, hsg]
   have hR2 := hi_ (show parseS bs = if 1 + (digs bs 1).length < bs.length ∨ (digs bs 1).length = 0 then (0, false, 4) else if (numD (digs bs 1)).2 then (signI false * ((numD (digs bs 1)).1 : Int), true, 0) else (0, false, 5) by rw [hR]; unfold parseP; rw [if_neg hdot.out]; (try simp only [Nat.zero_add]))
   have hnl := numD_le (digs bs 1) (0, true) (by omega)
   change (numD (digs bs 1)).1 ≤ 2147483647 at hnl
   have hdl := digs_le bs 1
   clear hR hsg h hcap
   generalize parseS bs = R at *
   go_enter Tryz.func187, Tryz.ntmps187
   go_wp2_with (first
    | (go_at_call 50; (with_reducible refine hnew.mono ?_); clear hnew; rintro e w1 ⟨rfl, hC⟩; replace hC := hi_ hC)
    | (go_at_call 54; (with_reducible refine (cur_match_yes (ch := 43) hC.out (Nat.le_refl _) g43.out).mono ?_); clear hC; rintro e w2 ⟨rfl, hC⟩; replace hC := hi_ hC)
    | (go_at_call 54; (with_reducible refine (cur_match_no (ch := 46) hC.out (Nat.le_refl _) hdot.out).mono ?_); clear hC; rintro e w2 ⟨rfl, hC⟩; replace hC := hi_ hC)
    | (go_at_call 206; (with_reducible refine (fx_digits hC.out).mono ?_); clear hC; rintro e w2 ⟨rfl, hC⟩; replace hC := hi_ hC)
    | (go_at_call 207; (with_reducible refine (fx_behind hC.out).mono ?_); clear hC; rintro e w2 ⟨rfl, hC⟩; replace hC := hi_ hC)
    | (go_at_call 58; (with_reducible refine (cur_left hC.out).mono ?_); rintro e w2 ⟨rfl, rfl⟩))
   ·rename _ ∨ _ => hd
    go_ret3
    refine ⟨?_, hC.out.bel.all⟩
    have hf : 1 + (digs bs 1).length < bs.length ∨ (digs bs 1).length = 0 := by
     rcases hd with hd | hd
     ·omega
     ·have hd2 := eq_of_beq hd; omega
    rw [hR2.out, if_pos hf]; rfl
   ·rename _ ∧ _ => hd
    rename (!_) = true => ho
    go_ret3
    refine ⟨?_, hC.out.bel.all⟩
    have hd2 := beq_eq_false_iff_ne.1 hd.2
    have hf : ¬ (1 + (digs bs 1).length < bs.length ∨ (digs bs 1).length = 0) := by omega
    have ho2 : ¬ (numD (digs bs 1)).2 = true := by simpa using ho
    rw [hR2.out, if_neg hf, if_neg ho2]; rfl
   ·rename _ ∧ _ => hd
    rename (!_) = false => ho
    go_ret3
    refine ⟨?_, hC.out.bel.all⟩
    have hd2 := beq_eq_false_iff_ne.1 hd.2
    have hf : ¬ (1 + (digs bs 1).length < bs.length ∨ (digs bs 1).length = 0) := by omega
    have ho2 : (numD (digs bs 1)).2 = true := by simpa using ho
    rw [hR2.out, if_neg hf, if_pos ho2]; simp [signI]
   ·go_ret3
    refine ⟨?_, hC.out.bel.all⟩
    have hf : 1 + (digs bs 1).length < bs.length ∨ (digs bs 1).length = 0 := by omega
    rw [hR2.out, if_pos hf]; rfl
 ·have g43 := hi_ h43
  by_cases h45 : bs[0]? = some 45
  ·have g45 := hi_ h45
   by_cases hdot : bs[1 + (digs bs 1).length]? = some 46
   ·replace hdot := hi_ hdot
    have hsg : sgn bs = (1, true) := by unfold sgn; simp [h43, h45]
    have hR : parseS bs = parseP bs 1 true := by rw [parseS_eq, hsg]
    have hR2 := hi_ (show parseS bs = if 1 + (digs bs 1).length + 1 + (digs bs (1 + (digs bs 1).length + 1)).length < bs.length ∨ (digs bs 1).length + (digs bs (1 + (digs bs 1).length + 1)).length = 0 then (0, false, 4) else if (numD (digs bs 1)).2 then (signI true * (((numD (digs bs 1)).1 : Int) * 100000 + (fracD (digs bs (1 + (digs bs 1).length + 1)) : Int)), false, 0) else (0, false, 5) by rw [hR]; unfold parseP; rw [if_pos hdot.out]; (try simp only [Nat.zero_add]))
    have hfl := fracD_le bs (1 + (digs bs 1).length + 1)
    have hml := digs_le bs (1 + (digs bs 1).length + 1)
    have hnl := numD_le (digs bs 1) (0, true) (by omega)
    change (numD (digs bs 1)).1 ≤ 2147483647 at hnl
    have hdl := digs_le bs 1
    clear hR hsg h hcap
    generalize parseS bs = R at *
    go_enter Tryz.func187, Tryz.ntmps187
    go_wp2_with (first
     | (go_at_call 50; (with_reducible refine hnew.mono ?_); clear hnew; rintro e w1 ⟨rfl, hC⟩; replace hC := hi_ hC)
     | (go_at_call 54; (with_reducible refine (cur_match_no (ch := 43) hC.out (Nat.le_refl _) g43.out).mono ?_); clear hC; rintro e w2 ⟨rfl, hC⟩; replace hC := hi_ hC)
     | (go_at_call 54; (with_reducible refine (cur_match_yes (ch := 45) hC.out (Nat.le_refl _) g45.out).mono ?_); clear hC; rintro e w2 ⟨rfl, hC⟩; replace hC := hi_ hC)
     | (go_at_call 54; (with_reducible refine (cur_match_yes (ch := 46) hC.out (Nat.le_refl _) hdot.out).mono ?_); clear hC; rintro e w2 ⟨rfl, hC⟩; replace hC := hi_ hC)
     | (go_at_call 206; (with_reducible refine (fx_digits hC.out).mono ?_); clear hC; rintro e w2 ⟨rfl, hC⟩; replace hC := hi_ hC)
     | (go_at_call 207; (with_reducible refine (fx_behind hC.out).mono ?_); clear hC; rintro e w2 ⟨rfl, hC⟩; replace hC := hi_ hC)
     | (go_at_call 58; (with_reducible refine (cur_left hC.out).mono ?_); rintro e w2 ⟨rfl, rfl⟩))
    ·rename _ ∨ _ => hd
     go_ret3
     refine ⟨?_, hC.out.bel.all⟩
     have hf : 1 + (digs bs 1).length + 1 + (digs bs (1 + (digs bs 1).length + 1)).length < bs.length ∨ (digs bs 1).length + (digs bs (1 + (digs bs 1).length + 1)).length = 0 := by
      rcases hd with hd | hd
      ·omega
      ·have hd2 := eq_of_beq hd; omega
     rw [hR2.out, if_pos hf]; rfl
    ·rename _ ∧ _ => hd
     rename (!_) = true => ho
     go_ret3
     refine ⟨?_, hC.out.bel.all⟩
     have hd2 := beq_eq_false_iff_ne.1 hd.2
     have hf : ¬ (1 + (digs bs 1).length + 1 + (digs bs (1 + (digs bs 1).length + 1)).length < bs.length ∨ (digs bs 1).length + (digs bs (1 + (digs bs 1).length + 1)).length = 0) := by omega
     have ho2 : ¬ (numD (digs bs 1)).2 = true := by simpa using ho
     rw [hR2.out, if_neg hf, if_neg ho2]; rfl
    ·rename _ ∧ _ => hd
     rename (!_) = false => ho
     go_ret3
     refine ⟨?_, hC.out.bel.all⟩
     have hd2 := beq_eq_false_iff_ne.1 hd.2
     have hf : ¬ (1 + (digs bs 1).length + 1 + (digs bs (1 + (digs bs 1).length + 1)).length < bs.length ∨ (digs bs 1).length + (digs bs (1 + (digs bs 1).length + 1)).length = 0) := by omega
     have ho2 : (numD (digs bs 1)).2 = true := by simpa using ho
     rw [hR2.out, if_neg hf, if_pos ho2]; simp [signI]
    ·go_ret3
     refine ⟨?_, hC.out.bel.all⟩
     have hf : 1 + (digs bs 1).length + 1 + (digs bs (1 + (digs bs 1).length + 1)).length < bs.length ∨ (digs bs 1).length + (digs bs (1 + (digs bs 1).length + 1)).length = 0 := by omega
     rw [hR2.out, if_pos hf]; rfl
   ·replace hdot := hi_ hdot
    have hsg : sgn bs = (1, true) := by unfold sgn; simp [h43, h45]
    have hR : parseS bs = parseP bs 1 true := by rw [parseS_eq, hsg]
    have hR2 := hi_ (show parseS bs = if 1 + (digs bs 1).length < bs.length ∨ (digs bs 1).length = 0 then (0, false, 4) else if (numD (digs bs 1)).2 then (signI true * ((numD (digs bs 1)).1 : Int), true, 0) else (0, false, 5) by rw [hR]; unfold parseP; rw [if_neg hdot.out]; (try simp only [Nat.zero_add]))
    have hnl := numD_le (digs bs 1) (0, true) (by omega)
    change (numD (digs bs 1)).1 ≤ 2147483647 at hnl
    have hdl := digs_le bs 1
    clear hR hsg h hcap
    generalize parseS bs = R at *
    go_enter Tryz.func187, Tryz.ntmps187
    go_wp2_with (first
     | (go_at_call 50; (with_reducible refine hnew.mono ?_); clear hnew; rintro e w1 ⟨rfl, hC⟩; replace hC := hi_ hC)
     | (go_at_call 54; (with_reducible refine (cur_match_no (ch := 43) hC.out (Nat.le_refl _) g43.out).mono ?_); clear hC; rintro e w2 ⟨rfl, hC⟩; replace hC := hi_ hC)
     | (go_at_call 54; (with_reducible refine (cur_match_yes (ch := 45) hC.out (Nat.le_refl _) g45.out).mono ?_); clear hC; rintro e w2 ⟨rfl, hC⟩; replace hC := hi_ hC)
     | (go_at_call 54; (with_reducible refine (cur_match_no (ch := 46) hC.out (Nat.le_refl _) hdot.out).mono ?_); clear hC; rintro e w2 ⟨rfl, hC⟩; replace hC := hi_ hC)
     | (go_at_call 206; (with_reducible refine (fx_digits hC.out).mono ?_); clear hC; rintro e w2 ⟨rfl, hC⟩; replace hC := hi_ hC)
     | (go_at_call 207; (with_reducible refine (fx_behind hC.out).mono ?_); clear hC; rintro e w2 ⟨rfl, hC⟩; replace hC := hi_ hC)
     | (go_at_call 58; (with_reducible refine (cur_left hC.out).mono ?_); rintro e w2 ⟨rfl, rfl⟩))
    ·rename _ ∨ _ => hd
     go_ret3
     refine ⟨?_, hC.out.bel.all⟩
     have hf : 1 + (digs bs 1).length < bs.length ∨ (digs bs 1).length = 0 := by
      rcases hd with hd | hd
      ·omega
      ·have hd2 := eq_of_beq hd; omega
     rw [hR2.out, if_pos hf]; rfl
    ·rename _ ∧ _ => hd
     rename (!_) = true => ho
     go_ret3
     refine ⟨?_, hC.out.bel.all⟩
     have hd2 := beq_eq_false_iff_ne.1 hd.2
     have hf : ¬ (1 + (digs bs 1).length < bs.length ∨ (digs bs 1).length = 0) := by omega
     have ho2 : ¬ (numD (digs bs 1)).2 = true := by simpa using ho
     rw [hR2.out, if_neg hf, if_neg ho2]; rfl
    ·rename _ ∧ _ => hd
     rename (!_) = false => ho
     go_ret3
     refine ⟨?_, hC.out.bel.all⟩
     have hd2 := beq_eq_false_iff_ne.1 hd.2
     have hf : ¬ (1 + (digs bs 1).length < bs.length ∨ (digs bs 1).length = 0) := by omega
     have ho2 : (numD (digs bs 1)).2 = true := by simpa using ho
     rw [hR2.out, if_neg hf, if_pos ho2]; simp [signI]
    ·go_ret3
     refine ⟨?_, hC.out.bel.all⟩
     have hf : 1 + (digs bs 1).length < bs.length ∨ (digs bs 1).length = 0 := by omega
     rw [hR2.out, if_pos hf]; rfl
  ·have g45 := hi_ h45
   by_cases hdot : bs[0 + (digs bs 0).length]? = some 46
   ·replace hdot := hi_ hdot
    have hsg : sgn bs = (0, false) := by unfold sgn; simp [h43, h45]
    have hR : parseS bs = parseP bs 0 false := by rw [parseS_eq, hsg]
    have hR2 := hi_ (show parseS bs = if (digs bs 0).length + 1 + (digs bs ((digs bs 0).length + 1)).length < bs.length ∨ (digs bs 0).length + (digs bs ((digs bs 0).length + 1)).length = 0 then (0, false, 4) else if (numD (digs bs 0)).2 then (signI false * (((numD (digs bs 0)).1 : Int) * 100000 + (fracD (digs bs ((digs bs 0).length + 1)) : Int)), false, 0) else (0, false, 5) by rw [hR]; unfold parseP; rw [if_pos hdot.out]; (try simp only [Nat.zero_add]))
    have hfl := fracD_le bs ((digs bs 0).length + 1)
    have hml := digs_le bs ((digs bs 0).length + 1)
    have hnl := numD_le (digs bs 0) (0, true) (by omega)
    change (numD (digs bs 0)).1 ≤ 2147483647 at hnl
    have hdl := digs_le bs 0
    clear hR hsg h hcap
    generalize parseS bs = R at *
    go_enter Tryz.func187, Tryz.ntmps187
    go_wp2_with (first
     | (go_at_call 50; (with_reducible refine hnew.mono ?_); clear hnew; rintro e w1 ⟨rfl, hC⟩; replace hC := hi_ hC)
     | (go_at_call 54; (with_reducible refine (cur_match_no (ch := 43) hC.out (Nat.le_refl _) g43.out).mono ?_); clear hC; rintro e w2 ⟨rfl, hC⟩; replace hC := hi_ hC)
     | (go_at_call 54; (with_reducible refine (cur_match_no (ch := 45) hC.out (Nat.le_refl _) g45.out).mono ?_); clear hC; rintro e w2 ⟨rfl, hC⟩; replace hC := hi_ hC)
     | (go_at_call 54; (with_reducible refine (cur_match_yes (ch := 46) hC.out (Nat.le_refl _) hdot.out).mono ?_); clear hC; rintro e w2 ⟨rfl, hC⟩; replace hC := hi_ hC)
     | (go_at_call 206; (with_reducible refine (fx_digits hC.out).mono ?_); clear hC; rintro e w2 ⟨rfl, hC⟩; replace hC := hi_ hC)
     | (go_at_call 207; (with_reducible refine (fx_behind hC.out).mono ?_); clear hC; rintro e w2 ⟨rfl, hC⟩; replace hC := hi_ hC)
     | (go_at_call 58; (with_reducible refine (cur_left hC.out).mono ?_); rintro e w2 ⟨rfl, rfl⟩))
    ·rename _ ∨ _ => hd
     go_ret3
     refine ⟨?_, hC.out.bel.all⟩
     have hf : (digs bs 0).length + 1 + (digs bs ((digs bs 0).length + 1)).length < bs.length ∨ (digs bs 0).length + (digs bs ((digs bs 0).length + 1)).length = 0 := by
      rcases hd with hd | hd
      ·omega
      ·have hd2 := eq_of_beq hd; omega
     rw [hR2.out, if_pos hf]; rfl
    ·rename _ ∧ _ => hd
     rename (!_) = true => ho
     go_ret3
     refine ⟨?_, hC.out.bel.all⟩
     have hd2 := beq_eq_false_iff_ne.1 hd.2
     have hf : ¬ ((digs bs 0).length + 1 + (digs bs ((digs bs 0).length + 1)).length < bs.length ∨ (digs bs 0).length + (digs bs ((digs bs 0).length + 1)).length = 0) := by omega
     have ho2 : ¬ (numD (digs bs 0)).2 = true := by simpa using ho
     rw [hR2.out, if_neg hf, if_neg ho2]; rfl
    ·rename _ ∧ _ => hd
     rename (!_) = false => ho
     go_ret3
     refine ⟨?_, hC.out.bel.all⟩
     have hd2 := beq_eq_false_iff_ne.1 hd.2
     have hf : ¬ ((digs bs 0).length + 1 + (digs bs ((digs bs 0).length + 1)).length < bs.length ∨ (digs bs 0).length + (digs bs ((digs bs 0).length + 1)).length = 0) := by omega
     have ho2 : (numD (digs bs 0)).2 = true := by simpa using ho
     rw [hR2.out, if_neg hf, if_pos ho2]; simp [signI]
    ·go_ret3
     refine ⟨?_, hC.out.bel.all⟩
     have hf : (digs bs 0).length + 1 + (digs bs ((digs bs 0).length + 1)).length < bs.length ∨ (digs bs 0).length + (digs bs ((digs bs 0).length + 1)).length = 0 := by omega
     rw [hR2.out, if_pos hf]; rfl
   ·replace hdot := hi_ hdot
    have hsg : sgn bs = (0, false) := by unfold sgn; simp [h43, h45]
    have hR : parseS bs = parseP bs 0 false := by rw [parseS_eq, hsg]
    have hR2 := hi_ (show parseS bs = if (digs bs 0).length < bs.length ∨ (digs bs 0).length = 0 then (0, false, 4) else if (numD (digs bs 0)).2 then (signI false * ((numD (digs bs 0)).1 : Int), true, 0) else (0, false, 5) by rw [hR]; unfold parseP; rw [if_neg hdot.out]; (try simp only [Nat.zero_add]))
    have hnl := numD_le (digs bs 0) (0, true) (by omega)
    change (numD (digs bs 0)).1 ≤ 2147483647 at hnl
    have hdl := digs_le bs 0
    clear hR hsg h hcap
    generalize parseS bs = R at *
    go_enter Tryz.func187, Tryz.ntmps187
    go_wp2_with (first
     | (go_at_call 50; (with_reducible refine hnew.mono ?_); clear hnew; rintro e w1 ⟨rfl, hC⟩; replace hC := hi_ hC)
     | (go_at_call 54; (with_reducible refine (cur_match_no (ch := 43) hC.out (Nat.le_refl _) g43.out).mono ?_); clear hC; rintro e w2 ⟨rfl, hC⟩; replace hC := hi_ hC)
     | (go_at_call 54; (with_reducible refine (cur_match_no (ch := 45) hC.out (Nat.le_refl _) g45.out).mono ?_); clear hC; rintro e w2 ⟨rfl, hC⟩; replace hC := hi_ hC)
     | (go_at_call 54; (with_reducible refine (cur_match_no (ch := 46) hC.out (Nat.le_refl _) hdot.out).mono ?_); clear hC; rintro e w2 ⟨rfl, hC⟩; replace hC := hi_ hC)
     | (go_at_call 206; (with_reducible refine (fx_digits hC.out).mono ?_); clear hC; rintro e w2 ⟨rfl, hC⟩; replace hC := hi_ hC)
     | (go_at_call 207; (with_reducible refine (fx_behind hC.out).mono ?_); clear hC; rintro e w2 ⟨rfl, hC⟩; replace hC := hi_ hC)
     | (go_at_call 58; (with_reducible refine (cur_left hC.out).mono ?_); rintro e w2 ⟨rfl, rfl⟩))
    ·rename _ ∨ _ => hd
     go_ret3
     refine ⟨?_, hC.out.bel.all⟩
     have hf : (digs bs 0).length < bs.length ∨ (digs bs 0).length = 0 := by
      rcases hd with hd | hd
      ·omega
      ·have hd2 := eq_of_beq hd; omega
     rw [hR2.out, if_pos hf]; rfl
    ·rename _ ∧ _ => hd
     rename (!_) = true => ho
     go_ret3
     refine ⟨?_, hC.out.bel.all⟩
     have hd2 := beq_eq_false_iff_ne.1 hd.2
     have hf : ¬ ((digs bs 0).length < bs.length ∨ (digs bs 0).length = 0) := by omega
     have ho2 : ¬ (numD (digs bs 0)).2 = true := by simpa using ho
     rw [hR2.out, if_neg hf, if_neg ho2]; rfl
    ·rename _ ∧ _ => hd
     rename (!_) = false => ho
     go_ret3
     refine ⟨?_, hC.out.bel.all⟩
     have hd2 := beq_eq_false_iff_ne.1 hd.2
     have hf : ¬ ((digs bs 0).length < bs.length ∨ (digs bs 0).length = 0) := by omega
     have ho2 : (numD (digs bs 0)).2 = true := by simpa using ho
     rw [hR2.out, if_neg hf, if_pos ho2]; simp [signI]
    ·go_ret3
     refine ⟨?_, hC.out.bel.all⟩
     have hf : (digs bs 0).length < bs.length ∨ (digs bs 0).length = 0 := by omega
     rw [hR2.out, if_pos hf]; rfl
end
theorem Own.out2L {B : Nat} {w : World} {v : Value} {bs : List UInt8} (h : Own B w v bs) (hm : bs.length ≤ maxLen) : ∃ A c, v = .slice A bs.length c ∧ Byt w A bs ∧ (A = none → c = 0) ∧ bs.length ≤ c := by
 obtain ⟨A, c, e, h1, h2⟩ := h.out hm
 refine ⟨A, c, e, h1, h2, ?_⟩
 rcases h.row.2 with ⟨e1, hn⟩ | ⟨g, cap, cur, e1, _, _, hnc, _⟩
 ·rw [e] at e1; injection e1 with e1 e2 e3; omega
 ·rw [e] at e1; injection e1 with e1 e2 e3; omega
theorem set4L {w : World} {R : Nat} {t : TypeId} {z0 z1 z2 z3 u0 u1 u2 u3 : Value} (hR : Blk w R t #[z0, z1, z2, z3]) {Wf : World}
 (hWf : Wf = (((w.setCell ⟨R, 0, none⟩ u0).setCell ⟨R, 1, none⟩ u1).setCell ⟨R, 2, none⟩ u2).setCell ⟨R, 3, none⟩ u3) :
 Blk Wf R t #[u0, u1, u2, u3] ∧ w.grownBy Wf (some R) := by
 have g : ∀ (i : Nat) (u : Value) (v : World), v.grownBy (v.setCell ⟨R, i, none⟩ u) (some R) := fun i u v => set_grownL v R i u
 subst hWf
 exact ⟨(((hR.set_ 0 u0).set_ 1 u1).set_ 2 u2).set_ 3 u3, (((g 0 u0 w).trans (g 1 u1 _)).trans (g 2 u2 _)).trans (g 3 u3 _)⟩
section
variable {L R : Nat} {A : Option Addr} {c : Nat} {bs : Bs} {M V : Value} {w w' w0 : World} {r r' : Bs} {m : Nat} {out : Bs}
theorem LS.grownL {T : Nat} {W' : World} (h : LS L R A c bs M V w r) (hg : w.grownBy W' (some T)) (hL : L ≠ T) (hR : R ≠ T) (hA : 0 < bs.length → ∀ x, A = some x → x.block ≠ T) : LS L R A c bs M V W' r := by
 have hc := h.cur
 have k := hg.block L h.L_lt (by intro e; injection e with e; exact hL e)
 have kr := hg.block R h.R_lt (by intro e; injection e with e; exact hR e)
 refine ⟨⟨hc.ne, Save.refl _ _, (World.cell?_of_block (a := ⟨L, 0, none⟩) k).trans hc.cb, (World.cell?_of_block (a := ⟨L, 1, none⟩) k).trans hc.ca, ?_, ⟨hc.byt.1, fun h0 => ?_⟩, hc.le, hc.small⟩, kr.trans h.rdr, h.ne, h.neA, h.cap, h.suf⟩
 ·have := hc.fr
  unfold World.frozen? at this ⊢
  rw [k]; exact this
 ·obtain ⟨g, o, e, hcc⟩ := hc.byt.2 h0
  refine ⟨g, o, e, fun i hi => ?_⟩
  have hlt := cell_lt (hcc i hi)
  exact (World.cell?_of_block (a := ⟨g, o + i, none⟩) (hg.block g hlt (by intro e2; injection e2 with e2; exact hA h0 _ e e2))).trans (hcc i hi)
theorem Fr.grownL {T : Nat} {a b b' : World} (h : Fr L R a b) (hg : b.grownBy b' (some T)) (hT : a.heap.size ≤ T) : Fr L R a b' :=
 ⟨hg.os.trans h.os, hg.tape.trans h.tape, hg.output.trans h.output, Nat.le_trans h.size hg.size, fun k hk h1 h2 => (hg.block k (Nat.lt_of_lt_of_le hk h.size) (by intro e; injection e with e; omega)).trans (h.block k hk h1 h2)⟩
theorem Fr.blk {g : Nat} {a b : World} {t : TypeId} {cs : Array Value} (h : Fr L R a b) (h1 : g ≠ L) (h2 : g ≠ R) (k : Blk a g t cs) : Blk b g t cs := (h.block g k.lt h1 h2).trans k
def TokL (L R : Nat) (A : Option Addr) (c : Nat) (bs : Bs) (w : World) (res : Res Tok) (e : Ending) (w' : World) : Prop := match res with
 | .ok k u => ∃ a2 c2, e = .returned (.tuple #[.agg #[.int .i64 k.k, .int .i64 0, .int .i64 k.n, .slice a2 k.b.length c2], .int .i64 0]) ∧ Own w.heap.size w' (.slice a2 k.b.length c2) k.b ∧ (∃ M V, LS L R A c bs M V w' u) ∧ Fr L R w w'
 | .err n _ => n ≠ 0 ∧ (∃ k1 n1 a2 m2 c2, e = .returned (.tuple #[.agg #[.int .i64 k1, .int .i64 0, .int .i64 n1, .slice a2 m2 c2], .int .i64 n])) ∧ (∃ M V u, LS L R A c bs M V w' u) ∧ Fr L R w w'
theorem fin4 {T : Nat} {W Wf : World} {z0 z1 z2 z3 u0 u1 u2 u3 : Value} (hT : w.heap.size = T) (hL : L < T) (hR : R < T) (hA : 0 < bs.length → ∀ x, A = some x → x.block < T) (hB : Blk W T 108 #[z0, z1, z2, z3]) (h : LS L R A c bs M V W r) (hF : Fr L R w W)
 (hWf : Wf = (((W.setCell ⟨T, 0, none⟩ u0).setCell ⟨T, 1, none⟩ u1).setCell ⟨T, 2, none⟩ u2).setCell ⟨T, 3, none⟩ u3) :
 Blk Wf T 108 #[u0, u1, u2, u3] ∧ LS L R A c bs M V Wf r ∧ Fr L R w Wf ∧ W.grownBy Wf (some T) := by
 obtain ⟨h1, h2⟩ := set4L hB hWf
 exact ⟨h1, h.grownL h2 (by omega) (by omega) (fun h0 x hx => by have := hA h0 x hx; omega), hF.grownL h2 (by omega), h2⟩
theorem parse_errL (l : Bs) : (parseS l).2.2 = 0 ∨ (parseS l).2.2 = 4 ∨ (parseS l).2.2 = 5 := by
 unfold parseS
 repeat' split
 all_goals simp
theorem lx_number (h0 : regP r = true) (W : World) (h : LS L R A c bs M V W r) : Calls Tryz.prog 154 #[.pointer (some ⟨R, 0, none⟩)] W (TokL L R A c bs W (numS r)) := by
 obtain ⟨W1, hW1, b1, hT1⟩ := newB W 108 #[.int .i64 0, .int .i64 0, .int .i64 0, .slice none 0 0]
 have z1 : W1.heap.size = W.heap.size + 1 := by rw [hW1]; exact World.size_alloc _ _
 have hL1 := h.belowW b1
 have hLT := h.L_lt
 have hRT := h.R_lt
 have hAT := h.a_lt
 have crun := hi_ fun W h => lx_run (L := L) (R := R) (A := A) (c := c) (bs := bs) (M := M) (V := V) h0 W h
 have hRl : (runS r).length ≤ 1000000000 := by
  have h1 := run_lenL r
  have h2 := suf_len h.suf
  have h3 := h.cur.small
  omega
 have hRml : (runS r).length ≤ maxLen := by unfold maxLen; omega
 have hnz : (parseS (runS r)).2.2 = 0 ∨ (parseS (runS r)).2.2 = 4 ∨ (parseS (runS r)).2.2 = 5 := parse_errL _
 unfold numS
 obtain ⟨Q, hQ⟩ : ∃ Q, Q = runS r := ⟨_, rfl⟩
 rw [← hQ] at crun hRl hRml hnz ⊢
 have cps := hi_ fun (w : World) (A : Option Addr) (c : Nat) (h : Byt w A Q) (hc : Q.length ≤ c) => fx_parse h hc hRl
 obtain ⟨n, wh, er, hP⟩ : ∃ n wh er, parseS Q = (n, wh, er) := ⟨_, _, _, rfl⟩
 rw [hP] at cps hnz ⊢
 simp only [] at cps hnz ⊢
 obtain ⟨K, hK⟩ : ∃ K : Res Tok, K = if er = 0 then .ok ⟨if wh then 1 else 2, n, []⟩ (r.drop Q.length) else .err er r := ⟨_, rfl⟩
 rw [← hK]
 refine h9_ hK hQ hP hRl hRml hnz hL1 hT1 b1 ?_; clear hK hQ hP hRl hRml hnz hL1 hT1 b1; intro hK hQ hP hRl hRml hnz hL1 hT1 b1
 refine h3_ z1 hAT h ?_; clear z1 hAT h; intro z1 hAT h
 clear h0
 cases wh
 ·go_enter Tryz.func154, Tryz.ntmps154
  go_wp2_with (first
   | (go_at_call 155; rw [← hW1]; (with_reducible refine (crun.out _ hL1.out).mono ?_); rintro e w2 ⟨a2, m2, c2, rfl, hO, hL2, hS2⟩; obtain ⟨A9, c9, e9, hby, _, hcap⟩ := hO.out2L hRml.out; injection e9 with i1 i2 i3; subst i1 i2 i3; have hT2 := hi_ (hS2.blk (by omega) hT1.out); replace hL2 := hi_ hL2; replace hS2 := hi_ hS2; replace hby := hi_ hby; replace hcap := hi_ hcap; clear hO)
   | (go_at_call 187; (with_reducible refine (cps.out _ _ _ hby.out hcap.out).mono ?_); rintro e w3 ⟨rfl, hB3⟩; have hL3 := hi_ (hL2.out.belowW hB3); have hT3 := hT2.out.below hB3 hT2.out.lt; obtain ⟨p0, p1, p2, p3, v0, v1, v2, v3⟩ := hT3.b4; replace hT3 := hi_ hT3; have hF3 := hi_ ((Fr.of_below b1.out).trans ((Fr.of_save hS2.out).trans (Fr.of_below (R := R) (L := L) hB3))); clear hB3))
  generalize hWf : World.setCell _ _ _ = Wf
  replace hWf := hWf.symm
  obtain ⟨hb, hLf, hFf, hg⟩ := fin4 rfl hLT hRT hAT.out hT3.out hL3.out hF3.out hWf
  obtain ⟨u0, u1, u2, u3, -⟩ := hb.b4
  have hOf : Own W.heap.size Wf (.slice none 0 0) [] := Own.nil _ _
  refine h4_ hLf hFf hOf hWf ?_; clear hLf hFf hOf hWf; intro hLf hFf hOf hWf
  clear hb hg p0 p1 p2 p3 v0 v1 v2 v3
  refine bodyPost_ret (by simp [results, Tryz.results154, go_sem, u0, u1, u2, u3]; try rfl) rfl ?_
  rw [hK.out]
  by_cases he : er = 0
  ·rw [if_pos he, he]
   exact ⟨none, 0, rfl, hOf.out, ⟨_, _, hLf.out⟩, hFf.out⟩
  ·rw [if_neg he]
   exact ⟨he, ⟨_, _, _, _, _, rfl⟩, ⟨_, _, _, hLf.out⟩, hFf.out⟩
 ·go_enter Tryz.func154, Tryz.ntmps154
  go_wp2_with (first
   | (go_at_call 155; rw [← hW1]; (with_reducible refine (crun.out _ hL1.out).mono ?_); rintro e w2 ⟨a2, m2, c2, rfl, hO, hL2, hS2⟩; obtain ⟨A9, c9, e9, hby, _, hcap⟩ := hO.out2L hRml.out; injection e9 with i1 i2 i3; subst i1 i2 i3; have hT2 := hi_ (hS2.blk (by omega) hT1.out); replace hL2 := hi_ hL2; replace hS2 := hi_ hS2; replace hby := hi_ hby; replace hcap := hi_ hcap; clear hO)
   | (go_at_call 187; (with_reducible refine (cps.out _ _ _ hby.out hcap.out).mono ?_); rintro e w3 ⟨rfl, hB3⟩; have hL3 := hi_ (hL2.out.belowW hB3); have hT3 := hT2.out.below hB3 hT2.out.lt; obtain ⟨p0, p1, p2, p3, v0, v1, v2, v3⟩ := hT3.b4; replace hT3 := hi_ hT3; have hF3 := hi_ ((Fr.of_below b1.out).trans ((Fr.of_save hS2.out).trans (Fr.of_below (R := R) (L := L) hB3))); clear hB3))
  generalize hWf : World.setCell _ _ _ = Wf
  replace hWf := hWf.symm
  obtain ⟨hb, hLf, hFf, hg⟩ := fin4 rfl hLT hRT hAT.out hT3.out hL3.out hF3.out hWf
  obtain ⟨u0, u1, u2, u3, -⟩ := hb.b4
  have hOf : Own W.heap.size Wf (.slice none 0 0) [] := Own.nil _ _
  refine h4_ hLf hFf hOf hWf ?_; clear hLf hFf hOf hWf; intro hLf hFf hOf hWf
  clear hb hg p0 p1 p2 p3 v0 v1 v2 v3
  refine bodyPost_ret (by simp [results, Tryz.results154, go_sem, u0, u1, u2, u3]; try rfl) rfl ?_
  rw [hK.out]
  by_cases he : er = 0
  ·rw [if_pos he, he]
   exact ⟨none, 0, rfl, hOf.out, ⟨_, _, hLf.out⟩, hFf.out⟩
  ·rw [if_neg he]
   exact ⟨he, ⟨_, _, _, _, _, rfl⟩, ⟨_, _, _, hLf.out⟩, hFf.out⟩
end
section
variable {L R : Nat} {A : Option Addr} {c : Nat} {bs : Bs} {M V : Value} {w w' w0 : World} {r r' : Bs} {m : Nat} {out : Bs}
theorem Own.lenL {B : Nat} {w : World} {v : Value} {b : List UInt8} (h : Own B w v b) : b.length ≤ maxLen := by
 rcases h.row.2 with ⟨_, h0⟩ | ⟨g, cap, cur, _, _, _, hnc, hcm, _⟩
 ·rw [h0]; unfold maxLen; omega
 ·omega
def ResIs (res : Res Bs) (n : Int) (b u : Bs) : Prop := match res with | .ok b' u' => n = 0 ∧ b' = b ∧ u' = u | .err k _ => n = k
theorem LexL.lo {res : Res Bs} {e : Ending} (h : LexL w0 L R A c bs m res e w') : ∃ n b u, e = .returned (.int .i64 n) ∧ LO w0 L R A c bs m b w' u ∧ ResIs res n b u := by
 cases res with
 | ok b u => exact ⟨0, b, u, h.1, h.2, rfl, rfl, rfl⟩
 | err k u => obtain ⟨h1, b, u, h2⟩ := h; exact ⟨k, b, u, h1, h2, rfl⟩
theorem lx_keptname (kd : Int) (S : Res Bs) (at' : Bs) (hne : ∀ k u, S = .err k u → k ≠ 0)
 (hf : ∀ w0 w, LO w0 L R A c bs 127 [] w r → Calls Tryz.prog 151 #[.pointer (some ⟨R, 0, none⟩)] w (LexL w0 L R A c bs 127 S)) (W : World) (h : LS L R A c bs M V W r) :
 Calls Tryz.prog 150 #[.pointer (some ⟨R, 0, none⟩), .int .i64 kd, .int .i64 127, .func (.func 151) #[.pointer (some ⟨R, 0, none⟩)] #[]] W (TokL L R A c bs W (tokOf kd at' S)) := by
 obtain ⟨W1, hW1, b1, hT1⟩ := newB W 108 #[.int .i64 0, .int .i64 0, .int .i64 0, .slice none 0 0]
 have z1 : W1.heap.size = W.heap.size + 1 := by rw [hW1]; exact World.size_alloc _ _
 have hL1 := h.belowW b1
 have hLT := h.L_lt
 have hRT := h.R_lt
 have hAT := h.a_lt
 have s1 : LS L R A c bs (.int .i64 (127 : Nat)) V (W1.setCell ⟨R, 1, none⟩ (.int .i64 127)) r := hL1.set 1 _ _ _ rfl
 have s2 : LS L R A c bs (.int .i64 (127 : Nat)) (.slice none 0 0) ((W1.setCell ⟨R, 1, none⟩ (.int .i64 127)).setCell ⟨R, 2, none⟩ (.slice none 0 0)) r := s1.set 2 _ _ _ rfl
 have hT2 := (hT1.far (p := ⟨R, 1, none⟩) (show W.heap.size ≠ R by omega) (.int .i64 127)).far (p := ⟨R, 2, none⟩) (show W.heap.size ≠ R by omega) (.slice none 0 0)
 obtain ⟨q0, q1, q2, -, v1, v2⟩ := hL1.rdr.b3
 obtain ⟨W2, hW2⟩ : ∃ W2, W2 = (W1.setCell ⟨R, 1, none⟩ (.int .i64 127)).setCell ⟨R, 2, none⟩ (.slice none 0 0) := ⟨_, rfl⟩
 rw [← hW2] at s2 hT2
 have f2 : Fr L R W W2 := by rw [hW2]; exact ((Fr.of_below b1).storeR 1 _).storeR 2 _
 have z2 : W2.heap.size = W.heap.size + 1 := by rw [hW2]; simp [World.setCell, z1]
 have lo : LO W2 L R A c bs 127 [] W2 r := ⟨⟨_, s2, Own.nil _ _⟩, Fr.refl _ _ _, by omega, by omega, fun h0 x hx => by have := hAT h0 x hx; omega⟩
 have cf := hi_ (hf W2 W2 lo)
 refine h9_ hW2 s2 hT2 f2 z2 z1 b1 hT1 hL1 ?_; clear hW2 s2 hT2 f2 z2 z1 b1 hT1 hL1; intro hW2 s2 hT2 f2 z2 z1 b1 hT1 hL1
 replace hAT := hi_ hAT
 replace hne := hi_ hne
 obtain ⟨K, hK⟩ : ∃ K, K = tokOf kd at' S := ⟨_, rfl⟩
 rw [← hK]
 replace hK := hi_ hK
 have hneL : W.heap.size ≠ L := by omega
 have hneR : W.heap.size ≠ R := by omega
 replace hneL := hi_ hneL
 replace hneR := hi_ hneR
 clear h s1 lo hf
 go_enter Tryz.func150, Tryz.ntmps150
 go_upto_region 1 with fail
 rw [← hW1]
 replace hW1 := hi_ hW1
 go_wp2_with (go_at_call 151; rw [← hW2.out]; (with_reducible refine cf.out.mono ?_); rintro e w2 hX; obtain ⟨n, b, u, rfl, hO, hR⟩ := LexL.lo hX; clear hX; obtain ⟨⟨v, hL3, hW3⟩, hF3, _, _, _⟩ := hO; obtain ⟨a2, m2, c2, rfl⟩ := hW3.sl; have hT3 := hF3.blk hneL.out hneR.out hT2.out; have q0 := hL3.rdr.cell 0; have q2 := hL3.rdr.cell 2; obtain ⟨p0, p1, p2, p3, v0, v1, v2, v3⟩ := hT3.b4; replace hT3 := hi_ hT3; replace hL3 := hi_ hL3; replace hW3 := hi_ hW3; replace hF3 := hi_ (f2.out.trans hF3); replace hR := hi_ hR)
 generalize hWf : World.setCell _ _ _ = Wf
 replace hWf := hWf.symm
 obtain ⟨hb, hLf, hFf, hg⟩ := fin4 rfl hLT hRT hAT.out hT3.out hL3.out hF3.out hWf
 obtain ⟨u0, u1, u2, u3, -⟩ := hb.b4
 have hOf : Own W.heap.size Wf (.slice a2 m2 c2) b := by
  have h1 := hW3.out.notL hT3.out (by decide)
  exact own_grownL (hW3.out.base (by have := z2.out; omega)) hg (fun g hg e => h1 (by rw [hg]; exact e))
 refine h4_ hLf hFf hOf hWf ?_; clear hLf hFf hOf hWf; intro hLf hFf hOf hWf
 clear hb hg p0 p1 p2 p3 v0 v1 v2 v3 q0 q2
 refine bodyPost_ret (by simp [results, Tryz.results150, go_sem, u0, u1, u2, u3]; try rfl) rfl ?_
 rw [hK.out]
 have hR := hR.out
 cases S with
 | ok b' u' =>
  obtain ⟨rfl, rfl, rfl⟩ := hR
  obtain ⟨A9, c9, e9, _⟩ := hOf.out.out2L hOf.out.lenL
  injection e9 with i1 i2 i3
  subst i1 i2 i3
  exact ⟨_, _, rfl, hOf.out, ⟨_, _, hLf.out⟩, hFf.out⟩
 | err k u' =>
  have hR : n = k := hR
  subst hR
  exact ⟨hne.out _ _ rfl, ⟨_, _, _, _, _, rfl⟩, ⟨_, _, _, hLf.out⟩, hFf.out⟩
theorem lx_kepttext (kd : Int) (S : Res Bs) (at' : Bs) (hne : ∀ k u, S = .err k u → k ≠ 0)
 (hf : ∀ w0 w, LO w0 L R A c bs 32767 [] w r → Calls Tryz.prog 152 #[.pointer (some ⟨R, 0, none⟩)] w (LexL w0 L R A c bs 32767 S)) (W : World) (h : LS L R A c bs M V W r) :
 Calls Tryz.prog 150 #[.pointer (some ⟨R, 0, none⟩), .int .i64 kd, .int .i64 32767, .func (.func 152) #[.pointer (some ⟨R, 0, none⟩)] #[]] W (TokL L R A c bs W (tokOf kd at' S)) := by
 obtain ⟨W1, hW1, b1, hT1⟩ := newB W 108 #[.int .i64 0, .int .i64 0, .int .i64 0, .slice none 0 0]
 have z1 : W1.heap.size = W.heap.size + 1 := by rw [hW1]; exact World.size_alloc _ _
 have hL1 := h.belowW b1
 have hLT := h.L_lt
 have hRT := h.R_lt
 have hAT := h.a_lt
 have s1 : LS L R A c bs (.int .i64 (32767 : Nat)) V (W1.setCell ⟨R, 1, none⟩ (.int .i64 32767)) r := hL1.set 1 _ _ _ rfl
 have s2 : LS L R A c bs (.int .i64 (32767 : Nat)) (.slice none 0 0) ((W1.setCell ⟨R, 1, none⟩ (.int .i64 32767)).setCell ⟨R, 2, none⟩ (.slice none 0 0)) r := s1.set 2 _ _ _ rfl
 have hT2 := (hT1.far (p := ⟨R, 1, none⟩) (show W.heap.size ≠ R by omega) (.int .i64 32767)).far (p := ⟨R, 2, none⟩) (show W.heap.size ≠ R by omega) (.slice none 0 0)
 obtain ⟨q0, q1, q2, -, v1, v2⟩ := hL1.rdr.b3
 obtain ⟨W2, hW2⟩ : ∃ W2, W2 = (W1.setCell ⟨R, 1, none⟩ (.int .i64 32767)).setCell ⟨R, 2, none⟩ (.slice none 0 0) := ⟨_, rfl⟩
 rw [← hW2] at s2 hT2
 have f2 : Fr L R W W2 := by rw [hW2]; exact ((Fr.of_below b1).storeR 1 _).storeR 2 _
 have z2 : W2.heap.size = W.heap.size + 1 := by rw [hW2]; simp [World.setCell, z1]
 have lo : LO W2 L R A c bs 32767 [] W2 r := ⟨⟨_, s2, Own.nil _ _⟩, Fr.refl _ _ _, by omega, by omega, fun h0 x hx => by have := hAT h0 x hx; omega⟩
 have cf := hi_ (hf W2 W2 lo)
 refine h9_ hW2 s2 hT2 f2 z2 z1 b1 hT1 hL1 ?_; clear hW2 s2 hT2 f2 z2 z1 b1 hT1 hL1; intro hW2 s2 hT2 f2 z2 z1 b1 hT1 hL1
 replace hAT := hi_ hAT
 replace hne := hi_ hne
 obtain ⟨K, hK⟩ : ∃ K, K = tokOf kd at' S := ⟨_, rfl⟩
 rw [← hK]
 replace hK := hi_ hK
 have hneL : W.heap.size ≠ L := by omega
 have hneR : W.heap.size ≠ R := by omega
 replace hneL := hi_ hneL
 replace hneR := hi_ hneR
 clear h s1 lo hf
 go_enter Tryz.func150, Tryz.ntmps150
 go_upto_region 1 with fail
 rw [← hW1]
 replace hW1 := hi_ hW1
 go_wp2_with (go_at_call 152; rw [← hW2.out]; (with_reducible refine cf.out.mono ?_); rintro e w2 hX; obtain ⟨n, b, u, rfl, hO, hR⟩ := LexL.lo hX; clear hX; obtain ⟨⟨v, hL3, hW3⟩, hF3, _, _, _⟩ := hO; obtain ⟨a2, m2, c2, rfl⟩ := hW3.sl; have hT3 := hF3.blk hneL.out hneR.out hT2.out; have q0 := hL3.rdr.cell 0; have q2 := hL3.rdr.cell 2; obtain ⟨p0, p1, p2, p3, v0, v1, v2, v3⟩ := hT3.b4; replace hT3 := hi_ hT3; replace hL3 := hi_ hL3; replace hW3 := hi_ hW3; replace hF3 := hi_ (f2.out.trans hF3); replace hR := hi_ hR)
 generalize hWf : World.setCell _ _ _ = Wf
 replace hWf := hWf.symm
 obtain ⟨hb, hLf, hFf, hg⟩ := fin4 rfl hLT hRT hAT.out hT3.out hL3.out hF3.out hWf
 obtain ⟨u0, u1, u2, u3, -⟩ := hb.b4
 have hOf : Own W.heap.size Wf (.slice a2 m2 c2) b := by
  have h1 := hW3.out.notL hT3.out (by decide)
  exact own_grownL (hW3.out.base (by have := z2.out; omega)) hg (fun g hg e => h1 (by rw [hg]; exact e))
 refine h4_ hLf hFf hOf hWf ?_; clear hLf hFf hOf hWf; intro hLf hFf hOf hWf
 clear hb hg p0 p1 p2 p3 v0 v1 v2 v3 q0 q2
 refine bodyPost_ret (by simp [results, Tryz.results150, go_sem, u0, u1, u2, u3]; try rfl) rfl ?_
 rw [hK.out]
 have hR := hR.out
 cases S with
 | ok b' u' =>
  obtain ⟨rfl, rfl, rfl⟩ := hR
  obtain ⟨A9, c9, e9, _⟩ := hOf.out.out2L hOf.out.lenL
  injection e9 with i1 i2 i3
  subst i1 i2 i3
  exact ⟨_, _, rfl, hOf.out, ⟨_, _, hLf.out⟩, hFf.out⟩
 | err k u' =>
  have hR : n = k := hR
  subst hR
  exact ⟨hne.out _ _ rfl, ⟨_, _, _, _, _, rfl⟩, ⟨_, _, _, hLf.out⟩, hFf.out⟩
theorem lx_kepthex (kd : Int) (S : Res Bs) (at' : Bs) (hne : ∀ k u, S = .err k u → k ≠ 0)
 (hf : ∀ w0 w, LO w0 L R A c bs 32767 [] w r → Calls Tryz.prog 153 #[.pointer (some ⟨R, 0, none⟩)] w (LexL w0 L R A c bs 32767 S)) (W : World) (h : LS L R A c bs M V W r) :
 Calls Tryz.prog 150 #[.pointer (some ⟨R, 0, none⟩), .int .i64 kd, .int .i64 32767, .func (.func 153) #[.pointer (some ⟨R, 0, none⟩)] #[]] W (TokL L R A c bs W (tokOf kd at' S)) := by
 obtain ⟨W1, hW1, b1, hT1⟩ := newB W 108 #[.int .i64 0, .int .i64 0, .int .i64 0, .slice none 0 0]
 have z1 : W1.heap.size = W.heap.size + 1 := by rw [hW1]; exact World.size_alloc _ _
 have hL1 := h.belowW b1
 have hLT := h.L_lt
 have hRT := h.R_lt
 have hAT := h.a_lt
 have s1 : LS L R A c bs (.int .i64 (32767 : Nat)) V (W1.setCell ⟨R, 1, none⟩ (.int .i64 32767)) r := hL1.set 1 _ _ _ rfl
 have s2 : LS L R A c bs (.int .i64 (32767 : Nat)) (.slice none 0 0) ((W1.setCell ⟨R, 1, none⟩ (.int .i64 32767)).setCell ⟨R, 2, none⟩ (.slice none 0 0)) r := s1.set 2 _ _ _ rfl
 have hT2 := (hT1.far (p := ⟨R, 1, none⟩) (show W.heap.size ≠ R by omega) (.int .i64 32767)).far (p := ⟨R, 2, none⟩) (show W.heap.size ≠ R by omega) (.slice none 0 0)
 obtain ⟨q0, q1, q2, -, v1, v2⟩ := hL1.rdr.b3
 obtain ⟨W2, hW2⟩ : ∃ W2, W2 = (W1.setCell ⟨R, 1, none⟩ (.int .i64 32767)).setCell ⟨R, 2, none⟩ (.slice none 0 0) := ⟨_, rfl⟩
 rw [← hW2] at s2 hT2
 have f2 : Fr L R W W2 := by rw [hW2]; exact ((Fr.of_below b1).storeR 1 _).storeR 2 _
 have z2 : W2.heap.size = W.heap.size + 1 := by rw [hW2]; simp [World.setCell, z1]
 have lo : LO W2 L R A c bs 32767 [] W2 r := ⟨⟨_, s2, Own.nil _ _⟩, Fr.refl _ _ _, by omega, by omega, fun h0 x hx => by have := hAT h0 x hx; omega⟩
 have cf := hi_ (hf W2 W2 lo)
 refine h9_ hW2 s2 hT2 f2 z2 z1 b1 hT1 hL1 ?_; clear hW2 s2 hT2 f2 z2 z1 b1 hT1 hL1; intro hW2 s2 hT2 f2 z2 z1 b1 hT1 hL1
 replace hAT := hi_ hAT
 replace hne := hi_ hne
 obtain ⟨K, hK⟩ : ∃ K, K = tokOf kd at' S := ⟨_, rfl⟩
 rw [← hK]
 replace hK := hi_ hK
 have hneL : W.heap.size ≠ L := by omega
 have hneR : W.heap.size ≠ R := by omega
 replace hneL := hi_ hneL
 replace hneR := hi_ hneR
 clear h s1 lo hf
 go_enter Tryz.func150, Tryz.ntmps150
 go_upto_region 1 with fail
 rw [← hW1]
 replace hW1 := hi_ hW1
 go_wp2_with (go_at_call 153; rw [← hW2.out]; (with_reducible refine cf.out.mono ?_); rintro e w2 hX; obtain ⟨n, b, u, rfl, hO, hR⟩ := LexL.lo hX; clear hX; obtain ⟨⟨v, hL3, hW3⟩, hF3, _, _, _⟩ := hO; obtain ⟨a2, m2, c2, rfl⟩ := hW3.sl; have hT3 := hF3.blk hneL.out hneR.out hT2.out; have q0 := hL3.rdr.cell 0; have q2 := hL3.rdr.cell 2; obtain ⟨p0, p1, p2, p3, v0, v1, v2, v3⟩ := hT3.b4; replace hT3 := hi_ hT3; replace hL3 := hi_ hL3; replace hW3 := hi_ hW3; replace hF3 := hi_ (f2.out.trans hF3); replace hR := hi_ hR)
 generalize hWf : World.setCell _ _ _ = Wf
 replace hWf := hWf.symm
 obtain ⟨hb, hLf, hFf, hg⟩ := fin4 rfl hLT hRT hAT.out hT3.out hL3.out hF3.out hWf
 obtain ⟨u0, u1, u2, u3, -⟩ := hb.b4
 have hOf : Own W.heap.size Wf (.slice a2 m2 c2) b := by
  have h1 := hW3.out.notL hT3.out (by decide)
  exact own_grownL (hW3.out.base (by have := z2.out; omega)) hg (fun g hg e => h1 (by rw [hg]; exact e))
 refine h4_ hLf hFf hOf hWf ?_; clear hLf hFf hOf hWf; intro hLf hFf hOf hWf
 clear hb hg p0 p1 p2 p3 v0 v1 v2 v3 q0 q2
 refine bodyPost_ret (by simp [results, Tryz.results150, go_sem, u0, u1, u2, u3]; try rfl) rfl ?_
 rw [hK.out]
 have hR := hR.out
 cases S with
 | ok b' u' =>
  obtain ⟨rfl, rfl, rfl⟩ := hR
  obtain ⟨A9, c9, e9, _⟩ := hOf.out.out2L hOf.out.lenL
  injection e9 with i1 i2 i3
  subst i1 i2 i3
  exact ⟨_, _, rfl, hOf.out, ⟨_, _, hLf.out⟩, hFf.out⟩
 | err k u' =>
  have hR : n = k := hR
  subst hR
  exact ⟨hne.out _ _ rfl, ⟨_, _, _, _, _, rfl⟩, ⟨_, _, _, hLf.out⟩, hFf.out⟩
end
end Go.Proofs.YthffpbkndnhlfaaGreatDoor

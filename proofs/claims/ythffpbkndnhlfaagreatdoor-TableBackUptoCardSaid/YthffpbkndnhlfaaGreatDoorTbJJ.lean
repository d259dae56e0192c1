/- Walks and laws, joined: part J. No condition. -/
import Derived.Test.YthffpbkndnhlfaaGreatDoorTbJI
import Derived.Test.YthffpbkndnhlfaaGreatDoorTbJA
import Derived.Test.YthffpbkndnhlfaaGreatDoorTbJB
import Derived.Maps.AppendAt
import Derived.Deep.CutBlock
set_option linter.unusedSimpArgs false
set_option linter.unusedVariables false
set_option maxRecDepth 100000
set_option maxHeartbeats 32000000
namespace Go.Proofs.YthffpbkndnhlfaaGreatDoor
open Go Go.RowKit Go.Wk Go.Rd Go.Fx
def decK : Nat → Bs → Option Nat
 | n, [] => some n
 | n, c :: r => if 48 ≤ c.toNat ∧ c.toNat ≤ 57 then decK (10 * n + (c.toNat - 48)) r else none
def decS (b : Bs) : Option Nat := decK 0 b
def endB (e : Bs) : Bool := e == [32, 13] || e == [32, 10] || e == [13, 10]
def entryS (b : Bs) : Option (Int × Int × Int) := match decS (b.take 10), decS ((b.drop 11).take 5) with
 | some a, some g => if endB (b.drop 18) && b[10]? == some 32 && b[16]? == some 32 && (b[17]? == some 110 || b[17]? == some 102) then some (if b[17]? = some 110 then 1 else 0, a, g) else none
 | _, _ => none
def numO : Option Nat → Int × Bool
 | some n => ((n : Int), true)
 | none => (0, false)
def numA (b : Bs) : Int × Bool := numO (decS b)
theorem tab_number (A : Option Addr) (c : Nat) (b : Bs) (hb : b.length ≤ 10) (W : World) (hby : Byt W A b) : Calls Tryz.prog 88 #[.slice A b.length c] W fun e w' => e = .returned (.tuple #[.int .i64 (numA b).1, .bool (numA b).2]) ∧ W = w' := by
 obtain ⟨n, hn⟩ : ∃ n, n = b.length := ⟨_, rfl⟩
 obtain ⟨K, hK⟩ : ∃ K, K = decS b := ⟨_, rfl⟩
 have hnum : numA b = numO K := by rw [hK]; rfl
 rw [← hn]
 rw [← hn] at hb
 obtain ⟨N1, hN1⟩ : ∃ x, x = (numA b).1 := ⟨_, rfl⟩
 obtain ⟨N2, hN2⟩ : ∃ x, x = (numA b).2 := ⟨_, rfl⟩
 rw [← hN1, ← hN2]
 rw [hnum] at hN1 hN2
 refine h5_ hn hK hN1 hN2 hby ?_; clear hn hK hN1 hN2 hby; intro hn hK hN1 hN2 hby
 clear hnum
 go_enter Tryz.func88, Tryz.ntmps88
 go_wp2
 go_loopw [4, 9] (fun s4 s9 wr => ∃ (i m : Nat), i ≤ n ∧ s9 = .int .i64 i ∧ s4 = .int .i64 m ∧ decK m (b.drop i) = K ∧ m < 10 ^ i ∧ wr = W) (fun _ s9 _ => n - (RowKit.intOf s9).toNat)
 case atStart => exact ⟨0, 0, by omega, rfl, rfl, hK.out.symm, by simp, rfl⟩
 case round =>
  obtain ⟨i, m, hi, rfl, rfl, hE, hm, rfl⟩ := hrel
  by_cases hin : i < n
  ·have hil : i < b.length := by rw [← hn.out]; exact hin
   obtain ⟨g, o, hA, hc⟩ := hby.out.2 (by omega)
   subst hA
   obtain ⟨x, hx⟩ : ∃ x, x = b[i] := ⟨_, rfl⟩
   have c0 := hc i hil
   rw [← hx] at c0
   have hE2 := hE
   rw [List.drop_eq_getElem_cons hil, decK, ← hx] at hE2
   have hx2 := x.toNat_lt
   have hp : 10 ^ i ≤ 10 ^ 9 := Nat.pow_le_pow_right (by omega) (by omega)
   have hm9 : m ≤ 999999999 := by omega
   have hms : (10 * m + (x.toNat - 48)) < 10 ^ (i + 1) ∨ ¬ x.toNat ≤ 57 := by rw [Nat.pow_succ]; omega
   obtain ⟨X, hX⟩ : ∃ X : Int, X = (x.toNat : Nat) := ⟨_, rfl⟩
   obtain ⟨M, hM⟩ : ∃ M : Int, M = (m : Nat) := ⟨_, rfl⟩
   rw [← hX] at c0
   rw [← hM]
   have hX0 : 0 ≤ X := by omega
   have hX1 : X < 256 := by omega
   have hM0 : 0 ≤ M := by omega
   have hM1 : M ≤ 999999999 := by omega
   refine h7_ hX hM hx hE2 hms hm hc ?_; clear hX hM hx hE2 hms hm hc; intro hX hM hx hE2 hms hm hc
   clear hE hp hm9 hx2
   by_cases h48 : X < 48
   ·obtain rfl : K = none := by rw [← hE2.out, if_neg (by have := hX.out; omega)]
    go_wp2
    go_ret2
    exact ⟨by rw [hN1.out, hN2.out]; rfl, rfl⟩
   ·by_cases h57 : 57 < X
    ·obtain rfl : K = none := by rw [← hE2.out, if_neg (by have := hX.out; omega)]
     go_wp2
     go_ret2
     exact ⟨by rw [hN1.out, hN2.out]; rfl, rfl⟩
    ·have hE3 := hE2.out
     rw [if_pos (by have := hX.out; omega)] at hE3
     have hw1 : IntKind.u8.wrap (X - 48) = X - 48 := by rw [IntWalk.u8_in _ (by omega)]
     go_wp2
     go_roundw
     case rel =>
      refine ⟨i + 1, 10 * m + (x.toNat - 48), by omega, by go_num, ?_, hE3, by have := hms.out; have := hX.out; omega, trivial⟩
      have := hX.out
      have := hM.out
      congr 1
      omega
     case measure => simp [RowKit.intOf]; omega
  ·obtain rfl : i = n := by omega
   have hE3 : K = some m := by rw [← hE, hn.out, List.drop_length, decK]
   subst hE3
   go_wp2
   go_ret2
   exact ⟨by rw [hN1.out, hN2.out]; rfl, rfl⟩
theorem byt_sub {w : World} {g o : Nat} {b : Bs} (h : Byt w (some ⟨g, o, none⟩) b) (i n : Nat) (hi : i + n ≤ b.length) : Byt w (some ⟨g, o + i, none⟩) ((b.drop i).take n) := by
 refine ⟨by have := h.1; simp only [List.length_take, List.length_drop]; omega, fun h0 => ⟨g, o + i, rfl, fun j hj => ?_⟩⟩
 simp only [List.length_take, List.length_drop] at hj h0
 obtain ⟨b2, o2, e, hc⟩ := h.2 (by omega)
 injection e with e
 injection e with e1 e2
 subst e1 e2
 rw [Nat.add_assoc, hc (i + j) (by omega)]
 simp [List.getElem_take, List.getElem_drop]
theorem conv_byt {w : World} {A : Option Addr} {b : Bs} {c : Nat} (hby : Byt w A b) : (convert 22 9 (.slice A b.length c)).run Tryz.prog w = .ok (.string ⟨b.toArray⟩) w := by
 cases A with
 | none =>
  have hb : b = [] := by
   cases b with
   | nil => rfl
   | cons y l => obtain ⟨b, o, e, _⟩ := hby.2 (by simp); cases e
  subst hb
  exact conv_nilL w c
 | some ad =>
  by_cases h0 : 0 < b.length
  ·obtain ⟨g, o, e, _⟩ := hby.2 h0
   injection e with e
   subst e
   exact conv_back w g o c b hby
  ·have hb : b = [] := List.eq_nil_of_length_eq_zero (by omega)
   subst hb
   exact run_convert_bytes_back (P := Tryz.prog) w 22 9 5 ad c [] Tryz.underlying22 Tryz.underlying5 Tryz.underlying9 (fun j hj => absurd hj (by simp))
def okE (b : Bs) : Bool := ((numA (b.take 10)).2 && (numA ((b.drop 11).take 5)).2 && endB (b.drop 18) && (b[10]? == some 32) && (b[16]? == some 32)) && (b[17]? == some 110 || b[17]? == some 102)
def kindE (b : Bs) : Int := if b[17]? = some 110 then 1 else 0
theorem entry_ok (b : Bs) : entryS b = if okE b = true then some (kindE b, (numA (b.take 10)).1, (numA ((b.drop 11).take 5)).1) else none := by
 unfold entryS okE numA kindE
 cases decS (b.take 10) with
 | none => simp [numO]
 | some a =>
  cases decS ((b.drop 11).take 5) with
  | none => simp [numO]
  | some g => simp [numO]
theorem u8_eq {x : UInt8} {X : Int} (h : X = (x.toNat : Nat)) (y : UInt8) : (x == y) = (X == ((y.toNat : Nat) : Int)) := by
 rw [Bool.eq_iff_iff]
 simp only [beq_iff_eq]
 constructor
 ·rintro rfl; exact h
 ·intro e; exact UInt8.toNat_inj.1 (by omega)
def G8 (T : Nat) (fin : Array Value) (A : Value) (g o : Nat) (ag : Array Value) (a1 a2 en p4 p7 p13 p19 c10 c16 kn kf OK : Bool) (X10 X16 X17 : Int) : Nat → Value → World → Prop := fun j v w => match j with
 | 0 => v = .agg ag
 | 1 | 2 => v = .bool a1
 | 3 => a1 = true → v = .bool a2
 | 4 | 5 => v = .bool p4
 | 6 => p4 = true → v = .bool en
 | 7 | 8 => v = .bool p7
 | 9 => p7 = true → v = A
 | 10 => p7 = true → v = .pointer (some ⟨g, o + 10, none⟩)
 | 11 => p7 = true → v = .int .u8 X10
 | 12 => p7 = true → v = .bool c10
 | 13 | 14 => v = .bool p13
 | 15 => p13 = true → v = A
 | 16 => p13 = true → v = .pointer (some ⟨g, o + 16, none⟩)
 | 17 => p13 = true → v = .int .u8 X16
 | 18 => p13 = true → v = .bool c16
 | 19 | 20 => v = .bool p19
 | 21 => p19 = true → v = A
 | 22 => p19 = true → v = .pointer (some ⟨g, o + 17, none⟩)
 | 23 => p19 = true → v = .int .u8 X17
 | 24 => p19 = true → v = .bool kn
 | 25 => (p19 = true → v = .bool kn) ∧ (p19 = false → v = undef)
 | 26 => p19 = true → kn = false → v = A
 | 27 => p19 = true → kn = false → v = .pointer (some ⟨g, o + 17, none⟩)
 | 28 => p19 = true → kn = false → v = .int .u8 X17
 | 29 => p19 = true → kn = false → v = .bool kf
 | 30 => p19 = true → v = .bool (kn || kf)
 | 32 => Blk w T 64 fin
 | _ => v = .bool OK
theorem G8_mono {T : Nat} {fin : Array Value} {A : Value} {g o : Nat} {ag : Array Value} {a1 a2 en p4 p7 p13 p19 c10 c16 kn kf OK : Bool} {X10 X16 X17 : Int} (j : Nat) (v : Value) (w w' : World) (hG : G8 T fin A g o ag a1 a2 en p4 p7 p13 p19 c10 c16 kn kf OK X10 X16 X17 j v w) (hk : Blk w T 64 fin → Blk w' T 64 fin) : G8 T fin A g o ag a1 a2 en p4 p7 p13 p19 c10 c16 kn kf OK X10 X16 X17 j v w' := by
 unfold G8 at hG ⊢
 split at hG <;> first
  | exact hG
  | exact hk hG
theorem tab_entry (A : Option Addr) (c : Nat) (b : Bs) (hb : b.length = 20) (hc : 20 ≤ c) (W : World) (hby : Byt W A b) : Calls Tryz.prog 62 #[.slice A 20 c] W fun e w' => e = .returned (.tuple #[.agg #[.int .i64 0, .int .i64 (kindE b), .int .i64 (numA (b.take 10)).1, .int .i64 (numA ((b.drop 11).take 5)).1], .bool (okE b)]) ∧ Below W.heap.size W w' := by
 obtain ⟨g, o, hA, hcl⟩ := hby.2 (by omega)
 subst hA
 obtain ⟨W1, hW1, b1, hT⟩ := newB W 64 #[.int .i64 0, .int .i64 0, .int .i64 0, .int .i64 0]
 have hby1 := hby.below b1
 have gl := cell_lt (hcl 0 (by omega))
 have s1 := byt_sub hby1 0 10 (by omega)
 have s2 := byt_sub hby1 11 5 (by omega)
 have s3 := byt_sub hby1 18 2 (by omega)
 rw [List.drop_zero, Nat.add_zero] at s1
 have l1 : (b.take 10).length = 10 := by simp; omega
 have l2 : ((b.drop 11).take 5).length = 5 := by simp; omega
 have l3 : ((b.drop 18).take 2).length = 2 := by simp; omega
 have e3 : (b.drop 18).take 2 = b.drop 18 := List.take_of_length_le (by simp; omega)
 have c1 := fun c => tab_number _ c _ (by omega) W1 s1
 have c2 := fun c => tab_number _ c _ (by omega) W1 s2
 have hcv := fun c => conv_byt (c := c) s3
 rw [l1] at c1
 rw [l2] at c2
 rw [l3, e3] at hcv
 have k10 := (b1.cell (cell_lt (hcl 10 (by omega)))).trans (hcl 10 (by omega))
 have k16 := (b1.cell (cell_lt (hcl 16 (by omega)))).trans (hcl 16 (by omega))
 have k17 := (b1.cell (cell_lt (hcl 17 (by omega)))).trans (hcl 17 (by omega))
 obtain ⟨x10, h10⟩ : ∃ x, x = b[10] := ⟨_, rfl⟩
 obtain ⟨x16, h16⟩ : ∃ x, x = b[16] := ⟨_, rfl⟩
 obtain ⟨x17, h17⟩ : ∃ x, x = b[17] := ⟨_, rfl⟩
 rw [← h10] at k10
 rw [← h16] at k16
 rw [← h17] at k17
 have hok : okE b = (((numA (b.take 10)).2 && (numA ((b.drop 11).take 5)).2 && endB (b.drop 18) && (x10 == 32) && (x16 == 32)) && (x17 == 110 || x17 == 102)) := by
  unfold okE
  rw [List.getElem?_eq_getElem (by omega), List.getElem?_eq_getElem (by omega), List.getElem?_eq_getElem (by omega), ← h10, ← h16, ← h17]
  simp
 have hkd : kindE b = if x17 = 110 then 1 else 0 := by
  unfold kindE
  rw [List.getElem?_eq_getElem (by omega), ← h17]
  simp
 have hen : endB (b.drop 18) = ((⟨(b.drop 18).toArray⟩ : ByteArray).toList == [32, 13] || (⟨(b.drop 18).toArray⟩ : ByteArray).toList == [32, 10] || (⟨(b.drop 18).toArray⟩ : ByteArray).toList == [13, 10]) := by
  rw [ByteArray.toList_eq]; rfl
 obtain ⟨S, hS⟩ : ∃ S : ByteArray, S = ⟨(b.drop 18).toArray⟩ := ⟨_, rfl⟩
 rw [← hS] at hcv hen
 obtain ⟨OK, hOK⟩ : ∃ x, x = okE b := ⟨_, rfl⟩
 obtain ⟨KD, hKD⟩ : ∃ x, x = kindE b := ⟨_, rfl⟩
 rw [← hOK, ← hKD]
 rw [← hOK] at hok
 rw [← hKD] at hkd
 obtain ⟨N1, hN1⟩ : ∃ x, x = numA (b.take 10) := ⟨_, rfl⟩
 obtain ⟨N2, hN2⟩ : ∃ x, x = numA ((b.drop 11).take 5) := ⟨_, rfl⟩
 rw [← hN1, ← hN2]
 rw [← hN1, ← hN2, hen] at hok
 rw [← hN1] at c1
 rw [← hN2] at c2
 obtain ⟨n1, a1⟩ := N1
 obtain ⟨n2, a2⟩ := N2
 obtain ⟨t1, ht1⟩ : ∃ t, t = (S.toList == [32, 13]) := ⟨_, rfl⟩
 obtain ⟨t2, ht2⟩ : ∃ t, t = (S.toList == [32, 10]) := ⟨_, rfl⟩
 obtain ⟨t3, ht3⟩ : ∃ t, t = (S.toList == [13, 10]) := ⟨_, rfl⟩
 rw [← ht1, ← ht2, ← ht3] at hok
 have y10 := u8_lt x10
 have y16 := u8_lt x16
 have y17 := u8_lt x17
 obtain ⟨X10, e10⟩ : ∃ X : Int, X = (x10.toNat : Nat) := ⟨_, rfl⟩
 obtain ⟨X16, e16⟩ : ∃ X : Int, X = (x16.toNat : Nat) := ⟨_, rfl⟩
 obtain ⟨X17, e17⟩ : ∃ X : Int, X = (x17.toNat : Nat) := ⟨_, rfl⟩
 rw [← e10] at k10
 rw [← e16] at k16
 rw [← e17] at k17
 have q10 : (x10 == 32) = (X10 == 32) := u8_eq e10 32
 have q16 : (x16 == 32) = (X16 == 32) := u8_eq e16 32
 have q17 : (x17 == 110) = (X17 == 110) := u8_eq e17 110
 have q172 : (x17 == 102) = (X17 == 102) := u8_eq e17 102
 have hkd2 : KD = if (X17 == 110) = true then 1 else 0 := by rw [hkd, ← q17]; simp
 rw [q10, q16, q17, q172] at hok
 simp only [] at c1 c2 hok ⊢
 refine h6_ hT b1 c1 c2 hok hkd2 ?_; clear hT b1 c1 c2 hok hkd2; intro hT b1 c1 c2 hok hkd2
 replace ht1 := ht1.symm
 replace ht2 := ht2.symm
 replace ht3 := ht3.symm
 clear hkd hen hS hOK hKD hN1 hN2 hby hby1 hcl s1 s2 s3 l1 l2 l3 e3 y10 y16 y17 e10 e16 e17 q10 q16 q17 q172 h10 h16 h17
 obtain ⟨z0, z1, z2, z3, v0, v1, v2, v3⟩ := hT.out.b4
 go_enter Tryz.func62, Tryz.ntmps62
 go_upto_region 1 with fail
 rw [← hW1]
 replace hW1 := hi_ hW1
 go_upto_region 4 with (first | ((first | (go_at_call 88; (with_reducible refine (c1.out _).mono ?_)) | (go_at_call 88; (with_reducible refine (c2.out _).mono ?_))); rintro e w2 ⟨rfl, rfl⟩))
 obtain ⟨W2, hW2, b2, hU⟩ := newB W1 64 #[.int .i64 0, .int .i64 0, .int .i64 n1, .int .i64 n2]
 have hT2 := hT.out.below b2 hT.out.lt
 have r10 := (b2.cell (cell_lt k10)).trans k10
 have r16 := (b2.cell (cell_lt k16)).trans k16
 have r17 := (b2.cell (cell_lt k17)).trans k17
 have zne : W1.heap.size ≠ W.heap.size := by have := hT.out.lt; omega
 obtain ⟨j0, j1, j2, j3, -, i1, -⟩ := hU.b4
 obtain ⟨zz0, zz1, zz2, zz3, vv0, vv1, vv2, vv3⟩ := hT2.b4
 refine h5_ hW2 b2 hU hT2 zne ?_; clear hW2 b2 hU hT2 zne; intro hW2 b2 hU hT2 zne
 obtain ⟨en, hen⟩ : ∃ x, x = (t1 || t2 || t3) := ⟨_, rfl⟩
 obtain ⟨c10, hc10⟩ : ∃ x, x = (X10 == 32) := ⟨_, rfl⟩
 obtain ⟨c16, hc16⟩ : ∃ x, x = (X16 == 32) := ⟨_, rfl⟩
 obtain ⟨kf, hkf⟩ : ∃ x, x = (X17 == 102) := ⟨_, rfl⟩
 obtain ⟨p4, hp4⟩ : ∃ x, x = (a1 && a2) := ⟨_, rfl⟩
 obtain ⟨p7, hp7⟩ : ∃ x, x = (p4 && en) := ⟨_, rfl⟩
 obtain ⟨p13, hp13⟩ : ∃ x, x = (p7 && c10) := ⟨_, rfl⟩
 obtain ⟨p19, hp19⟩ : ∃ x, x = (p13 && c16) := ⟨_, rfl⟩
 have hok2 := hok.out
 rw [← hen, ← hc10, ← hc16, ← hkf, ← hp4, ← hp7, ← hp13, ← hp19] at hok2
 refine h6_ hok2 hen hp4 hp7 hp13 hp19 ?_; clear hok2 hen hp4 hp7 hp13 hp19; intro hok2 hen hp4 hp7 hp13 hp19
 replace hc10 := hc10.symm
 replace hc16 := hc16.symm
 replace hkf := hkf.symm
 clear hok
 go_cut [9] from 26 to 35 (fun s9 wx => s9 = .bool en ∧ wx = W1)
 case first =>
  cases t1 with
  | true =>
   go_wp2
   go_meet
   exact ⟨by rw [hen.out]; rfl, rfl⟩
  | false =>
   cases t2 with
   | true =>
    go_wp2
    go_meet
    exact ⟨by rw [hen.out]; rfl, rfl⟩
   | false =>
    go_wp2
    go_meet
    exact ⟨by rw [hen.out]; rfl, rfl⟩
 case rest =>
 obtain ⟨rfl, hwc⟩ := hcut
 rw [hwc]
 clear hwc
 go_upto_region 6 with fail
 rw [← hW2.out]
 clear z0 z1 z2 z3 v0 v1 v2 v3 k10 k16 k17
 by_cases hx : X17 = 110
 ·subst hx
  obtain rfl : KD = 1 := by rw [hkd2.out]; rfl
  have hOKp := hi_ (show OK = (p19 && (true || kf)) from hok2.out)
  go_upto_region 8 with fail
  obtain ⟨W3, hW3⟩ : ∃ W3, W3 = W2.setCell ⟨W1.heap.size, 1, none⟩ (.int .i64 1) := ⟨_, rfl⟩
  rw [← hW3]
  have hg3 : W2.grownBy W3 (some W1.heap.size) := by rw [hW3]; exact set_grownL _ _ _ _
  have hU3 : Blk W3 W1.heap.size 64 #[.int .i64 0, .int .i64 1, .int .i64 n1, .int .i64 n2] := by rw [hW3]; exact hU.out.set_ 1 _
  have hT3 : Blk W3 W.heap.size 64 #[.int .i64 0, .int .i64 0, .int .i64 0, .int .i64 0] := (hg3.block _ hT2.out.lt (by intro e; injection e with e; have := zne.out; omega)).trans hT2.out
  have hcl3 : ∀ i X, W2.cell? ⟨g, o + i, none⟩ = some (.int .u8 X) → W3.cell? ⟨g, o + i, none⟩ = some (.int .u8 X) := fun i X h => (World.cell?_of_block (a := ⟨g, o + i, none⟩) (hg3.block g (by have := b1.out.size; have := b2.out.size; omega) (by intro e; injection e with e; have := b1.out.size; omega))).trans h
  have s10 := hcl3 _ _ r10
  have s16 := hcl3 _ _ r16
  have s17 := hcl3 _ _ r17
  clear j0 j1 j2 j3 i1 zz0 zz1 zz2 zz3 vv0 vv1 vv2 vv3 r10 r16 r17 hcl3
  obtain ⟨j0, j1, j2, j3, -⟩ := hU3.b4
  obtain ⟨z0, z1, z2, z3, v0, v1, v2, v3⟩ := hT3.b4
  replace hW3 := hi_ hW3
  clear hU3
  refine wp_lin (by kernel_rfl) [none, none, none, some 33, none, none, none, none, none, none, none, none, none, none, none, none, none, none, none, none, none, none, none, none, none, none, none, none, none, none, none, none, none, none, none, none, none, none, none, none, none, none, none, none, some 0, some 1, some 2, some 3, some 4, some 5, some 6, some 7, some 8, some 9, some 10, some 11, some 12, some 13, some 14, some 15, some 16, some 17, some 18, some 19, some 20, some 21, some 22, some 23, some 24, some 25, some 26, some 27, some 28, some 29, some 30, some 31] (fun w' => W3.grownBy w' (some W.heap.size) ∧ (Blk w' W.heap.size 64 #[.int .i64 0, .int .i64 0, .int .i64 0, .int .i64 0] ∨ Blk w' W.heap.size 64 #[.int .i64 0, .int .i64 1, .int .i64 n1, .int .i64 n2])) (fun w' w'' => Blk w' W.heap.size 64 #[.int .i64 0, .int .i64 1, .int .i64 n1, .int .i64 n2] → Blk w'' W.heap.size 64 #[.int .i64 0, .int .i64 1, .int .i64 n1, .int .i64 n2]) (G8 W.heap.size #[.int .i64 0, .int .i64 1, .int .i64 n1, .int .i64 n2] (.slice (some ⟨g, o, none⟩) 20 c) g o #[.int .i64 0, .int .i64 1, .int .i64 n1, .int .i64 n2] a1 a2 en p4 p7 p13 p19 c10 c16 true kf OK X10 X16 110) (by rfl) (by kernel_rfl) 34 (by rfl) ?hR ?mono (.cons 33 (step_of [31, 32, 0, 1, 2, 3, 4, 5, 6, 7, 8, 9, 10, 11, 12, 13, 14, 15, 16, 17, 18, 19, 20, 21, 22, 23, 24, 25, 26, 27, 28, 29, 30] rfl (by kernel_rfl) ?s33) (.cons 32 (step_of [0, 25] rfl (by kernel_rfl) ?s32) (.cons 31 (step_of [20, 30] rfl (by kernel_rfl) ?s31) (.cons 30 (step_of [25, 29, 20] rfl (by kernel_rfl) ?s30) (.cons 29 (step_of [28, 25] rfl (by kernel_rfl) ?s29) (.cons 28 (step_of [27, 25] rfl (by kernel_rfl) ?s28) (.cons 27 (step_of [26, 25] rfl (by kernel_rfl) ?s27) (.cons 26 (step_of [25] rfl (by kernel_rfl) ?s26) (.cons 25 (step_of [24, 20] rfl (by kernel_rfl) ?s25) (.cons 24 (step_of [23, 20] rfl (by kernel_rfl) ?s24) (.cons 23 (step_of [22, 20] rfl (by kernel_rfl) ?s23) (.cons 22 (step_of [21, 20] rfl (by kernel_rfl) ?s22) (.cons 21 (step_of [20] rfl (by kernel_rfl) ?s21) (.cons 20 (step_of [19, 14] rfl (by kernel_rfl) ?s20) (.cons 19 (step_of [14, 18] rfl (by kernel_rfl) ?s19) (.cons 18 (step_of [17, 14] rfl (by kernel_rfl) ?s18) (.cons 17 (step_of [16, 14] rfl (by kernel_rfl) ?s17) (.cons 16 (step_of [15, 14] rfl (by kernel_rfl) ?s16) (.cons 15 (step_of [14] rfl (by kernel_rfl) ?s15) (.cons 14 (step_of [13, 8] rfl (by kernel_rfl) ?s14) (.cons 13 (step_of [8, 12] rfl (by kernel_rfl) ?s13) (.cons 12 (step_of [11, 8] rfl (by kernel_rfl) ?s12) (.cons 11 (step_of [10, 8] rfl (by kernel_rfl) ?s11) (.cons 10 (step_of [9, 8] rfl (by kernel_rfl) ?s10) (.cons 9 (step_of [8] rfl (by kernel_rfl) ?s9) (.cons 8 (step_of [7, 5] rfl (by kernel_rfl) ?s8) (.cons 7 (step_of [5, 6] rfl (by kernel_rfl) ?s7) (.cons 6 (step_of [5] rfl (by kernel_rfl) ?s6) (.cons 5 (step_of [4, 2] rfl (by kernel_rfl) ?s5) (.cons 4 (step_of [2, 3] rfl (by kernel_rfl) ?s4) (.cons 3 (step_of [2] rfl (by kernel_rfl) ?s3) (.cons 2 (step_of [1] rfl (by kernel_rfl) ?s2) (.cons 1 (step_of [] rfl (by kernel_rfl) ?s1) (.cons 0 (step_of [] rfl (by kernel_rfl) ?s0) (.nil))))))))))))))))))))))))))))))))))) ?done
  case hR => exact ⟨⟨rfl, rfl, rfl, Nat.le_refl _, fun _ _ _ => rfl⟩, .inl hT3⟩
  case mono => exact G8_mono
  case' s0 | s1 | s2 | s3 | s4 | s5 | s6 | s7 | s8 | s9 | s10 | s11 | s12 | s13 | s14 | s15 | s16 | s17 | s18 | s19 | s20 | s21 | s22 | s23 | s24 | s25 | s26 | s27 | s28 | s29 | s30 | s31 | s32 | s33 =>
   intro x w' hRw hd K9 hK
   simp only [All, G8] at hd
   simp +decide only [upd, G8, fillL, if_true, if_false] at hK ⊢
  case s0 =>
   have tj0 := (World.cell?_of_block (hRw.1.block _ (cell_lt j0) (by intro e; injection e with e; dsimp only at e; have := zne.out; have := b1.out.size; omega))).trans j0
   have tj1 := (World.cell?_of_block (hRw.1.block _ (cell_lt j1) (by intro e; injection e with e; dsimp only at e; have := zne.out; have := b1.out.size; omega))).trans j1
   have tj2 := (World.cell?_of_block (hRw.1.block _ (cell_lt j2) (by intro e; injection e with e; dsimp only at e; have := zne.out; have := b1.out.size; omega))).trans j2
   have tj3 := (World.cell?_of_block (hRw.1.block _ (cell_lt j3) (by intro e; injection e with e; dsimp only at e; have := zne.out; have := b1.out.size; omega))).trans j3
   go_simp
   have hK2 := hK _ _ ⟨hRw, fun h => h, rfl⟩
   exact hK2
  case s1 =>
   go_simp
   have hK2 := hK _ _ ⟨hRw, fun h => h, rfl⟩
   exact hK2
  case s2 =>
   obtain ⟨e1, _⟩ := hd
   simp only [e1] at hK ⊢
   go_simp
   have hK2 := hK _ _ ⟨hRw, fun h => h, rfl⟩
   exact hK2
  case s3 =>
   obtain ⟨e2, _⟩ := hd
   cases a1 with
   | true =>
    simp only [e2] at hK ⊢
    go_simp
    have hK2 := hK _ _ ⟨hRw, fun h => h, fun _ => rfl⟩
    exact hK2
   | false =>
    simp only [e2] at hK ⊢
    go_simp
    have hK2 := hK undef _ ⟨hRw, fun h => h, fun h => by cases h⟩
    exact hK2
  case s4 =>
   obtain ⟨e2, e3, _⟩ := hd
   cases a1 with
   | true =>
    have f3 := e3 (by first | rfl | trivial)
    simp only [e2, f3] at hK ⊢
    go_simp
    have hK2 := hK _ _ ⟨hRw, fun h => h, by first | (rw [hp4.out]; done) | (rw [hp4.out]; rfl)⟩
    exact hK2
   | false =>
    simp only [e2] at hK ⊢
    go_simp
    have hK2 := hK _ _ ⟨hRw, fun h => h, by first | (rw [hp4.out]; done) | (rw [hp4.out]; rfl)⟩
    exact hK2
  case s5 =>
   obtain ⟨e4, e2, _⟩ := hd
   simp only [e4, e2] at hK ⊢
   go_simp
   have hK2 := hK _ _ ⟨hRw, fun h => h, rfl⟩
   exact hK2
  case s6 =>
   obtain ⟨e5, _⟩ := hd
   cases p4 with
   | true =>
    simp only [e5] at hK ⊢
    go_simp
    have hK2 := hK _ _ ⟨hRw, fun h => h, fun _ => rfl⟩
    exact hK2
   | false =>
    simp only [e5] at hK ⊢
    go_simp
    have hK2 := hK undef _ ⟨hRw, fun h => h, fun h => by cases h⟩
    exact hK2
  case s7 =>
   obtain ⟨e5, e6, _⟩ := hd
   cases p4 with
   | true =>
    have f6 := e6 (by first | rfl | trivial)
    simp only [e5, f6] at hK ⊢
    go_simp
    have hK2 := hK _ _ ⟨hRw, fun h => h, by first | (rw [hp7.out]; done) | (rw [hp7.out]; rfl)⟩
    exact hK2
   | false =>
    simp only [e5] at hK ⊢
    go_simp
    have hK2 := hK _ _ ⟨hRw, fun h => h, by first | (rw [hp7.out]; done) | (rw [hp7.out]; rfl)⟩
    exact hK2
  case s8 =>
   obtain ⟨e7, e5, _⟩ := hd
   simp only [e7, e5] at hK ⊢
   go_simp
   have hK2 := hK _ _ ⟨hRw, fun h => h, rfl⟩
   exact hK2
  case s9 =>
   obtain ⟨e8, _⟩ := hd
   cases p7 with
   | true =>
    simp only [e8] at hK ⊢
    go_simp
    have hK2 := hK _ _ ⟨hRw, fun h => h, fun _ => rfl⟩
    exact hK2
   | false =>
    simp only [e8] at hK ⊢
    go_simp
    have hK2 := hK undef _ ⟨hRw, fun h => h, fun h => by cases h⟩
    exact hK2
  case s10 =>
   obtain ⟨e9, e8, _⟩ := hd
   cases p7 with
   | true =>
    have f9 := e9 (by first | rfl | trivial)
    simp only [f9, e8] at hK ⊢
    go_simp
    have hK2 := hK _ _ ⟨hRw, fun h => h, fun _ => rfl⟩
    exact hK2
   | false =>
    simp only [e8] at hK ⊢
    go_simp
    have hK2 := hK undef _ ⟨hRw, fun h => h, fun h => by cases h⟩
    exact hK2
  case s11 =>
   obtain ⟨e10, e8, _⟩ := hd
   have ts10 := (World.cell?_of_block (hRw.1.block _ (cell_lt s10) (by intro e; injection e with e; dsimp only at e; have := zne.out; have := b1.out.size; omega))).trans s10
   cases p7 with
   | true =>
    have f10 := e10 (by first | rfl | trivial)
    simp only [f10, e8] at hK ⊢
    go_simp
    have hK2 := hK _ _ ⟨hRw, fun h => h, fun _ => rfl⟩
    exact hK2
   | false =>
    simp only [e8] at hK ⊢
    go_simp
    have hK2 := hK undef _ ⟨hRw, fun h => h, fun h => by cases h⟩
    exact hK2
  case s12 =>
   obtain ⟨e11, e8, _⟩ := hd
   cases p7 with
   | true =>
    have f11 := e11 (by first | rfl | trivial)
    simp only [f11, e8] at hK ⊢
    go_simp
    have hK2 := hK _ _ ⟨hRw, fun h => h, fun _ => rfl⟩
    exact hK2
   | false =>
    simp only [e8] at hK ⊢
    go_simp
    have hK2 := hK undef _ ⟨hRw, fun h => h, fun h => by cases h⟩
    exact hK2
  case s13 =>
   obtain ⟨e8, e12, _⟩ := hd
   cases p7 with
   | true =>
    have f12 := e12 (by first | rfl | trivial)
    simp only [e8, f12] at hK ⊢
    go_simp
    have hK2 := hK _ _ ⟨hRw, fun h => h, by first | (rw [hp13.out]; done) | (rw [hp13.out]; rfl)⟩
    exact hK2
   | false =>
    simp only [e8] at hK ⊢
    go_simp
    have hK2 := hK _ _ ⟨hRw, fun h => h, by first | (rw [hp13.out]; done) | (rw [hp13.out]; rfl)⟩
    exact hK2
  case s14 =>
   obtain ⟨e13, e8, _⟩ := hd
   simp only [e13, e8] at hK ⊢
   go_simp
   have hK2 := hK _ _ ⟨hRw, fun h => h, rfl⟩
   exact hK2
  case s15 =>
   obtain ⟨e14, _⟩ := hd
   cases p13 with
   | true =>
    simp only [e14] at hK ⊢
    go_simp
    have hK2 := hK _ _ ⟨hRw, fun h => h, fun _ => rfl⟩
    exact hK2
   | false =>
    simp only [e14] at hK ⊢
    go_simp
    have hK2 := hK undef _ ⟨hRw, fun h => h, fun h => by cases h⟩
    exact hK2
  case s16 =>
   obtain ⟨e15, e14, _⟩ := hd
   cases p13 with
   | true =>
    have f15 := e15 (by first | rfl | trivial)
    simp only [f15, e14] at hK ⊢
    go_simp
    have hK2 := hK _ _ ⟨hRw, fun h => h, fun _ => rfl⟩
    exact hK2
   | false =>
    simp only [e14] at hK ⊢
    go_simp
    have hK2 := hK undef _ ⟨hRw, fun h => h, fun h => by cases h⟩
    exact hK2
  case s17 =>
   obtain ⟨e16, e14, _⟩ := hd
   have ts16 := (World.cell?_of_block (hRw.1.block _ (cell_lt s16) (by intro e; injection e with e; dsimp only at e; have := zne.out; have := b1.out.size; omega))).trans s16
   cases p13 with
   | true =>
    have f16 := e16 (by first | rfl | trivial)
    simp only [f16, e14] at hK ⊢
    go_simp
    have hK2 := hK _ _ ⟨hRw, fun h => h, fun _ => rfl⟩
    exact hK2
   | false =>
    simp only [e14] at hK ⊢
    go_simp
    have hK2 := hK undef _ ⟨hRw, fun h => h, fun h => by cases h⟩
    exact hK2
  case s18 =>
   obtain ⟨e17, e14, _⟩ := hd
   cases p13 with
   | true =>
    have f17 := e17 (by first | rfl | trivial)
    simp only [f17, e14] at hK ⊢
    go_simp
    have hK2 := hK _ _ ⟨hRw, fun h => h, fun _ => rfl⟩
    exact hK2
   | false =>
    simp only [e14] at hK ⊢
    go_simp
    have hK2 := hK undef _ ⟨hRw, fun h => h, fun h => by cases h⟩
    exact hK2
  case s19 =>
   obtain ⟨e14, e18, _⟩ := hd
   cases p13 with
   | true =>
    have f18 := e18 (by first | rfl | trivial)
    simp only [e14, f18] at hK ⊢
    go_simp
    have hK2 := hK _ _ ⟨hRw, fun h => h, by first | (rw [hp19.out]; done) | (rw [hp19.out]; rfl)⟩
    exact hK2
   | false =>
    simp only [e14] at hK ⊢
    go_simp
    have hK2 := hK _ _ ⟨hRw, fun h => h, by first | (rw [hp19.out]; done) | (rw [hp19.out]; rfl)⟩
    exact hK2
  case s20 =>
   obtain ⟨e19, e14, _⟩ := hd
   simp only [e19, e14] at hK ⊢
   go_simp
   have hK2 := hK _ _ ⟨hRw, fun h => h, rfl⟩
   exact hK2
  case s21 =>
   obtain ⟨e20, _⟩ := hd
   cases p19 with
   | true =>
    simp only [e20] at hK ⊢
    go_simp
    have hK2 := hK _ _ ⟨hRw, fun h => h, fun _ => rfl⟩
    exact hK2
   | false =>
    simp only [e20] at hK ⊢
    go_simp
    have hK2 := hK undef _ ⟨hRw, fun h => h, fun h => by cases h⟩
    exact hK2
  case s22 =>
   obtain ⟨e21, e20, _⟩ := hd
   cases p19 with
   | true =>
    have f21 := e21 (by first | rfl | trivial)
    simp only [f21, e20] at hK ⊢
    go_simp
    have hK2 := hK _ _ ⟨hRw, fun h => h, fun _ => rfl⟩
    exact hK2
   | false =>
    simp only [e20] at hK ⊢
    go_simp
    have hK2 := hK undef _ ⟨hRw, fun h => h, fun h => by cases h⟩
    exact hK2
  case s23 =>
   obtain ⟨e22, e20, _⟩ := hd
   have ts17 := (World.cell?_of_block (hRw.1.block _ (cell_lt s17) (by intro e; injection e with e; dsimp only at e; have := zne.out; have := b1.out.size; omega))).trans s17
   cases p19 with
   | true =>
    have f22 := e22 (by first | rfl | trivial)
    simp only [f22, e20] at hK ⊢
    go_simp
    have hK2 := hK _ _ ⟨hRw, fun h => h, fun _ => rfl⟩
    exact hK2
   | false =>
    simp only [e20] at hK ⊢
    go_simp
    have hK2 := hK undef _ ⟨hRw, fun h => h, fun h => by cases h⟩
    exact hK2
  case s24 =>
   obtain ⟨e23, e20, _⟩ := hd
   cases p19 with
   | true =>
    have f23 := e23 (by first | rfl | trivial)
    simp only [f23, e20] at hK ⊢
    go_simp
    have hK2 := hK _ _ ⟨hRw, fun h => h, fun _ => rfl⟩
    exact hK2
   | false =>
    simp only [e20] at hK ⊢
    go_simp
    have hK2 := hK undef _ ⟨hRw, fun h => h, fun h => by cases h⟩
    exact hK2
  case s25 =>
   obtain ⟨e24, e20, _⟩ := hd
   cases p19 with
   | true =>
    have f24 := e24 (by first | rfl | trivial)
    simp only [f24, e20] at hK ⊢
    go_simp
    have hK2 := hK (Value.bool true) _ ⟨hRw, fun h => h, by simp⟩
    exact hK2
   | false =>
    simp only [e20] at hK ⊢
    go_simp
    have hK2 := hK undef _ ⟨hRw, fun h => h, by simp⟩
    exact hK2
  case s26 =>
   obtain ⟨e25, _⟩ := hd
   cases p19 with
   | true =>
    have f25 := e25.1 rfl
    simp only [f25] at hK ⊢
    go_simp
    have hK2 := hK undef _ ⟨hRw, fun h => h, fun _ h => by cases h⟩
    exact hK2
   | false =>
    have f25 := e25.2 rfl
    simp only [f25] at hK ⊢
    go_simp
    have hK2 := hK undef _ ⟨hRw, fun h => h, fun h => by cases h⟩
    exact hK2
  case s27 =>
   obtain ⟨e26, e25, _⟩ := hd
   cases p19 with
   | true =>
    have f25 := e25.1 rfl
    simp only [f25] at hK ⊢
    go_simp
    have hK2 := hK undef _ ⟨hRw, fun h => h, fun _ h => by cases h⟩
    exact hK2
   | false =>
    have f25 := e25.2 rfl
    simp only [f25] at hK ⊢
    go_simp
    have hK2 := hK undef _ ⟨hRw, fun h => h, fun h => by cases h⟩
    exact hK2
  case s28 =>
   obtain ⟨e27, e25, _⟩ := hd
   have ts17 := (World.cell?_of_block (hRw.1.block _ (cell_lt s17) (by intro e; injection e with e; dsimp only at e; have := zne.out; have := b1.out.size; omega))).trans s17
   cases p19 with
   | true =>
    have f25 := e25.1 rfl
    simp only [f25] at hK ⊢
    go_simp
    have hK2 := hK undef _ ⟨hRw, fun h => h, fun _ h => by cases h⟩
    exact hK2
   | false =>
    have f25 := e25.2 rfl
    simp only [f25] at hK ⊢
    go_simp
    have hK2 := hK undef _ ⟨hRw, fun h => h, fun h => by cases h⟩
    exact hK2
  case s29 =>
   obtain ⟨e28, e25, _⟩ := hd
   cases p19 with
   | true =>
    have f25 := e25.1 rfl
    simp only [f25] at hK ⊢
    go_simp
    have hK2 := hK undef _ ⟨hRw, fun h => h, fun _ h => by cases h⟩
    exact hK2
   | false =>
    have f25 := e25.2 rfl
    simp only [f25] at hK ⊢
    go_simp
    have hK2 := hK undef _ ⟨hRw, fun h => h, fun h => by cases h⟩
    exact hK2
  case s30 =>
   obtain ⟨e25, e29, e20, _⟩ := hd
   cases p19 with
   | true =>
    have f25 := e25.1 rfl
    simp only [f25, e20] at hK ⊢
    go_simp
    have hK2 := hK _ _ ⟨hRw, fun h => h, fun _ => rfl⟩
    exact hK2
   | false =>
    have f25 := e25.2 rfl
    simp only [f25, e20] at hK ⊢
    go_simp
    have hK2 := hK undef _ ⟨hRw, fun h => h, fun h => by cases h⟩
    exact hK2
  case s31 =>
   obtain ⟨e20, e30, _⟩ := hd
   cases p19 with
   | true =>
    have f30 := e30 (by first | rfl | trivial)
    simp only [e20, f30] at hK ⊢
    go_simp
    have hK2 := hK _ _ ⟨hRw, fun h => h, by first | (rw [hOKp.out]; done) | (rw [hOKp.out]; rfl)⟩
    exact hK2
   | false =>
    simp only [e20] at hK ⊢
    go_simp
    have hK2 := hK _ _ ⟨hRw, fun h => h, by first | (rw [hOKp.out]; done) | (rw [hOKp.out]; rfl)⟩
    exact hK2
  case s32 =>
   obtain ⟨e0, e25, _⟩ := hd
   simp only [e0] at hK ⊢
   obtain ⟨hgw, hbl⟩ := hRw
   rcases hbl with hbl | hbl
   ·obtain ⟨z0, z1, z2, z3, v0, v1, v2, v3⟩ := hbl.b4
    go_simp
    generalize hWf : World.setCell _ _ _ = Wf
    replace hWf := hWf.symm
    obtain ⟨hbf, hgf⟩ := set4L hbl hWf
    have hK2 := hK undef Wf ⟨⟨hgw.trans hgf, .inr hbf⟩, fun _ => hbf, hbf⟩
    exact hK2
   ·obtain ⟨z0, z1, z2, z3, v0, v1, v2, v3⟩ := hbl.b4
    go_simp
    generalize hWf : World.setCell _ _ _ = Wf
    replace hWf := hWf.symm
    obtain ⟨hbf, hgf⟩ := set4L hbl hWf
    have hK2 := hK undef Wf ⟨⟨hgw.trans hgf, .inr hbf⟩, fun _ => hbf, hbf⟩
    exact hK2
  case s33 =>
   obtain ⟨e31, -⟩ := hd
   simp only [e31] at hK ⊢
   go_simp
   have hK2 := hK _ _ ⟨hRw, fun h => h, rfl⟩
   exact hK2
  case done =>
   intro x w7 hR2' hG
   have d32 := hG 32 (by omega)
   have d33 := hG 33 (by omega)
   simp only [G8] at d32 d33
   clear hG
   simp only [fillL]
   rw [d33]
   obtain ⟨u0, u1, u2, u3, -⟩ := d32.b4
   have hBf := hi_ (((bthen b1.out b2.out).grown hg3 (bthen b1.out b2.out).size (fun q hq => by injection hq with hq; have := b1.out.size; omega)).grown hR2'.1 (by have := (bthen b1.out b2.out).size; have := hg3.size; omega) (fun q hq => by injection hq with hq; omega))
   replace hR2' := hi_ hR2'
   clear d32 d33 z0 z1 z2 z3 v0 v1 v2 v3 j0 j1 j2 j3
   go_wp2
   refine bodyPost_ret (by simp [results, Tryz.results62, go_sem, u0, u1, u2, u3]; try rfl) rfl ?_
   exact ⟨rfl, hBf.out⟩


 ·have hkn : (X17 == 110) = false := beq_eq_false_iff_ne.2 hx
  obtain rfl : KD = 0 := by rw [hkd2.out, hkn]; rfl
  have hOKp := hi_ (show OK = (p19 && (false || kf)) from by rw [hok2.out, hkn])
  replace hx := hi_ hx
  go_upto_region 8 with fail
  obtain ⟨W3, hW3⟩ : ∃ W3, W3 = W2 := ⟨_, rfl⟩
  rw [← hW3]
  have hg3 : W2.grownBy W3 (some W1.heap.size) := by rw [hW3]; exact ⟨rfl, rfl, rfl, Nat.le_refl _, fun _ _ _ => rfl⟩
  have hU3 : Blk W3 W1.heap.size 64 #[.int .i64 0, .int .i64 0, .int .i64 n1, .int .i64 n2] := by rw [hW3]; exact hU.out
  have hT3 : Blk W3 W.heap.size 64 #[.int .i64 0, .int .i64 0, .int .i64 0, .int .i64 0] := (hg3.block _ hT2.out.lt (by intro e; injection e with e; have := zne.out; omega)).trans hT2.out
  have hcl3 : ∀ i X, W2.cell? ⟨g, o + i, none⟩ = some (.int .u8 X) → W3.cell? ⟨g, o + i, none⟩ = some (.int .u8 X) := fun i X h => (World.cell?_of_block (a := ⟨g, o + i, none⟩) (hg3.block g (by have := b1.out.size; have := b2.out.size; omega) (by intro e; injection e with e; have := b1.out.size; omega))).trans h
  have s10 := hcl3 _ _ r10
  have s16 := hcl3 _ _ r16
  have s17 := hcl3 _ _ r17
  clear j0 j1 j2 j3 i1 zz0 zz1 zz2 zz3 vv0 vv1 vv2 vv3 r10 r16 r17 hcl3
  obtain ⟨j0, j1, j2, j3, -⟩ := hU3.b4
  obtain ⟨z0, z1, z2, z3, v0, v1, v2, v3⟩ := hT3.b4
  replace hW3 := hi_ hW3
  clear hU3
  refine wp_lin (by kernel_rfl) [none, none, none, some 33, none, none, none, none, none, none, none, none, none, none, none, none, none, none, none, none, none, none, none, none, none, none, none, none, none, none, none, none, none, none, none, none, none, none, none, none, none, none, none, none, some 0, some 1, some 2, some 3, some 4, some 5, some 6, some 7, some 8, some 9, some 10, some 11, some 12, some 13, some 14, some 15, some 16, some 17, some 18, some 19, some 20, some 21, some 22, some 23, some 24, some 25, some 26, some 27, some 28, some 29, some 30, some 31] (fun w' => W3.grownBy w' (some W.heap.size) ∧ (Blk w' W.heap.size 64 #[.int .i64 0, .int .i64 0, .int .i64 0, .int .i64 0] ∨ Blk w' W.heap.size 64 #[.int .i64 0, .int .i64 0, .int .i64 n1, .int .i64 n2])) (fun w' w'' => Blk w' W.heap.size 64 #[.int .i64 0, .int .i64 0, .int .i64 n1, .int .i64 n2] → Blk w'' W.heap.size 64 #[.int .i64 0, .int .i64 0, .int .i64 n1, .int .i64 n2]) (G8 W.heap.size #[.int .i64 0, .int .i64 0, .int .i64 n1, .int .i64 n2] (.slice (some ⟨g, o, none⟩) 20 c) g o #[.int .i64 0, .int .i64 0, .int .i64 n1, .int .i64 n2] a1 a2 en p4 p7 p13 p19 c10 c16 false kf OK X10 X16 X17) (by rfl) (by kernel_rfl) 34 (by rfl) ?hR ?mono (.cons 33 (step_of [31, 32, 0, 1, 2, 3, 4, 5, 6, 7, 8, 9, 10, 11, 12, 13, 14, 15, 16, 17, 18, 19, 20, 21, 22, 23, 24, 25, 26, 27, 28, 29, 30] rfl (by kernel_rfl) ?s33) (.cons 32 (step_of [0, 25] rfl (by kernel_rfl) ?s32) (.cons 31 (step_of [20, 30] rfl (by kernel_rfl) ?s31) (.cons 30 (step_of [25, 29, 20] rfl (by kernel_rfl) ?s30) (.cons 29 (step_of [28, 25] rfl (by kernel_rfl) ?s29) (.cons 28 (step_of [27, 25] rfl (by kernel_rfl) ?s28) (.cons 27 (step_of [26, 25] rfl (by kernel_rfl) ?s27) (.cons 26 (step_of [25] rfl (by kernel_rfl) ?s26) (.cons 25 (step_of [24, 20] rfl (by kernel_rfl) ?s25) (.cons 24 (step_of [23, 20] rfl (by kernel_rfl) ?s24) (.cons 23 (step_of [22, 20] rfl (by kernel_rfl) ?s23) (.cons 22 (step_of [21, 20] rfl (by kernel_rfl) ?s22) (.cons 21 (step_of [20] rfl (by kernel_rfl) ?s21) (.cons 20 (step_of [19, 14] rfl (by kernel_rfl) ?s20) (.cons 19 (step_of [14, 18] rfl (by kernel_rfl) ?s19) (.cons 18 (step_of [17, 14] rfl (by kernel_rfl) ?s18) (.cons 17 (step_of [16, 14] rfl (by kernel_rfl) ?s17) (.cons 16 (step_of [15, 14] rfl (by kernel_rfl) ?s16) (.cons 15 (step_of [14] rfl (by kernel_rfl) ?s15) (.cons 14 (step_of [13, 8] rfl (by kernel_rfl) ?s14) (.cons 13 (step_of [8, 12] rfl (by kernel_rfl) ?s13) (.cons 12 (step_of [11, 8] rfl (by kernel_rfl) ?s12) (.cons 11 (step_of [10, 8] rfl (by kernel_rfl) ?s11) (.cons 10 (step_of [9, 8] rfl (by kernel_rfl) ?s10) (.cons 9 (step_of [8] rfl (by kernel_rfl) ?s9) (.cons 8 (step_of [7, 5] rfl (by kernel_rfl) ?s8) (.cons 7 (step_of [5, 6] rfl (by kernel_rfl) ?s7) (.cons 6 (step_of [5] rfl (by kernel_rfl) ?s6) (.cons 5 (step_of [4, 2] rfl (by kernel_rfl) ?s5) (.cons 4 (step_of [2, 3] rfl (by kernel_rfl) ?s4) (.cons 3 (step_of [2] rfl (by kernel_rfl) ?s3) (.cons 2 (step_of [1] rfl (by kernel_rfl) ?s2) (.cons 1 (step_of [] rfl (by kernel_rfl) ?s1) (.cons 0 (step_of [] rfl (by kernel_rfl) ?s0) (.nil))))))))))))))))))))))))))))))))))) ?done
  case hR => exact ⟨⟨rfl, rfl, rfl, Nat.le_refl _, fun _ _ _ => rfl⟩, .inl hT3⟩
  case mono => exact G8_mono
  case' s0 | s1 | s2 | s3 | s4 | s5 | s6 | s7 | s8 | s9 | s10 | s11 | s12 | s13 | s14 | s15 | s16 | s17 | s18 | s19 | s20 | s21 | s22 | s23 | s24 | s25 | s26 | s27 | s28 | s29 | s30 | s31 | s32 | s33 =>
   intro x w' hRw hd K9 hK
   simp only [All, G8] at hd
   simp +decide only [upd, G8, fillL, if_true, if_false] at hK ⊢
  case s0 =>
   have tj0 := (World.cell?_of_block (hRw.1.block _ (cell_lt j0) (by intro e; injection e with e; dsimp only at e; have := zne.out; have := b1.out.size; omega))).trans j0
   have tj1 := (World.cell?_of_block (hRw.1.block _ (cell_lt j1) (by intro e; injection e with e; dsimp only at e; have := zne.out; have := b1.out.size; omega))).trans j1
   have tj2 := (World.cell?_of_block (hRw.1.block _ (cell_lt j2) (by intro e; injection e with e; dsimp only at e; have := zne.out; have := b1.out.size; omega))).trans j2
   have tj3 := (World.cell?_of_block (hRw.1.block _ (cell_lt j3) (by intro e; injection e with e; dsimp only at e; have := zne.out; have := b1.out.size; omega))).trans j3
   go_simp
   have hK2 := hK _ _ ⟨hRw, fun h => h, rfl⟩
   exact hK2
  case s1 =>
   go_simp
   have hK2 := hK _ _ ⟨hRw, fun h => h, rfl⟩
   exact hK2
  case s2 =>
   obtain ⟨e1, _⟩ := hd
   simp only [e1] at hK ⊢
   go_simp
   have hK2 := hK _ _ ⟨hRw, fun h => h, rfl⟩
   exact hK2
  case s3 =>
   obtain ⟨e2, _⟩ := hd
   cases a1 with
   | true =>
    simp only [e2] at hK ⊢
    go_simp
    have hK2 := hK _ _ ⟨hRw, fun h => h, fun _ => rfl⟩
    exact hK2
   | false =>
    simp only [e2] at hK ⊢
    go_simp
    have hK2 := hK undef _ ⟨hRw, fun h => h, fun h => by cases h⟩
    exact hK2
  case s4 =>
   obtain ⟨e2, e3, _⟩ := hd
   cases a1 with
   | true =>
    have f3 := e3 (by first | rfl | trivial)
    simp only [e2, f3] at hK ⊢
    go_simp
    have hK2 := hK _ _ ⟨hRw, fun h => h, by first | (rw [hp4.out]; done) | (rw [hp4.out]; rfl)⟩
    exact hK2
   | false =>
    simp only [e2] at hK ⊢
    go_simp
    have hK2 := hK _ _ ⟨hRw, fun h => h, by first | (rw [hp4.out]; done) | (rw [hp4.out]; rfl)⟩
    exact hK2
  case s5 =>
   obtain ⟨e4, e2, _⟩ := hd
   simp only [e4, e2] at hK ⊢
   go_simp
   have hK2 := hK _ _ ⟨hRw, fun h => h, rfl⟩
   exact hK2
  case s6 =>
   obtain ⟨e5, _⟩ := hd
   cases p4 with
   | true =>
    simp only [e5] at hK ⊢
    go_simp
    have hK2 := hK _ _ ⟨hRw, fun h => h, fun _ => rfl⟩
    exact hK2
   | false =>
    simp only [e5] at hK ⊢
    go_simp
    have hK2 := hK undef _ ⟨hRw, fun h => h, fun h => by cases h⟩
    exact hK2
  case s7 =>
   obtain ⟨e5, e6, _⟩ := hd
   cases p4 with
   | true =>
    have f6 := e6 (by first | rfl | trivial)
    simp only [e5, f6] at hK ⊢
    go_simp
    have hK2 := hK _ _ ⟨hRw, fun h => h, by first | (rw [hp7.out]; done) | (rw [hp7.out]; rfl)⟩
    exact hK2
   | false =>
    simp only [e5] at hK ⊢
    go_simp
    have hK2 := hK _ _ ⟨hRw, fun h => h, by first | (rw [hp7.out]; done) | (rw [hp7.out]; rfl)⟩
    exact hK2
  case s8 =>
   obtain ⟨e7, e5, _⟩ := hd
   simp only [e7, e5] at hK ⊢
   go_simp
   have hK2 := hK _ _ ⟨hRw, fun h => h, rfl⟩
   exact hK2
  case s9 =>
   obtain ⟨e8, _⟩ := hd
   cases p7 with
   | true =>
    simp only [e8] at hK ⊢
    go_simp
    have hK2 := hK _ _ ⟨hRw, fun h => h, fun _ => rfl⟩
    exact hK2
   | false =>
    simp only [e8] at hK ⊢
    go_simp
    have hK2 := hK undef _ ⟨hRw, fun h => h, fun h => by cases h⟩
    exact hK2
  case s10 =>
   obtain ⟨e9, e8, _⟩ := hd
   cases p7 with
   | true =>
    have f9 := e9 (by first | rfl | trivial)
    simp only [f9, e8] at hK ⊢
    go_simp
    have hK2 := hK _ _ ⟨hRw, fun h => h, fun _ => rfl⟩
    exact hK2
   | false =>
    simp only [e8] at hK ⊢
    go_simp
    have hK2 := hK undef _ ⟨hRw, fun h => h, fun h => by cases h⟩
    exact hK2
  case s11 =>
   obtain ⟨e10, e8, _⟩ := hd
   have ts10 := (World.cell?_of_block (hRw.1.block _ (cell_lt s10) (by intro e; injection e with e; dsimp only at e; have := zne.out; have := b1.out.size; omega))).trans s10
   cases p7 with
   | true =>
    have f10 := e10 (by first | rfl | trivial)
    simp only [f10, e8] at hK ⊢
    go_simp
    have hK2 := hK _ _ ⟨hRw, fun h => h, fun _ => rfl⟩
    exact hK2
   | false =>
    simp only [e8] at hK ⊢
    go_simp
    have hK2 := hK undef _ ⟨hRw, fun h => h, fun h => by cases h⟩
    exact hK2
  case s12 =>
   obtain ⟨e11, e8, _⟩ := hd
   cases p7 with
   | true =>
    have f11 := e11 (by first | rfl | trivial)
    simp only [f11, e8] at hK ⊢
    go_simp
    have hK2 := hK _ _ ⟨hRw, fun h => h, fun _ => rfl⟩
    exact hK2
   | false =>
    simp only [e8] at hK ⊢
    go_simp
    have hK2 := hK undef _ ⟨hRw, fun h => h, fun h => by cases h⟩
    exact hK2
  case s13 =>
   obtain ⟨e8, e12, _⟩ := hd
   cases p7 with
   | true =>
    have f12 := e12 (by first | rfl | trivial)
    simp only [e8, f12] at hK ⊢
    go_simp
    have hK2 := hK _ _ ⟨hRw, fun h => h, by first | (rw [hp13.out]; done) | (rw [hp13.out]; rfl)⟩
    exact hK2
   | false =>
    simp only [e8] at hK ⊢
    go_simp
    have hK2 := hK _ _ ⟨hRw, fun h => h, by first | (rw [hp13.out]; done) | (rw [hp13.out]; rfl)⟩
    exact hK2
  case s14 =>
   obtain ⟨e13, e8, _⟩ := hd
   simp only [e13, e8] at hK ⊢
   go_simp
   have hK2 := hK _ _ ⟨hRw, fun h => h, rfl⟩
   exact hK2
  case s15 =>
   obtain ⟨e14, _⟩ := hd
   cases p13 with
   | true =>
    simp only [e14] at hK ⊢
    go_simp
    have hK2 := hK _ _ ⟨hRw, fun h => h, fun _ => rfl⟩
    exact hK2
   | false =>
    simp only [e14] at hK ⊢
    go_simp
    have hK2 := hK undef _ ⟨hRw, fun h => h, fun h => by cases h⟩
    exact hK2
  case s16 =>
   obtain ⟨e15, e14, _⟩ := hd
   cases p13 with
   | true =>
    have f15 := e15 (by first | rfl | trivial)
    simp only [f15, e14] at hK ⊢
    go_simp
    have hK2 := hK _ _ ⟨hRw, fun h => h, fun _ => rfl⟩
    exact hK2
   | false =>
    simp only [e14] at hK ⊢
    go_simp
    have hK2 := hK undef _ ⟨hRw, fun h => h, fun h => by cases h⟩
    exact hK2
  case s17 =>
   obtain ⟨e16, e14, _⟩ := hd
   have ts16 := (World.cell?_of_block (hRw.1.block _ (cell_lt s16) (by intro e; injection e with e; dsimp only at e; have := zne.out; have := b1.out.size; omega))).trans s16
   cases p13 with
   | true =>
    have f16 := e16 (by first | rfl | trivial)
    simp only [f16, e14] at hK ⊢
    go_simp
    have hK2 := hK _ _ ⟨hRw, fun h => h, fun _ => rfl⟩
    exact hK2
   | false =>
    simp only [e14] at hK ⊢
    go_simp
    have hK2 := hK undef _ ⟨hRw, fun h => h, fun h => by cases h⟩
    exact hK2
  case s18 =>
   obtain ⟨e17, e14, _⟩ := hd
   cases p13 with
   | true =>
    have f17 := e17 (by first | rfl | trivial)
    simp only [f17, e14] at hK ⊢
    go_simp
    have hK2 := hK _ _ ⟨hRw, fun h => h, fun _ => rfl⟩
    exact hK2
   | false =>
    simp only [e14] at hK ⊢
    go_simp
    have hK2 := hK undef _ ⟨hRw, fun h => h, fun h => by cases h⟩
    exact hK2
  case s19 =>
   obtain ⟨e14, e18, _⟩ := hd
   cases p13 with
   | true =>
    have f18 := e18 (by first | rfl | trivial)
    simp only [e14, f18] at hK ⊢
    go_simp
    have hK2 := hK _ _ ⟨hRw, fun h => h, by first | (rw [hp19.out]; done) | (rw [hp19.out]; rfl)⟩
    exact hK2
   | false =>
    simp only [e14] at hK ⊢
    go_simp
    have hK2 := hK _ _ ⟨hRw, fun h => h, by first | (rw [hp19.out]; done) | (rw [hp19.out]; rfl)⟩
    exact hK2
  case s20 =>
   obtain ⟨e19, e14, _⟩ := hd
   simp only [e19, e14] at hK ⊢
   go_simp
   have hK2 := hK _ _ ⟨hRw, fun h => h, rfl⟩
   exact hK2
  case s21 =>
   obtain ⟨e20, _⟩ := hd
   cases p19 with
   | true =>
    simp only [e20] at hK ⊢
    go_simp
    have hK2 := hK _ _ ⟨hRw, fun h => h, fun _ => rfl⟩
    exact hK2
   | false =>
    simp only [e20] at hK ⊢
    go_simp
    have hK2 := hK undef _ ⟨hRw, fun h => h, fun h => by cases h⟩
    exact hK2
  case s22 =>
   obtain ⟨e21, e20, _⟩ := hd
   cases p19 with
   | true =>
    have f21 := e21 (by first | rfl | trivial)
    simp only [f21, e20] at hK ⊢
    go_simp
    have hK2 := hK _ _ ⟨hRw, fun h => h, fun _ => rfl⟩
    exact hK2
   | false =>
    simp only [e20] at hK ⊢
    go_simp
    have hK2 := hK undef _ ⟨hRw, fun h => h, fun h => by cases h⟩
    exact hK2
  case s23 =>
   obtain ⟨e22, e20, _⟩ := hd
   have ts17 := (World.cell?_of_block (hRw.1.block _ (cell_lt s17) (by intro e; injection e with e; dsimp only at e; have := zne.out; have := b1.out.size; omega))).trans s17
   cases p19 with
   | true =>
    have f22 := e22 (by first | rfl | trivial)
    simp only [f22, e20] at hK ⊢
    go_simp
    have hK2 := hK _ _ ⟨hRw, fun h => h, fun _ => rfl⟩
    exact hK2
   | false =>
    simp only [e20] at hK ⊢
    go_simp
    have hK2 := hK undef _ ⟨hRw, fun h => h, fun h => by cases h⟩
    exact hK2
  case s24 =>
   obtain ⟨e23, e20, _⟩ := hd
   cases p19 with
   | true =>
    have f23 := e23 (by first | rfl | trivial)
    simp only [f23, e20] at hK ⊢
    go_simp
    have hK2 := hK _ _ ⟨hRw, fun h => h, fun _ => rfl⟩
    exact hK2
   | false =>
    simp only [e20] at hK ⊢
    go_simp
    have hK2 := hK undef _ ⟨hRw, fun h => h, fun h => by cases h⟩
    exact hK2
  case s25 =>
   obtain ⟨e24, e20, _⟩ := hd
   cases p19 with
   | true =>
    have f24 := e24 (by first | rfl | trivial)
    simp only [f24, e20] at hK ⊢
    go_simp
    have hK2 := hK (Value.bool false) _ ⟨hRw, fun h => h, by simp⟩
    exact hK2
   | false =>
    simp only [e20] at hK ⊢
    go_simp
    have hK2 := hK undef _ ⟨hRw, fun h => h, by simp⟩
    exact hK2
  case s26 =>
   obtain ⟨e25, _⟩ := hd
   cases p19 with
   | true =>
    have f25 := e25.1 rfl
    simp only [f25] at hK ⊢
    go_simp
    have hK2 := hK _ _ ⟨hRw, fun h => h, fun _ _ => rfl⟩
    exact hK2
   | false =>
    have f25 := e25.2 rfl
    simp only [f25] at hK ⊢
    go_simp
    have hK2 := hK undef _ ⟨hRw, fun h => h, fun h => by cases h⟩
    exact hK2
  case s27 =>
   obtain ⟨e26, e25, _⟩ := hd
   cases p19 with
   | true =>
    have f26 := e26 (by first | rfl | trivial) (by first | rfl | trivial)
    have f25 := e25.1 rfl
    simp only [f26, f25] at hK ⊢
    go_simp
    have hK2 := hK _ _ ⟨hRw, fun h => h, fun _ _ => rfl⟩
    exact hK2
   | false =>
    have f25 := e25.2 rfl
    simp only [f25] at hK ⊢
    go_simp
    have hK2 := hK undef _ ⟨hRw, fun h => h, fun h => by cases h⟩
    exact hK2
  case s28 =>
   obtain ⟨e27, e25, _⟩ := hd
   have ts17 := (World.cell?_of_block (hRw.1.block _ (cell_lt s17) (by intro e; injection e with e; dsimp only at e; have := zne.out; have := b1.out.size; omega))).trans s17
   cases p19 with
   | true =>
    have f27 := e27 (by first | rfl | trivial) (by first | rfl | trivial)
    have f25 := e25.1 rfl
    simp only [f27, f25] at hK ⊢
    go_simp
    have hK2 := hK _ _ ⟨hRw, fun h => h, fun _ _ => rfl⟩
    exact hK2
   | false =>
    have f25 := e25.2 rfl
    simp only [f25] at hK ⊢
    go_simp
    have hK2 := hK undef _ ⟨hRw, fun h => h, fun h => by cases h⟩
    exact hK2
  case s29 =>
   obtain ⟨e28, e25, _⟩ := hd
   cases p19 with
   | true =>
    have f28 := e28 (by first | rfl | trivial) (by first | rfl | trivial)
    have f25 := e25.1 rfl
    simp only [f28, f25] at hK ⊢
    go_simp
    have hK2 := hK _ _ ⟨hRw, fun h => h, fun _ _ => rfl⟩
    exact hK2
   | false =>
    have f25 := e25.2 rfl
    simp only [f25] at hK ⊢
    go_simp
    have hK2 := hK undef _ ⟨hRw, fun h => h, fun h => by cases h⟩
    exact hK2
  case s30 =>
   obtain ⟨e25, e29, e20, _⟩ := hd
   cases p19 with
   | true =>
    have f25 := e25.1 rfl
    have f29 := e29 (by first | rfl | trivial) (by first | rfl | trivial)
    simp only [f25, f29, e20] at hK ⊢
    go_simp
    have hK2 := hK _ _ ⟨hRw, fun h => h, fun _ => rfl⟩
    exact hK2
   | false =>
    have f25 := e25.2 rfl
    simp only [f25, e20] at hK ⊢
    go_simp
    have hK2 := hK undef _ ⟨hRw, fun h => h, fun h => by cases h⟩
    exact hK2
  case s31 =>
   obtain ⟨e20, e30, _⟩ := hd
   cases p19 with
   | true =>
    have f30 := e30 (by first | rfl | trivial)
    simp only [e20, f30] at hK ⊢
    go_simp
    have hK2 := hK _ _ ⟨hRw, fun h => h, by first | (rw [hOKp.out]; done) | (rw [hOKp.out]; rfl)⟩
    exact hK2
   | false =>
    simp only [e20] at hK ⊢
    go_simp
    have hK2 := hK _ _ ⟨hRw, fun h => h, by first | (rw [hOKp.out]; done) | (rw [hOKp.out]; rfl)⟩
    exact hK2
  case s32 =>
   obtain ⟨e0, e25, _⟩ := hd
   simp only [e0] at hK ⊢
   obtain ⟨hgw, hbl⟩ := hRw
   rcases hbl with hbl | hbl
   ·obtain ⟨z0, z1, z2, z3, v0, v1, v2, v3⟩ := hbl.b4
    go_simp
    generalize hWf : World.setCell _ _ _ = Wf
    replace hWf := hWf.symm
    obtain ⟨hbf, hgf⟩ := set4L hbl hWf
    have hK2 := hK undef Wf ⟨⟨hgw.trans hgf, .inr hbf⟩, fun _ => hbf, hbf⟩
    exact hK2
   ·obtain ⟨z0, z1, z2, z3, v0, v1, v2, v3⟩ := hbl.b4
    go_simp
    generalize hWf : World.setCell _ _ _ = Wf
    replace hWf := hWf.symm
    obtain ⟨hbf, hgf⟩ := set4L hbl hWf
    have hK2 := hK undef Wf ⟨⟨hgw.trans hgf, .inr hbf⟩, fun _ => hbf, hbf⟩
    exact hK2
  case s33 =>
   obtain ⟨e31, -⟩ := hd
   simp only [e31] at hK ⊢
   go_simp
   have hK2 := hK _ _ ⟨hRw, fun h => h, rfl⟩
   exact hK2
  case done =>
   intro x w7 hR2' hG
   have d32 := hG 32 (by omega)
   have d33 := hG 33 (by omega)
   simp only [G8] at d32 d33
   clear hG
   simp only [fillL]
   rw [d33]
   obtain ⟨u0, u1, u2, u3, -⟩ := d32.b4
   have hBf := hi_ (((bthen b1.out b2.out).grown hg3 (bthen b1.out b2.out).size (fun q hq => by injection hq with hq; have := b1.out.size; omega)).grown hR2'.1 (by have := (bthen b1.out b2.out).size; have := hg3.size; omega) (fun q hq => by injection hq with hq; omega))
   replace hR2' := hi_ hR2'
   clear d32 d33 z0 z1 z2 z3 v0 v1 v2 v3 j0 j1 j2 j3
   go_wp2
   refine bodyPost_ret (by simp [results, Tryz.results62, go_sem, u0, u1, u2, u3]; try rfl) rfl ?_
   exact ⟨rfl, hBf.out⟩
section
open Go Go.RowKit Go.Wk
def G44 (p : Nat) (a g : Int) (DA DG K S3 S7 : ByteArray) : Nat → Value → World → Prop := fun j v w => match j with
 | 0 => v = .pointer (some ⟨p, 2, none⟩)
 | 1 => v = .int .i64 a
 | 2 => v = .string DA
 | 3 => v = .string S3
 | 4 => v = .pointer (some ⟨p, 3, none⟩)
 | 5 => v = .int .i64 g
 | 6 => v = .string DG
 | 7 => v = .string S7
 | 8 => v = .string K
 | _ => v = .string (S7 ++ K)
theorem G44_mono {p : Nat} {a g : Int} {DA DG K S3 S7 : ByteArray} (j : Nat) (v : Value) (w w' : World) (hG : G44 p a g DA DG K S3 S7 j v w) (hk : Below w.heap.size w w') : G44 p a g DA DG K S3 S7 j v w' := hG
theorem tab_text (r : R4) (hr : r.ok) (w : World) (htab : Tab w) (T : ByteArray) (hT : T = ⟨(rowT r).toArray⟩) : Calls Tryz.prog 44 #[.agg (rv r).toArray] w fun e w' => e = .returned (.string T) ∧ Below w.heap.size w w' := by
 obtain ⟨n, k, a, g⟩ := r
 obtain ⟨W1, hW1, hb⟩ := newA w 64 #[.int .i64 n, .int .i64 k, .int .i64 a, .int .i64 g]
 obtain ⟨c0, c1, c2, c3⟩ := four_cells hW1
 obtain ⟨_, _, ia, ig⟩ := hr
 obtain ⟨DA, hDA⟩ : ∃ D : ByteArray, D = ⟨(padL a 10).toArray⟩ := ⟨_, rfl⟩
 obtain ⟨DG, hDG⟩ : ∃ D : ByteArray, D = ⟨(padL g 5).toArray⟩ := ⟨_, rfl⟩
 have zA : DA.size ≤ 128 := by rw [hDA]; have := padL_len a ia 10 (by omega); simpa [ByteArray.size] using this
 have zG : DG.size ≤ 128 := by rw [hDG]; have := padL_len g ig 5 (by omega); simpa [ByteArray.size] using this
 have cA := fun W (hW : Below w.heap.size w W) => tab_digits a ia 10 (by omega) W (htab.below hW) DA hDA
 have cG := fun W (hW : Below w.heap.size w W) => tab_digits g ig 5 (by omega) W (htab.below hW) DG hDG
 obtain ⟨S3, hS3⟩ : ∃ S, S = DA ++ ⟨#[32]⟩ := ⟨_, rfl⟩
 obtain ⟨S7, hS7⟩ : ∃ S, S = S3 ++ DG := ⟨_, rfl⟩
 have z3 : S3.size ≤ 129 := by rw [hS3, ByteArray.size_append]; show DA.size + 1 ≤ 129; omega
 have z7 : S7.size ≤ 257 := by rw [hS7, ByteArray.size_append]; omega
 have hend : ∀ K : ByteArray, K.data.toList = (if k = 1 then [32, 110, 32, 10] else [32, 102, 32, 10]) → S7 ++ K = T := fun K hK => by
  apply bytes_ext
  rw [hT, bytes_app, hS7, bytes_app, hS3, bytes_app, hK, hDA, hDG]
  rfl
 clear hT
 refine h7_ hDA hDG hS7 hS3 hb cA cG ?_; clear hDA hDG hS7 hS3 hb cA cG; intro hDA hDG hS7 hS3 hb cA cG
 show Calls Tryz.prog 44 #[.agg #[.int .i64 n, .int .i64 k, .int .i64 a, .int .i64 g]] w fun e w' => e = .returned (.string T) ∧ Below w.heap.size w w'
 have fin : ∃ (b : Bool) (K : ByteArray), (k == 1) = b ∧ S7 ++ K = T ∧ K = (bif b then ⟨#[32, 110, 32, 10]⟩ else ⟨#[32, 102, 32, 10]⟩) := by
  by_cases h1 : k = 1
  ·exact ⟨true, ⟨#[32, 110, 32, 10]⟩, by simpa using h1, hend _ (by rw [if_pos h1]), rfl⟩
  ·exact ⟨false, ⟨#[32, 102, 32, 10]⟩, by simpa using h1, hend _ (by rw [if_neg h1]), rfl⟩
 clear hend
 obtain ⟨b, K, hkb, hKT, hK⟩ := fin
 have zK : K.size ≤ 4 := by rw [hK]; cases b <;> decide
 replace hKT := hi_ hKT
 cases b
 case false =>
  simp only [cond_true, cond_false] at hK
  subst hK
  go_enter Tryz.func44, Tryz.ntmps44
  go_upto_region 1 with (fail)
  rw [← hW1]
  replace hW1 := hi_ hW1
  go_upto_region 4 with (fail)
  refine wp_lin_tail (by kernel_rfl) [none, none, none, none, none, none, none, some 0, some 1, some 2, some 3, some 4, some 5, some 6, some 7, some 8, some 9] (fun w' => Below W1.heap.size W1 w') (fun w' w'' => Below w'.heap.size w' w'') (G44 w.heap.size a g DA DG ⟨#[32, 102, 32, 10]⟩ S3 S7) (by rfl) (by kernel_rfl) 10 _ rfl (by decide) (by kernel_rfl) [10, 10, 10, 10, 10, 10, 10, 10, 10, 10, 0] (by kernel_rfl) ?hR ?mono (.cons 9 (step_of [7, 8] rfl (by kernel_rfl) ?s9) (.cons 8 (step_of [] rfl (by kernel_rfl) ?s8) (.cons 7 (step_of [3, 6] rfl (by kernel_rfl) ?s7) (.cons 6 (step_of [5, 2] rfl (by kernel_rfl) ?s6) (.cons 5 (step_of [4] rfl (by kernel_rfl) ?s5) (.cons 4 (step_of [] rfl (by kernel_rfl) ?s4) (.cons 3 (step_of [2] rfl (by kernel_rfl) ?s3) (.cons 2 (step_of [1] rfl (by kernel_rfl) ?s2) (.cons 1 (step_of [0] rfl (by kernel_rfl) ?s1) (.cons 0 (step_of [] rfl (by kernel_rfl) ?s0) (.nil))))))))))) ?done
  case hR => exact (Below.refl _ _).drew
  case mono => exact G44_mono
  case s0 =>
   intro x w' hRw hd K' hK
   simp only [All, G44] at hd
   simp +decide only [upd, G44, fillL, if_true, if_false] at hK ⊢
   go_simp
   have hK2 := hK _ _ ⟨hRw, Below.refl _ _, rfl⟩
   exact hK2
  case s1 =>
   intro x w' hRw hd K' hK
   simp only [All, G44] at hd
   obtain ⟨e0, _⟩ := hd
   have tc2 := (hRw.cell (cell_lt c2)).trans c2
   simp +decide only [upd, G44, fillL, if_true, if_false] at hK ⊢
   simp only [e0] at hK ⊢
   go_simp
   have hK2 := hK _ _ ⟨hRw, Below.refl _ _, rfl⟩
   exact hK2
  case s2 =>
   intro x w' hRw hd K' hK
   simp only [All, G44] at hd
   obtain ⟨e1, _⟩ := hd
   simp +decide only [upd, G44, fillL, if_true, if_false] at hK ⊢
   simp only [e1] at hK ⊢
   go_simp
   refine (cA.out w' (bthen hb.out hRw)).mono ?_
   rintro e' w2 ⟨rfl, hB9⟩
   have hK2 := hK _ _ ⟨bthen hRw hB9, hB9, rfl⟩
   exact hK2
  case s3 =>
   intro x w' hRw hd K' hK
   simp only [All, G44] at hd
   obtain ⟨e2, _⟩ := hd
   simp +decide only [upd, G44, fillL, if_true, if_false] at hK ⊢
   simp only [e2] at hK ⊢
   have h3 := hS3.out.symm
   go_simp
   rw [if_neg (by omega)]
   have hK2 := hK _ _ ⟨hRw, Below.refl _ _, rfl⟩
   exact hK2
  case s4 =>
   intro x w' hRw hd K' hK
   simp only [All, G44] at hd
   simp +decide only [upd, G44, fillL, if_true, if_false] at hK ⊢
   go_simp
   have hK2 := hK _ _ ⟨hRw, Below.refl _ _, rfl⟩
   exact hK2
  case s5 =>
   intro x w' hRw hd K' hK
   simp only [All, G44] at hd
   obtain ⟨e4, _⟩ := hd
   have tc3 := (hRw.cell (cell_lt c3)).trans c3
   simp +decide only [upd, G44, fillL, if_true, if_false] at hK ⊢
   simp only [e4] at hK ⊢
   go_simp
   have hK2 := hK _ _ ⟨hRw, Below.refl _ _, rfl⟩
   exact hK2
  case s6 =>
   intro x w' hRw hd K' hK
   simp only [All, G44] at hd
   obtain ⟨e5, e2, _⟩ := hd
   simp +decide only [upd, G44, fillL, if_true, if_false] at hK ⊢
   simp only [e5, e2] at hK ⊢
   go_simp
   refine (cG.out w' (bthen hb.out hRw)).mono ?_
   rintro e' w2 ⟨rfl, hB9⟩
   have hK2 := hK _ _ ⟨bthen hRw hB9, hB9, rfl⟩
   exact hK2
  case s7 =>
   intro x w' hRw hd K' hK
   simp only [All, G44] at hd
   obtain ⟨e3, e6, _⟩ := hd
   simp +decide only [upd, G44, fillL, if_true, if_false] at hK ⊢
   simp only [e3, e6] at hK ⊢
   have h7 := hS7.out.symm
   go_simp
   rw [if_neg (by omega)]
   have hK2 := hK _ _ ⟨hRw, Below.refl _ _, rfl⟩
   exact hK2
  case s8 =>
   intro x w' hRw hd K' hK
   simp only [All, G44] at hd
   simp +decide only [upd, G44, fillL, if_true, if_false] at hK ⊢
   go_simp
   have hK2 := hK _ _ ⟨hRw, Below.refl _ _, rfl⟩
   exact hK2
  case s9 =>
   intro x w' hRw hd K' hK
   simp only [All, G44] at hd
   obtain ⟨e7, e8, _⟩ := hd
   simp +decide only [upd, G44, fillL, if_true, if_false] at hK ⊢
   simp only [e7, e8] at hK ⊢
   have zK2 := zK
   go_simp
   rw [if_neg (by omega)]
   have hK2 := hK _ _ ⟨hRw, Below.refl _ _, rfl⟩
   exact hK2
  case done =>
   intro x w6 hR2 hG fr hfr
   have a9 := hG 9 (by omega)
   simp only [G44] at a9
   clear hG
   rw [hKT.out] at a9
   simp only [fillL] at hfr
   rw [a9] at hfr
   subst hfr
   replace hR2 := hi_ hR2
   go_wp2
   go_ret
   exact ⟨rfl, bthen hb.out hR2.out⟩
 case true =>
  simp only [cond_true, cond_false] at hK
  subst hK
  go_enter Tryz.func44, Tryz.ntmps44
  go_upto_region 1 with (fail)
  rw [← hW1]
  replace hW1 := hi_ hW1
  go_upto_region 4 with (fail)
  refine wp_lin_tail (by kernel_rfl) [none, none, none, none, none, none, none, some 0, some 1, some 2, some 3, some 4, some 5, some 6, some 7, some 8, some 9] (fun w' => Below W1.heap.size W1 w') (fun w' w'' => Below w'.heap.size w' w'') (G44 w.heap.size a g DA DG ⟨#[32, 110, 32, 10]⟩ S3 S7) (by rfl) (by kernel_rfl) 10 _ rfl (by decide) (by kernel_rfl) [10, 10, 10, 10, 10, 10, 10, 10, 10, 10, 0] (by kernel_rfl) ?hR ?mono (.cons 9 (step_of [7, 8] rfl (by kernel_rfl) ?s9) (.cons 8 (step_of [] rfl (by kernel_rfl) ?s8) (.cons 7 (step_of [3, 6] rfl (by kernel_rfl) ?s7) (.cons 6 (step_of [5, 2] rfl (by kernel_rfl) ?s6) (.cons 5 (step_of [4] rfl (by kernel_rfl) ?s5) (.cons 4 (step_of [] rfl (by kernel_rfl) ?s4) (.cons 3 (step_of [2] rfl (by kernel_rfl) ?s3) (.cons 2 (step_of [1] rfl (by kernel_rfl) ?s2) (.cons 1 (step_of [0] rfl (by kernel_rfl) ?s1) (.cons 0 (step_of [] rfl (by kernel_rfl) ?s0) (.nil))))))))))) ?done
  case hR => exact (Below.refl _ _).drew
  case mono => exact G44_mono
  case s0 =>
   intro x w' hRw hd K' hK
   simp only [All, G44] at hd
   simp +decide only [upd, G44, fillL, if_true, if_false] at hK ⊢
   go_simp
   have hK2 := hK _ _ ⟨hRw, Below.refl _ _, rfl⟩
   exact hK2
  case s1 =>
   intro x w' hRw hd K' hK
   simp only [All, G44] at hd
   obtain ⟨e0, _⟩ := hd
   have tc2 := (hRw.cell (cell_lt c2)).trans c2
   simp +decide only [upd, G44, fillL, if_true, if_false] at hK ⊢
   simp only [e0] at hK ⊢
   go_simp
   have hK2 := hK _ _ ⟨hRw, Below.refl _ _, rfl⟩
   exact hK2
  case s2 =>
   intro x w' hRw hd K' hK
   simp only [All, G44] at hd
   obtain ⟨e1, _⟩ := hd
   simp +decide only [upd, G44, fillL, if_true, if_false] at hK ⊢
   simp only [e1] at hK ⊢
   go_simp
   refine (cA.out w' (bthen hb.out hRw)).mono ?_
   rintro e' w2 ⟨rfl, hB9⟩
   have hK2 := hK _ _ ⟨bthen hRw hB9, hB9, rfl⟩
   exact hK2
  case s3 =>
   intro x w' hRw hd K' hK
   simp only [All, G44] at hd
   obtain ⟨e2, _⟩ := hd
   simp +decide only [upd, G44, fillL, if_true, if_false] at hK ⊢
   simp only [e2] at hK ⊢
   have h3 := hS3.out.symm
   go_simp
   rw [if_neg (by omega)]
   have hK2 := hK _ _ ⟨hRw, Below.refl _ _, rfl⟩
   exact hK2
  case s4 =>
   intro x w' hRw hd K' hK
   simp only [All, G44] at hd
   simp +decide only [upd, G44, fillL, if_true, if_false] at hK ⊢
   go_simp
   have hK2 := hK _ _ ⟨hRw, Below.refl _ _, rfl⟩
   exact hK2
  case s5 =>
   intro x w' hRw hd K' hK
   simp only [All, G44] at hd
   obtain ⟨e4, _⟩ := hd
   have tc3 := (hRw.cell (cell_lt c3)).trans c3
   simp +decide only [upd, G44, fillL, if_true, if_false] at hK ⊢
   simp only [e4] at hK ⊢
   go_simp
   have hK2 := hK _ _ ⟨hRw, Below.refl _ _, rfl⟩
   exact hK2
  case s6 =>
   intro x w' hRw hd K' hK
   simp only [All, G44] at hd
   obtain ⟨e5, e2, _⟩ := hd
   simp +decide only [upd, G44, fillL, if_true, if_false] at hK ⊢
   simp only [e5, e2] at hK ⊢
   go_simp
   refine (cG.out w' (bthen hb.out hRw)).mono ?_
   rintro e' w2 ⟨rfl, hB9⟩
   have hK2 := hK _ _ ⟨bthen hRw hB9, hB9, rfl⟩
   exact hK2
  case s7 =>
   intro x w' hRw hd K' hK
   simp only [All, G44] at hd
   obtain ⟨e3, e6, _⟩ := hd
   simp +decide only [upd, G44, fillL, if_true, if_false] at hK ⊢
   simp only [e3, e6] at hK ⊢
   have h7 := hS7.out.symm
   go_simp
   rw [if_neg (by omega)]
   have hK2 := hK _ _ ⟨hRw, Below.refl _ _, rfl⟩
   exact hK2
  case s8 =>
   intro x w' hRw hd K' hK
   simp only [All, G44] at hd
   simp +decide only [upd, G44, fillL, if_true, if_false] at hK ⊢
   go_simp
   have hK2 := hK _ _ ⟨hRw, Below.refl _ _, rfl⟩
   exact hK2
  case s9 =>
   intro x w' hRw hd K' hK
   simp only [All, G44] at hd
   obtain ⟨e7, e8, _⟩ := hd
   simp +decide only [upd, G44, fillL, if_true, if_false] at hK ⊢
   simp only [e7, e8] at hK ⊢
   have zK2 := zK
   go_simp
   rw [if_neg (by omega)]
   have hK2 := hK _ _ ⟨hRw, Below.refl _ _, rfl⟩
   exact hK2
  case done =>
   intro x w6 hR2 hG fr hfr
   have a9 := hG 9 (by omega)
   simp only [G44] at a9
   clear hG
   rw [hKT.out] at a9
   simp only [fillL] at hfr
   rw [a9] at hfr
   subst hfr
   replace hR2 := hi_ hR2
   go_wp2
   go_ret
   exact ⟨rfl, bthen hb.out hR2.out⟩
end
section
open Go Go.RowKit Go.Wk
def RowsAt (w : World) (A : Option Addr) (l : List R4) : Prop := l.length ≤ maxLen ∧ (0 < l.length → ∃ b o, A = some ⟨b, o, none⟩ ∧ ∀ i (hi : i < l.length) j u, (rv l[i])[j]? = some u → w.cell? ⟨b, o + i * 4 + j, none⟩ = some u)
theorem RowsAt.below {w w' : World} {A : Option Addr} {l : List R4} (h : RowsAt w A l) (hb : Below w.heap.size w w') : RowsAt w' A l := by
 refine ⟨h.1, fun h0 => ?_⟩
 obtain ⟨b, o, rfl, hc⟩ := h.2 h0
 exact ⟨b, o, rfl, fun i hi j u hu => (hb.cell (cell_lt (hc i hi j u hu))).trans (hc i hi j u hu)⟩
def OwnR (e : TypeId) (B : Nat) (w : World) (v : Value) (l : List R4) : Prop := w.ownsRow B e 4 v l.length (l.map rv).flatten
theorem rv_len (r : R4) : (rv r).length = 4 := rfl
theorem flat4 (l : List R4) : (l.map rv).flatten.length = l.length * 4 := by
 induction l with
 | nil => rfl
 | cons x l ih => simp only [List.map_cons, List.flatten_cons, List.length_append, ih, rv_len, List.length_cons]; omega
theorem flat4_at : ∀ (l : List R4) (i : Nat) (hi : i < l.length) (j : Nat) (u : Value), (rv l[i])[j]? = some u → (l.map rv).flatten[i * 4 + j]? = some u
 | [], i, hi, j, u, h => by simp at hi
 | x :: l, 0, hi, j, u, h => by
  have hj : j < 4 := (List.getElem?_eq_some_iff.1 h).1
  simp only [List.map_cons, List.flatten_cons, Nat.zero_mul, Nat.zero_add]
  rw [List.getElem?_append_left (by rw [rv_len]; exact hj)]; exact h
 | x :: l, i + 1, hi, j, u, h => by
  have := flat4_at l i (by simpa using hi) j u h
  simp only [List.map_cons, List.flatten_cons]
  rw [List.getElem?_append_right (by rw [rv_len]; omega), rv_len, show (i + 1) * 4 + j - 4 = i * 4 + j by omega]; exact this
theorem OwnR.nil (e : TypeId) (B : Nat) (w : World) : OwnR e B w (.slice none 0 0) [] := World.ownsRow_nil _ _ _ _
theorem OwnR.below {e : TypeId} {B : Nat} {w w' : World} {v : Value} {l : List R4} (h : OwnR e B w v l) (hb : Below w.heap.size w w') : OwnR e B w' v l := own_far h fun b _ hb' => hb.block b hb'
theorem OwnR.out {e : TypeId} {B : Nat} {w : World} {v : Value} {l : List R4} (h : OwnR e B w v l) (hl : l.length ≤ maxLen) : ∃ A c, v = .slice A l.length c ∧ RowsAt w A l := by
 rcases h.2 with ⟨rfl, hn⟩ | ⟨g, cap, cur, rfl, hB, hh, hnc, hcm, hcs, htk⟩
 ·exact ⟨none, 0, by rw [hn], hl, fun h0 => by omega⟩
 ·refine ⟨_, cap, rfl, hl, fun h0 => ⟨g, 0, rfl, fun i hi j u hu => ?_⟩⟩
  have h1 := flat4_at l i hi j u hu
  have hj : j < 4 := (List.getElem?_eq_some_iff.1 hu).1
  have := World.ownsRow.cells (w := w) (base := B) (e := e) (size := 4) (v := .slice (some ⟨g, 0, none⟩) l.length cap) (n := l.length) (xs := (l.map rv).flatten) h (g := g) rfl (i * 4 + j) u h1
  rw [addr_add] at this
  rw [← Nat.add_assoc] at this
  exact this
structure RT (t e : TypeId) : Prop where
 u : Tryz.prog.underlying t = some (.slice e)
 i : ∃ i, Tryz.prog.info? e = some i ∧ i.zero = some (.agg #[.int .i64 0, .int .i64 0, .int .i64 0, .int .i64 0]) ∧ i.size = 4 ∧ i.bytes = 32
theorem rt28 : RT 28 64 := ⟨Tryz.underlying28, Tryz.t64, by kernel_rfl, by kernel_rfl, by kernel_rfl, by kernel_rfl⟩
theorem rv_one (r : R4) : ∀ u ∈ rv r, u.oneCell' = true := by
 intro u hu
 simp only [rv, List.mem_cons, List.not_mem_nil, or_false] at hu
 rcases hu with rfl | rfl | rfl | rfl <;> rfl
theorem app_r {t e : TypeId} (T : RT t e) {w : World} {ops : Array Oper} {rest : List Oper} {o : Oper} {a : Act} {Q : Exit → Act → World → Prop} (hgd : o.guard = none) (s x : Operand)
 (ho : o.op = .call { callee := .builtin .append, args := #[s, x], argTypes := #[t, t] }) (B : Nat) (v : Value) (l : List R4) (hs : a.eval s = v) (hR : OwnR e B w v l)
 (g : Nat) (r : R4) (hx : a.eval x = .slice (some ⟨g, 0, none⟩) 1 1) (hc : ∀ j u, (rv r)[j]? = some u → w.cell? ⟨g, j, none⟩ = some u) (hl : l.length ≤ 1000000000) (hB : B ≤ w.heap.size)
 (h : ∀ v' w', OwnR e B w' v' (l ++ [r]) → w.grownBy w' v.ownBlock → (v'.ownBlock = v.ownBlock ∨ v'.ownBlock = some w.heap.size) → wpList Tryz.prog ops Q rest (a.put o.dst v') w') : wpList Tryz.prog ops Q (o :: rest) a w := by
 obtain ⟨i0, hi0, hz0, hz1, hz2⟩ := T.i
 refine wpList_append_own_at w hgd s x t ho B e i0 _ 4 32 T.u hi0 hz0 hz1 hz2 rfl (by decide) v l.length (l.map rv).flatten hs hR ⟨g, 0, none⟩ 1 1 (rv r) hx rfl ?_ (rv_one r) (by unfold maxLen; omega) (by omega) hB ?_
 ·intro j u hu; rw [addr_add, Nat.zero_add]; exact hc j u hu
 ·intro v' w' h1 h2 _ h3
  refine h v' w' ?_ h2 h3
  unfold OwnR
  rw [List.length_append, List.map_append, List.flatten_append]
  simpa using h1
def G17 (A : Value) (b off : Nat) (i : Int) (v0 : Value) (rn rk ra rg : Int) : Nat → Value → World → Prop := fun j v w => match j with
 | 0 => v = v0
 | 1 | 6 | 11 | 16 => v = A
 | 2 | 7 | 12 | 17 => v = .int .i64 i
 | 3 | 8 | 13 | 18 | 4 => v = .pointer (some ⟨b, off, none⟩)
 | 9 => v = .pointer (some ⟨b, off + 1, none⟩)
 | 14 => v = .pointer (some ⟨b, off + 2, none⟩)
 | 19 => v = .pointer (some ⟨b, off + 3, none⟩)
 | 5 => v = .int .i64 rn
 | 10 => v = .int .i64 rk
 | 15 => v = .int .i64 ra
 | 20 => v = .int .i64 rg
 | 21 => v = .agg #[.int .i64 rn, .int .i64 rk, .int .i64 ra, .int .i64 rg]
 | _ => ∃ g, v = .slice (some ⟨g, 0, none⟩) 1 1 ∧ w.cell? ⟨g, 0, none⟩ = some (.int .i64 rn) ∧ w.cell? ⟨g, 1, none⟩ = some (.int .i64 rk) ∧ w.cell? ⟨g, 2, none⟩ = some (.int .i64 ra) ∧ w.cell? ⟨g, 3, none⟩ = some (.int .i64 rg)
theorem G17_mono {A : Value} {b off : Nat} {i : Int} {v0 : Value} {rn rk ra rg : Int} (j : Nat) (v : Value) (w w' : World) (hG : G17 A b off i v0 rn rk ra rg j v w) (hk : Below w.heap.size w w') : G17 A b off i v0 rn rk ra rg j v w' := by
 unfold G17 at hG ⊢
 split at hG <;> first
  | exact hG
  | (obtain ⟨g, e, hc⟩ := hG; exact ⟨g, e, four_kept hc hk⟩)
theorem law_Rows (A : Option Addr) (c : Nat) (l : List R4) (w : World) (h : RowsAt w A l) (hl : l.length ≤ 1000000) : Calls Tryz.prog 17 #[.slice A l.length c] w fun e w' => ∃ v, e = .returned v ∧ OwnR 64 w.heap.size w' v l ∧ Below w.heap.size w w' := by
 obtain ⟨m, hm⟩ : ∃ m, m = l.length := ⟨_, rfl⟩
 rw [← hm] at hl ⊢
 replace hm := hi_ hm
 replace h := hi_ h
 go_enter Tryz.func17, Tryz.ntmps17
 go_wp2
 go_loopw [3, 4] (fun s3 s4 wr => ∃ k : Nat, k ≤ m ∧ s4 = .int .i64 k ∧ OwnR 64 w.heap.size wr s3 (l.take k) ∧ Below w.heap.size w wr) (fun _ s4 _ => m - (RowKit.intOf s4).toNat)
 case atStart => exact ⟨0, by omega, rfl, OwnR.nil _ _ _, Below.refl _ _⟩
 case round =>
  rename_i u3 u4 wr
  obtain ⟨k, hk, rfl, hO, hB⟩ := hrel
  have lB := hB.size
  by_cases hkm : k < m
  ·have hkl : k < l.length := by rw [← hm.out]; exact hkm
   obtain ⟨b, o, rfl, hc⟩ := h.out.2 (by omega)
   have hc4 := hc k hkl
   obtain ⟨r, hr⟩ : ∃ r, r = l[k] := ⟨_, rfl⟩
   rw [← hr] at hc4
   have hT : l.take (k + 1) = l.take k ++ [r] := by rw [List.take_succ_eq_append_getElem hkl, hr]
   have hlen : (l.take k).length ≤ 1000000000 := by rw [List.length_take]; omega
   obtain ⟨rn, rk, ra, rg⟩ := r
   obtain ⟨P, hP⟩ : ∃ P, P = o + k * 4 := ⟨_, rfl⟩
   rw [← hP] at hc4
   have x0 : wr.cell? ⟨b, P, none⟩ = some (.int .i64 rn) := by have h9 := hc4 0 _ rfl; exact (hB.cell (cell_lt h9)).trans h9
   have x1 : wr.cell? ⟨b, P + 1, none⟩ = some (.int .i64 rk) := by have h9 := hc4 1 _ rfl; exact (hB.cell (cell_lt h9)).trans h9
   have x2 : wr.cell? ⟨b, P + 2, none⟩ = some (.int .i64 ra) := by have h9 := hc4 2 _ rfl; exact (hB.cell (cell_lt h9)).trans h9
   have x3 : wr.cell? ⟨b, P + 3, none⟩ = some (.int .i64 rg) := by have h9 := hc4 3 _ rfl; exact (hB.cell (cell_lt h9)).trans h9
   clear hc hc4 hr
   refine h4_ hT hlen hO hB ?_; clear hT hlen hO hB; intro hT hlen hO hB
   have hP2 : o + k * 4 = P := hP.symm
   replace hP := hi_ hP
   go_upto_region 5 with (fail)
   refine wp_lin_tail (by kernel_rfl) [none, none, none, none, none, none, none, none, none, none, none, some 0, some 1, some 2, some 3, some 4, some 5, some 6, some 7, some 8, some 9, some 10, some 11, some 12, some 13, some 14, some 15, some 16, some 17, some 18, some 19, some 20, some 21, some 22, none, none] (fun w' => Below wr.heap.size wr w') (fun w' w'' => Below w'.heap.size w' w'') (G17 (.slice (some ⟨b, o, none⟩) m c) b P k u3 rn rk ra rg) (by rfl) (by kernel_rfl) 23 _ rfl (by decide) (by kernel_rfl) [23, 3, 3, 4, 5, 21, 8, 8, 9, 10, 21, 13, 13, 14, 15, 21, 18, 18, 19, 20, 21, 22, 23, 0] (by kernel_rfl) ?hR ?mono (.cons 22 (step_of [21] rfl (by kernel_rfl) ?s22) (.cons 21 (step_of [5, 10, 15, 20] rfl (by kernel_rfl) ?s21) (.cons 20 (step_of [19] rfl (by kernel_rfl) ?s20) (.cons 19 (step_of [18] rfl (by kernel_rfl) ?s19) (.cons 18 (step_of [16, 17] rfl (by kernel_rfl) ?s18) (.cons 17 (step_of [] rfl (by kernel_rfl) ?s17) (.cons 16 (step_of [] rfl (by kernel_rfl) ?s16) (.cons 15 (step_of [14] rfl (by kernel_rfl) ?s15) (.cons 14 (step_of [13] rfl (by kernel_rfl) ?s14) (.cons 13 (step_of [11, 12] rfl (by kernel_rfl) ?s13) (.cons 12 (step_of [] rfl (by kernel_rfl) ?s12) (.cons 11 (step_of [] rfl (by kernel_rfl) ?s11) (.cons 10 (step_of [9] rfl (by kernel_rfl) ?s10) (.cons 9 (step_of [8] rfl (by kernel_rfl) ?s9) (.cons 8 (step_of [6, 7] rfl (by kernel_rfl) ?s8) (.cons 7 (step_of [] rfl (by kernel_rfl) ?s7) (.cons 6 (step_of [] rfl (by kernel_rfl) ?s6) (.cons 5 (step_of [4] rfl (by kernel_rfl) ?s5) (.cons 4 (step_of [3] rfl (by kernel_rfl) ?s4) (.cons 3 (step_of [1, 2] rfl (by kernel_rfl) ?s3) (.cons 2 (step_of [] rfl (by kernel_rfl) ?s2) (.cons 1 (step_of [] rfl (by kernel_rfl) ?s1) (.cons 0 (step_of [] rfl (by kernel_rfl) ?s0) (.nil)))))))))))))))))))))))) ?done
   case hR => exact (Below.refl _ _).drew
   case mono => exact G17_mono
   case s0 =>
    intro x w' hRw hd K' hK
    simp only [All, G17] at hd
    simp +decide only [upd, G17, fillL, if_true, if_false] at hK ⊢
    go_simp
    have hK2 := hK _ _ ⟨hRw, Below.refl _ _, rfl⟩
    exact hK2
   case s1 =>
    intro x w' hRw hd K' hK
    simp only [All, G17] at hd
    simp +decide only [upd, G17, fillL, if_true, if_false] at hK ⊢
    go_simp
    have hK2 := hK _ _ ⟨hRw, Below.refl _ _, rfl⟩
    exact hK2
   case s2 =>
    intro x w' hRw hd K' hK
    simp only [All, G17] at hd
    simp +decide only [upd, G17, fillL, if_true, if_false] at hK ⊢
    go_simp
    have hK2 := hK _ _ ⟨hRw, Below.refl _ _, rfl⟩
    exact hK2
   case s3 =>
    intro x w' hRw hd K' hK
    simp only [All, G17] at hd
    obtain ⟨e1, e2, _⟩ := hd
    simp +decide only [upd, G17, fillL, if_true, if_false] at hK ⊢
    simp only [e1, e2] at hK ⊢
    go_simp
    have hK2 := hK _ _ ⟨hRw, Below.refl _ _, rfl⟩
    exact hK2
   case s4 =>
    intro x w' hRw hd K' hK
    simp only [All, G17] at hd
    obtain ⟨e3, _⟩ := hd
    simp +decide only [upd, G17, fillL, if_true, if_false] at hK ⊢
    simp only [e3] at hK ⊢
    go_simp
    have hK2 := hK _ _ ⟨hRw, Below.refl _ _, rfl⟩
    exact hK2
   case s5 =>
    intro x w' hRw hd K' hK
    simp only [All, G17] at hd
    obtain ⟨e4, _⟩ := hd
    have tx0 := (hRw.cell (cell_lt x0)).trans x0
    simp +decide only [upd, G17, fillL, if_true, if_false] at hK ⊢
    simp only [e4] at hK ⊢
    go_simp
    have hK2 := hK _ _ ⟨hRw, Below.refl _ _, rfl⟩
    exact hK2
   case s6 =>
    intro x w' hRw hd K' hK
    simp only [All, G17] at hd
    simp +decide only [upd, G17, fillL, if_true, if_false] at hK ⊢
    go_simp
    have hK2 := hK _ _ ⟨hRw, Below.refl _ _, rfl⟩
    exact hK2
   case s7 =>
    intro x w' hRw hd K' hK
    simp only [All, G17] at hd
    simp +decide only [upd, G17, fillL, if_true, if_false] at hK ⊢
    go_simp
    have hK2 := hK _ _ ⟨hRw, Below.refl _ _, rfl⟩
    exact hK2
   case s8 =>
    intro x w' hRw hd K' hK
    simp only [All, G17] at hd
    obtain ⟨e6, e7, _⟩ := hd
    simp +decide only [upd, G17, fillL, if_true, if_false] at hK ⊢
    simp only [e6, e7] at hK ⊢
    go_simp
    have hK2 := hK _ _ ⟨hRw, Below.refl _ _, rfl⟩
    exact hK2
   case s9 =>
    intro x w' hRw hd K' hK
    simp only [All, G17] at hd
    obtain ⟨e8, _⟩ := hd
    simp +decide only [upd, G17, fillL, if_true, if_false] at hK ⊢
    simp only [e8] at hK ⊢
    go_simp
    have hK2 := hK _ _ ⟨hRw, Below.refl _ _, rfl⟩
    exact hK2
   case s10 =>
    intro x w' hRw hd K' hK
    simp only [All, G17] at hd
    obtain ⟨e9, _⟩ := hd
    have tx1 := (hRw.cell (cell_lt x1)).trans x1
    simp +decide only [upd, G17, fillL, if_true, if_false] at hK ⊢
    simp only [e9] at hK ⊢
    go_simp
    have hK2 := hK _ _ ⟨hRw, Below.refl _ _, rfl⟩
    exact hK2
   case s11 =>
    intro x w' hRw hd K' hK
    simp only [All, G17] at hd
    simp +decide only [upd, G17, fillL, if_true, if_false] at hK ⊢
    go_simp
    have hK2 := hK _ _ ⟨hRw, Below.refl _ _, rfl⟩
    exact hK2
   case s12 =>
    intro x w' hRw hd K' hK
    simp only [All, G17] at hd
    simp +decide only [upd, G17, fillL, if_true, if_false] at hK ⊢
    go_simp
    have hK2 := hK _ _ ⟨hRw, Below.refl _ _, rfl⟩
    exact hK2
   case s13 =>
    intro x w' hRw hd K' hK
    simp only [All, G17] at hd
    obtain ⟨e11, e12, _⟩ := hd
    simp +decide only [upd, G17, fillL, if_true, if_false] at hK ⊢
    simp only [e11, e12] at hK ⊢
    go_simp
    have hK2 := hK _ _ ⟨hRw, Below.refl _ _, rfl⟩
    exact hK2
   case s14 =>
    intro x w' hRw hd K' hK
    simp only [All, G17] at hd
    obtain ⟨e13, _⟩ := hd
    simp +decide only [upd, G17, fillL, if_true, if_false] at hK ⊢
    simp only [e13] at hK ⊢
    go_simp
    have hK2 := hK _ _ ⟨hRw, Below.refl _ _, rfl⟩
    exact hK2
   case s15 =>
    intro x w' hRw hd K' hK
    simp only [All, G17] at hd
    obtain ⟨e14, _⟩ := hd
    have tx2 := (hRw.cell (cell_lt x2)).trans x2
    simp +decide only [upd, G17, fillL, if_true, if_false] at hK ⊢
    simp only [e14] at hK ⊢
    go_simp
    have hK2 := hK _ _ ⟨hRw, Below.refl _ _, rfl⟩
    exact hK2
   case s16 =>
    intro x w' hRw hd K' hK
    simp only [All, G17] at hd
    simp +decide only [upd, G17, fillL, if_true, if_false] at hK ⊢
    go_simp
    have hK2 := hK _ _ ⟨hRw, Below.refl _ _, rfl⟩
    exact hK2
   case s17 =>
    intro x w' hRw hd K' hK
    simp only [All, G17] at hd
    simp +decide only [upd, G17, fillL, if_true, if_false] at hK ⊢
    go_simp
    have hK2 := hK _ _ ⟨hRw, Below.refl _ _, rfl⟩
    exact hK2
   case s18 =>
    intro x w' hRw hd K' hK
    simp only [All, G17] at hd
    obtain ⟨e16, e17, _⟩ := hd
    simp +decide only [upd, G17, fillL, if_true, if_false] at hK ⊢
    simp only [e16, e17] at hK ⊢
    go_simp
    have hK2 := hK _ _ ⟨hRw, Below.refl _ _, rfl⟩
    exact hK2
   case s19 =>
    intro x w' hRw hd K' hK
    simp only [All, G17] at hd
    obtain ⟨e18, _⟩ := hd
    simp +decide only [upd, G17, fillL, if_true, if_false] at hK ⊢
    simp only [e18] at hK ⊢
    go_simp
    have hK2 := hK _ _ ⟨hRw, Below.refl _ _, rfl⟩
    exact hK2
   case s20 =>
    intro x w' hRw hd K' hK
    simp only [All, G17] at hd
    obtain ⟨e19, _⟩ := hd
    have tx3 := (hRw.cell (cell_lt x3)).trans x3
    simp +decide only [upd, G17, fillL, if_true, if_false] at hK ⊢
    simp only [e19] at hK ⊢
    go_simp
    have hK2 := hK _ _ ⟨hRw, Below.refl _ _, rfl⟩
    exact hK2
   case s21 =>
    intro x w' hRw hd K' hK
    simp only [All, G17] at hd
    obtain ⟨e5, e10, e15, e20, _⟩ := hd
    simp +decide only [upd, G17, fillL, if_true, if_false] at hK ⊢
    simp only [e5, e10, e15, e20] at hK ⊢
    go_simp
    have hK2 := hK _ _ ⟨hRw, Below.refl _ _, rfl⟩
    exact hK2
   case s22 =>
    intro x w' hRw hd K' hK
    simp only [All, G17] at hd
    obtain ⟨e21, _⟩ := hd
    simp +decide only [upd, G17, fillL, if_true, if_false] at hK ⊢
    simp only [e21] at hK ⊢
    have al : Below w'.heap.size w' (w'.alloc (.cells #[.int .i64 rn, .int .i64 rk, .int .i64 ra, .int .i64 rg] 64)) := (Below.refl _ _).alloc (Nat.le_refl _) _
    go_simp
    have hK2 := hK _ _ ⟨bthen hRw al, al, w'.heap.size, rfl, four_cells rfl⟩
    exact hK2
   case done =>
    intro x w6 hR2 hG fr hfr
    have a0 := hG 0 (by omega)
    have a22 := hG 22 (by omega)
    simp only [G17] at a0 a22
    clear hG
    obtain ⟨g, a22, hg⟩ := a22
    simp only [fillL] at hfr
    rw [a0, a22] at hfr
    subst hfr
    clear x0 x1 x2 x3
    have hO6 := hO.out.below hR2
    have z6 := hR2.size
    have hD6 := bthen hB.out hR2
    refine app_r rt28 rfl _ _ rfl w.heap.size u3 (l.take k) rfl hO6 g ⟨rn, rk, ra, rg⟩ rfl (fun j u hu => ?_) hlen.out (by omega) ?_
    ·match j with
     | 0 => rw [← hu]; exact hg.1
     | 1 => rw [← hu]; exact hg.2.1
     | 2 => rw [← hu]; exact hg.2.2.1
     | 3 => rw [← hu]; exact hg.2.2.2
     | j + 4 => cases hu
    intro v7 w7 hO7 hg7 hat7
    have hD7 : Below w.heap.size w w7 := hD6.grown hg7 (by omega) (fun q hq => (World.ownsRow.lt hO6 q hq).1)
    replace hO7 := hi_ hO7
    replace hD7 := hi_ hD7
    clear hO6 hg hg7 hat7 hR2 hD6
    go_wp2
    go_roundw
    case rel => exact ⟨k + 1, by omega, by go_num, by rw [hT.out]; exact hO7.out, hD7.out⟩
    case measure => simp [RowKit.intOf]; omega
  ·obtain rfl : k = m := by omega
   have hT : l.take k = l := by rw [hm.out, List.take_length]
   rw [hT] at hO
   refine h3_ hO hB hT ?_; clear hO hB hT; intro hO hB hT
   go_wp2
   go_ret
   exact ⟨_, rfl, hO.out, hB.out⟩
end
def rowsS (first : Int) : Nat → Nat → List R4 → Bs → Res (List R4)
 | 0, _, acc, r => .ok acc r
 | m + 1, i, acc, r => if r.length < 20 then .err 2 r else match entryS (r.take 20) with
  | none => .err 4 r
  | some (k, a, g) => rowsS first m (i + 1) (acc ++ [⟨first + i, k, a, g⟩]) (r.drop 20)
def whiteR (r : Bs) : Bs := r.dropWhile whiteB
def partS (r : Bs) : Res (List R4) := match wantN 0 8388607 r with
 | .err e u => .err e u
 | .ok t u => match wantN 0 (8388608 - t.n) u with
  | .err e v => .err e v
  | .ok s v => rowsS t.n s.n.toNat 0 [] (whiteR v)
theorem n_in {lo hi : Int} {r u : Bs} {k : Tok} (h : wantN lo hi r = .ok k u) : lo ≤ k.n ∧ k.n ≤ hi := by
 unfold wantN at h
 cases ht : tokS r with
 | err e v => rw [ht] at h; cases h
 | ok t v =>
  rw [ht] at h
  simp only [] at h
  split at h
  ·cases h
  ·split at h
   ·rename_i h2; cases h; exact h2.2
   ·cases h
section
variable {P L R : Nat} {A : Option Addr} {c : Nat} {bs : Bs} {d dd : Nat} {pl : Bool} {W X X' w w' : World} {r r' u v : Bs} {k s : Tok}
theorem ps_left (W : World) (h : PS P L R A c bs d pl W r) : Calls Tryz.prog 58 #[.pointer (some ⟨L, 0, none⟩)] W fun e w' => e = .returned (.int .i64 (r.length : Nat)) ∧ W = w' := by
 obtain ⟨M, V, hL⟩ := h.ls
 have hs := pos_len hL.suf
 have hs2 := suf_len hL.suf
 have hs3 := pos_le bs r
 refine (cur_left hL.cur).mono ?_
 rintro e w' ⟨rfl, rfl⟩
 exact ⟨by congr 2; omega, rfl⟩
theorem ps_peekC {x : UInt8} {t : Bs} {Y : Int} (hX : Y = (x.toNat : Int)) (W : World) (h : PS P L R A c bs d pl W (x :: t)) : Calls Tryz.prog 56 #[.pointer (some ⟨L, 0, none⟩), .int .i64 0] W fun e w' => e = .returned (.int .i64 Y) ∧ PS P L R A c bs d pl w' (x :: t) ∧ Fr L R W w' := by
 obtain ⟨M, V, hL⟩ := h.ls
 refine (ls_peekC hX W hL).mono ?_
 rintro e w' ⟨rfl, h1, h2⟩
 exact ⟨rfl, h.to h1 (Fr.of_save h2), Fr.of_save h2⟩
theorem ps_next {x : UInt8} {t : Bs} {Y : Int} (hX : Y = (x.toNat : Int)) (W : World) (h : PS P L R A c bs d pl W (x :: t)) : Calls Tryz.prog 60 #[.pointer (some ⟨L, 0, none⟩)] W fun e w' => e = .returned (.int .i64 Y) ∧ PS P L R A c bs d pl w' t ∧ Fr L R W w' := by
 obtain ⟨M, V, hL⟩ := h.ls
 refine (ls_next hX W hL).mono ?_
 rintro e w' ⟨rfl, h1, h2⟩
 exact ⟨rfl, h.to h1 (Fr.of_save h2), Fr.of_save h2⟩
theorem ps_take (W : World) (h : PS P L R A c bs d pl W r) (hn : 20 ≤ r.length) : Calls Tryz.prog 61 #[.pointer (some ⟨L, 0, none⟩), .int .i64 20] W fun e w' => ∃ a2 c2, e = .returned (.tuple #[.slice a2 20 c2, .bool true]) ∧ Byt w' a2 (r.take 20) ∧ 20 ≤ c2 ∧ PS P L R A c bs d pl w' (r.drop 20) ∧ Fr L R W w' := by
 obtain ⟨M, V, hL⟩ := h.ls
 have hl : (r.take 20).length = 20 := by rw [List.length_take]; omega
 refine (ls_take 20 (by omega) hn W hL).mono ?_
 rintro e w' ⟨a2, m2, c2, rfl, hO, h1, h2⟩
 obtain ⟨A9, c9, e9, hby, _, hcap⟩ := hO.out2L (by rw [hl]; decide)
 injection e9 with i1 i2 i3
 subst i1 i2 i3
 rw [hl] at hcap ⊢
 exact ⟨_, _, rfl, hby, hcap, h.to h1 (Fr.of_save h2), Fr.of_save h2⟩
theorem ps_takeNo (W : World) (h : PS P L R A c bs d pl W r) (hn : r.length < 20) : Calls Tryz.prog 61 #[.pointer (some ⟨L, 0, none⟩), .int .i64 20] W fun e w' => ∃ a2 n2 c2, e = .returned (.tuple #[.slice a2 n2 c2, .bool false]) ∧ PS P L R A c bs d pl w' r ∧ Fr L R W w' := by
 obtain ⟨M, V, hL⟩ := h.ls
 have hp := pos_len hL.suf
 refine (cur_take 20 hL.cur hL.cap (by omega) (by omega)).mono ?_
 rintro e w' ⟨A', c', rfl, hby, hC⟩
 have hb : takeB bs (pos bs r) 20 = false := by unfold takeB; simp; omega
 rw [hb] at hC ⊢
 have hsv := hL.save_to hC hL.suf rfl
 exact ⟨_, _, _, rfl, h.to hsv.1 (Fr.of_save hsv.2), Fr.of_save hsv.2⟩
structure TS (W : World) (P L R : Nat) (A : Option Addr) (c : Nat) (bs : Bs) (d : Nat) (pl : Bool) (acc : List R4) (vL : Value) (X : World) (r : Bs) : Prop where
 ps : PS P L R A c bs d pl X r
 fr : Fr L R W X
 own : OwnR 64 W.heap.size X vL acc
 lL : L < W.heap.size
 lR : R < W.heap.size
 lP : P < W.heap.size
 off : 0 < bs.length → ∀ x, A = some x → x.block < W.heap.size
theorem TS.to {acc : List R4} {vL : Value} (h : TS W P L R A c bs d pl acc vL X r) (hP : PS P L R A c bs d pl X' r') (hF : Fr L R X X') : TS W P L R A c bs d pl acc vL X' r' :=
 ⟨hP, h.fr.trans hF, own_far h.own (fun b h1 h2 => hF.block b h2 (by have := h.lL; omega) (by have := h.lR; omega)), h.lL, h.lR, h.lP, h.off⟩
theorem TS.belowW {acc : List R4} {vL : Value} (h : TS W P L R A c bs d pl acc vL X r) (hb : Below X.heap.size X X') : TS W P L R A c bs d pl acc vL X' r := h.to (h.ps.belowW hb) (Fr.of_below hb)
theorem TS.row {acc acc' : List R4} {vL v' : Value} (h : TS W P L R A c bs d pl acc vL X r) (hR : OwnR 64 W.heap.size X' v' acc') (hg : X.grownBy X' vL.ownBlock) : TS W P L R A c bs d pl acc' v' X' r := by
 have hB : Below W.heap.size X X' := (Below.refl _ _ |>.mono h.fr.size).grown hg h.fr.size (fun k hk => (World.ownsRow.lt h.own k hk).1)
 exact ⟨h.ps.below hB h.lL h.lR h.lP h.off, h.fr.thenB hB, hR, h.lL, h.lR, h.lP, h.off⟩
theorem TS.cellU {acc : List R4} {vL : Value} (h : TS W P L R A c bs d pl acc vL X r) (T i : Nat) (u : Value) (hT : W.heap.size ≤ T) (hne : vL.ownBlock = none ∨ vL.ownBlock ≠ some T) : TS W P L R A c bs d pl acc vL (X.setCell ⟨T, i, none⟩ u) r := by
 have hg := set_grownL X T i u
 exact ⟨h.ps.grownL hg (by have := h.lL; omega) (by have := h.lR; omega) (by have := h.lP; omega) (fun h0 x hx => by have := h.off h0 x hx; omega), h.fr.grownL hg hT, h.own.kept hg hne, h.lL, h.lR, h.lP, h.off⟩
def PartP (P L R : Nat) (A : Option Addr) (c : Nat) (bs : Bs) (d : Nat) (pl : Bool) (w : World) (res : Res (List R4)) (e : Ending) (w' : World) : Prop := match res with
 | .ok l u => ∃ v, e = .returned (.tuple #[v, .int .i64 0]) ∧ OwnR 64 w.heap.size w' v l ∧ PS P L R A c bs d pl w' u ∧ Fr L R w w'
 | .err n u => n ≠ 0 ∧ e = .returned (.tuple #[.slice none 0 0, .int .i64 n]) ∧ PS P L R A c bs d pl w' u ∧ Fr L R w w'
theorem px_part (W : World) (h : PS P L R A c bs d pl W r) : Calls Tryz.prog 27 #[.pointer (some ⟨P, 0, none⟩)] W (PartP P L R A c bs d pl W (partS r)) := by
 obtain ⟨K, hK⟩ : ∃ K, K = partS r := ⟨_, rfl⟩
 rw [← hK]
 have hsm := h.small
 have hrl := suf_len h.suf
 have hA : TS W P L R A c bs d pl [] (.slice none 0 0) W r := ⟨h, Fr.refl _ _ _, OwnR.nil _ _ _, h.L_lt, h.R_lt, h.P_lt, h.a_lt⟩
 have p0 := h.p0
 have q0 := h.q0
 have c1 := px_Whole 0 8388607 W h
 unfold partS at hK
 replace hsm := hi_ hsm
 replace hrl := hi_ hrl
 cases h1 : wantN 0 8388607 r with
 | err n u =>
  rw [h1] at c1 hK
  simp only [] at hK
  subst hK
  replace hA := hi_ hA
  clear h
  go_enter Tryz.func27, Tryz.ntmps27
  go_wp2_with (go_at_call 57; (with_reducible refine c1.mono ?_); rintro e w2 ⟨hn0, rfl, hP2, hF2⟩; have hnb := bne_iff_ne.2 hn0; replace hn0 := hi_ hn0; replace hP2 := hi_ hP2; replace hF2 := hi_ hF2; clear c1)
  go_ret2
  exact ⟨hn0.out, rfl, hP2.out, hF2.out⟩
 | ok t u =>
  rw [h1] at c1 hK
  simp only [] at hK
  have hin1 := n_in h1
  obtain ⟨N, hN⟩ : ∃ N, N = t.n := ⟨_, rfl⟩
  have c1' : Calls Tryz.prog 57 #[.pointer (some ⟨P, 0, none⟩), .int .i64 0, .int .i64 8388607] W fun e w' => e = .returned (.tuple #[.int .i64 N, .int .i64 0]) ∧ PS P L R A c bs d pl w' u ∧ Fr L R W w' := by rw [hN]; exact c1
  rw [← hN] at hin1 hK
  have hw8 : IntKind.i64.wrap (8388608 - N) = 8388608 - N := by rw [IntWalk.i64_in _ (by omega)]
  have c2 := hi_ fun W h => px_Whole (P := P) (L := L) (R := R) (A := A) (c := c) (bs := bs) (d := d) (pl := pl) (r := u) 0 (8388608 - N) W h
  replace hN := hi_ hN
  clear c1 h1 h
  cases h2 : wantN 0 (8388608 - N) u with
  | err n v =>
   have c3 : ∀ W, PS P L R A c bs d pl W u → Calls Tryz.prog 57 #[.pointer (some ⟨P, 0, none⟩), .int .i64 0, .int .i64 (8388608 - N)] W (WholeP P L R A c bs d pl W (.err n v)) := fun W h => by have := c2.out W h; rw [h2] at this; exact this
   rw [h2] at hK
   simp only [] at hK
   subst hK
   replace c3 := hi_ c3
   replace hA := hi_ hA
   clear h2 c2
   go_enter Tryz.func27, Tryz.ntmps27
   go_wp2_with (first | (go_at_call 57; (with_reducible refine c1'.mono ?_); rintro e w2 ⟨rfl, hP2, hF2⟩; replace hA := hi_ (hA.out.to hP2 hF2); replace p0 := hA.out.ps.p0; replace q0 := hA.out.ps.q0; clear hP2 hF2 c1') | (go_at_call 57; (with_reducible refine (c3.out _ hA.out.ps).mono ?_); rintro e w2 ⟨hn0, rfl, hP2, hF2⟩; replace hA := hi_ (hA.out.to hP2 hF2); have hnb := bne_iff_ne.2 hn0; replace hn0 := hi_ hn0; clear hP2 hF2 c3))
   go_ret2
   exact ⟨hn0.out, rfl, hA.out.ps, hA.out.fr⟩
  | ok t2 v =>
   have hin2 := n_in h2
   obtain ⟨m, hm⟩ : ∃ m, m = t2.n.toNat := ⟨_, rfl⟩
   obtain ⟨M, hM⟩ : ∃ M : Int, M = (m : Nat) := ⟨_, rfl⟩
   have htn : t2.n = M := by omega
   have c3 : ∀ W, PS P L R A c bs d pl W u → Calls Tryz.prog 57 #[.pointer (some ⟨P, 0, none⟩), .int .i64 0, .int .i64 (8388608 - N)] W fun e w' => e = .returned (.tuple #[.int .i64 M, .int .i64 0]) ∧ PS P L R A c bs d pl w' v ∧ Fr L R W w' := fun W h => by have := c2.out W h; rw [h2] at this; rw [← htn]; exact this
   rw [h2] at hK
   simp only [] at hK
   rw [← hm] at hK
   rw [htn] at hin2
   refine h6_ hm htn hM c3 hA hK ?_; clear hm htn hM c3 hA hK; intro hm htn hM c3 hA hK
   clear h2 c2
   go_enter Tryz.func27, Tryz.ntmps27
   go_upto_block 0 with (first | (go_at_call 57; (with_reducible refine c1'.mono ?_); rintro e w2 ⟨rfl, hP2, hF2⟩; replace hA := hi_ (hA.out.to hP2 hF2); replace p0 := hA.out.ps.p0; replace q0 := hA.out.ps.q0; clear hP2 hF2 c1') | (go_at_call 57; (with_reducible refine (c3.out _ hA.out.ps).mono ?_); rintro e w2 ⟨rfl, hP2, hF2⟩; replace hA := hi_ (hA.out.to hP2 hF2); replace p0 := hA.out.ps.p0; replace q0 := hA.out.ps.q0; clear hP2 hF2 c3))
   obtain ⟨Z, hZ⟩ : ∃ Z, Z = whiteR v := ⟨_, rfl⟩
   have hzs : Z <:+ bs := by rw [hZ]; exact (List.dropWhile_suffix _).trans hA.out.ps.suf
   have hK2 := hK.out
   rw [← hZ] at hK2
   replace hK := hi_ hK2
   replace hZ := hi_ hZ
   replace hzs := hi_ hzs
   clear hK2
   go_cut [] from 31 to 58 (fun wx => TS W P L R A c bs d pl [] (.slice none 0 0) wx Z)
   case first =>
    go_wp2_with fail
    go_loopw [] (fun wr => ∃ r1, TS W P L R A c bs d pl [] (.slice none 0 0) wr r1 ∧ whiteR r1 = Z) (fun wr => bs.length + 1 - posOf L wr)
    case atStart => exact ⟨_, hA.out, hZ.out.symm⟩
    case round =>
     clear hA
     obtain ⟨r1, hA, hE⟩ := hrel
     have hbw : bs.length + 1 - posOf L wr = r1.length + 1 := by rw [hA.ps.posOf]; have := pos_len hA.ps.suf; have := pos_le bs r1; omega
     have p0 := hA.ps.p0
     have q0 := hA.ps.q0
     replace hbw := hi_ hbw
     cases r1 with
     | nil =>
      have cl := hi_ fun W h => ps_left (P := P) (L := L) (R := R) (A := A) (c := c) (bs := bs) (d := d) (pl := pl) (r := []) W h
      have hEz : Z = [] := by rw [← hE]; rfl
      rw [← hEz] at hA
      have hA2 := hi_ hA
      rw [hEz] at hA
      replace hA := hi_ hA
      replace hEz := hi_ hEz
      clear hE
      go_wp2_with (go_at_call 58; (with_reducible refine (cl.out _ hA.out.ps).mono ?_); rintro e w2 ⟨rfl, rfl⟩)
      go_meet
      exact hA2.out
     | cons x t =>
      have cl := hi_ fun W h => ps_left (P := P) (L := L) (R := R) (A := A) (c := c) (bs := bs) (d := d) (pl := pl) (r := x :: t) W h
      obtain ⟨Y, hY⟩ : ∃ Y : Int, Y = (x.toNat : Nat) := ⟨_, rfl⟩
      have ck := hi_ fun W h => ps_peekC (P := P) (L := L) (R := R) (A := A) (c := c) (bs := bs) (d := d) (pl := pl) (t := t) hY W h
      have cn := hi_ fun W h => ps_next (P := P) (L := L) (R := R) (A := A) (c := c) (bs := bs) (d := d) (pl := pl) (t := t) hY W h
      obtain ⟨wb, hwb⟩ : ∃ b, b = whiteB x := ⟨_, rfl⟩
      have cw := hi_ fun w => asc_WhiteI hY hwb w
      have hE2 : (if wb = true then whiteR t else x :: t) = Z := by rw [← hE, hwb]; unfold whiteR; rw [List.dropWhile_cons]
      obtain ⟨ln, hln⟩ : ∃ n, n = (x :: t).length := ⟨_, rfl⟩
      have hlp : 0 < ln := by rw [hln]; simp
      rw [← hln] at cl
      refine h5_ hA hwb hY hln hE2 ?_; clear hA hwb hY hln hE2; intro hA hwb hY hln hE2
      clear hE
      cases wb with
      | true =>
       go_wp2_with (first | (go_at_call 58; (with_reducible refine (cl.out _ hA.out.ps).mono ?_); rintro e w2 ⟨rfl, rfl⟩) | (go_at_call 56; (with_reducible refine (ck.out _ hA.out.ps).mono ?_); rintro e w2 ⟨rfl, hP2, hF2⟩; replace hA := hi_ (hA.out.to hP2 hF2); replace p0 := hA.out.ps.p0; replace q0 := hA.out.ps.q0; clear hP2 hF2) | (go_at_call 59; (with_reducible refine (cw.out _).mono ?_); rintro e w3 ⟨rfl, rfl⟩) | (go_at_call 60; (with_reducible refine (cn.out _ hA.out.ps).mono ?_); rintro e w4 ⟨rfl, hP2, hF2⟩; replace hA := hi_ (hA.out.to hP2 hF2); replace p0 := hA.out.ps.p0; replace q0 := hA.out.ps.q0; clear hP2 hF2))
       have hE3 : whiteR t = Z := by simpa using hE2.out
       have e1 := hA.out.ps.posOf
       have e2 := pos_len hA.out.ps.suf
       have e3 := pos_le bs t
       have e4 := hbw.out
       simp only [List.length_cons] at e4
       exact ⟨⟨t, hA.out, hE3⟩, by rw [e1]; omega⟩
      | false =>
       have hE3 : x :: t = Z := by simpa using hE2.out
       replace hE3 := hi_ hE3
       go_wp2_with (first | (go_at_call 58; (with_reducible refine (cl.out _ hA.out.ps).mono ?_); rintro e w2 ⟨rfl, rfl⟩) | (go_at_call 56; (with_reducible refine (ck.out _ hA.out.ps).mono ?_); rintro e w2 ⟨rfl, hP2, hF2⟩; replace hA := hi_ (hA.out.to hP2 hF2); replace p0 := hA.out.ps.p0; replace q0 := hA.out.ps.q0; clear hP2 hF2) | (go_at_call 59; (with_reducible refine (cw.out _).mono ?_); rintro e w3 ⟨rfl, rfl⟩))
       go_meet
       rw [← hE3.out]
       exact hA.out
   case rest =>
    replace hA := hi_ hcut
    clear hcut
    replace p0 := hA.out.ps.p0
    replace q0 := hA.out.ps.q0
    replace hmM := hM.out
    rw [hmM]
    replace hmM := hi_ hmM
    go_wp2
    go_loopw [7, 60] (fun s7 s60 wr => ∃ (i j : Nat) (acc : List R4) (r1 : Bs), s60 = .int .i64 i ∧ i + j = m ∧ TS W P L R A c bs d pl acc s7 wr r1 ∧ rowsS N j i acc r1 = K ∧ acc.length = i) (fun _ s60 _ => m - (RowKit.intOf s60).toNat)
    case atStart => exact ⟨0, m, [], Z, rfl, by omega, hA.out, hK.out.symm, rfl⟩
    case round =>
     clear hA
     obtain ⟨i, j, acc, r1, rfl, hij, hA, hE, hal⟩ := hrel
     have p0 := hA.ps.p0
     have q0 := hA.ps.q0
     have hmb := hmM.out
     have hmx : m ≤ 8388608 := by omega
     cases j with
     | zero =>
      obtain rfl : i = m := by omega
      obtain rfl : K = .ok acc r1 := by rw [← hE, rowsS]
      obtain ⟨vA, vc, hv7, _⟩ := hA.own.out (by unfold maxLen; omega)
      replace hA := hi_ hA
      clear hE
      go_wp2
      go_ret2
      exact ⟨_, rfl, hA.out.own, hA.out.ps, hA.out.fr⟩
     | succ j =>
      have him : i < m := by omega
      have hsuf := hA.ps.suf
      have cps := hi_ fun W h => ps_pos (P := P) (L := L) (R := R) (A := A) (c := c) (bs := bs) (d := d) (pl := pl) (r := r1) W h
      obtain ⟨q, hq⟩ : ∃ q : Int, q = (pos bs r1 : Nat) := ⟨_, rfl⟩
      rw [← hq] at cps
      have csk := hi_ fun (r2 : Bs) W h => ps_seek (P := P) (L := L) (R := R) (A := A) (c := c) (bs := bs) (d := d) (pl := pl) (r := r2) hsuf hq W h
      replace hq := hi_ hq
      replace hsuf := hi_ hsuf
      by_cases h20 : r1.length < 20
      ·obtain rfl : K = .err 2 r1 := by rw [← hE, rowsS, if_pos h20]
       have ct := hi_ fun W h => ps_takeNo (P := P) (L := L) (R := R) (A := A) (c := c) (bs := bs) (d := d) (pl := pl) (r := r1) W h h20
       replace hA := hi_ hA
       replace h20 := hi_ h20
       clear hE csk
       go_wp2_with (first | (go_at_call 14; (with_reducible refine (cps.out _ hA.out.ps).mono ?_); rintro e w2 ⟨rfl, rfl⟩) | (go_at_call 61; (with_reducible refine (ct.out _ hA.out.ps).mono ?_); rintro e w3 ⟨a2, n2, c2, rfl, hP2, hF2⟩; replace hA := hi_ (hA.out.to hP2 hF2); replace p0 := hA.out.ps.p0; replace q0 := hA.out.ps.q0; clear hP2 hF2))
       go_ret2
       exact ⟨by decide, rfl, hA.out.ps, hA.out.fr⟩
      ·have hal9 : acc.length ≤ 1000000000 := by omega
       replace hal := hi_ hal
       have ct := hi_ fun W h => ps_take (P := P) (L := L) (R := R) (A := A) (c := c) (bs := bs) (d := d) (pl := pl) (r := r1) W h (by omega)
       have h20l : (r1.take 20).length = 20 := by rw [List.length_take]; omega
       have ce := fun A c (hc : 20 ≤ c) W (hby : Byt W A (r1.take 20)) => tab_entry A c (r1.take 20) h20l hc W hby
       have hE2 := hE
       rw [rowsS, if_neg h20, entry_ok] at hE2
       obtain ⟨ok, hok⟩ : ∃ x, x = okE (r1.take 20) := ⟨_, rfl⟩
       obtain ⟨KD, hKD⟩ : ∃ x, x = kindE (r1.take 20) := ⟨_, rfl⟩
       obtain ⟨n1, hn1⟩ : ∃ x, x = (numA ((r1.take 20).take 10)).1 := ⟨_, rfl⟩
       obtain ⟨n2, hn2⟩ : ∃ x, x = (numA (((r1.take 20).drop 11).take 5)).1 := ⟨_, rfl⟩
       rw [← hok, ← hKD, ← hn1, ← hn2] at ce hE2
       refine h9_ ce hE2 hA hok hKD hn1 hn2 h20 h20l ?_; clear ce hE2 hA hok hKD hn1 hn2 h20 h20l; intro ce hE2 hA hok hKD hn1 hn2 h20 h20l
       clear hE
       obtain ⟨vA, vc, hv7, _⟩ := hA.out.own.out (by unfold maxLen; omega)
       subst hv7
       go_upto_region 18 with (first | (go_at_call 14; (with_reducible refine (cps.out _ hA.out.ps).mono ?_); rintro e w2 ⟨rfl, rfl⟩) | (go_at_call 61; (with_reducible refine (ct.out _ hA.out.ps).mono ?_); rintro e w3 ⟨a2, c2, rfl, hby, hcap, hP2, hF2⟩; replace hA := hi_ (hA.out.to hP2 hF2); replace p0 := hA.out.ps.p0; replace q0 := hA.out.ps.q0; have ce2 := ce.out a2 c2 hcap _ hby; replace hby := hi_ hby; clear hP2 hF2) | (go_at_call 62; (with_reducible refine ce2.mono ?_); rintro e w6 ⟨rfl, hB6⟩; replace hA := hi_ (hA.out.belowW hB6); replace p0 := hA.out.ps.p0; replace q0 := hA.out.ps.q0; clear hB6 ce2))
       obtain ⟨W7, hW7, b7, hU7⟩ := newB w6 64 #[.int .i64 0, .int .i64 KD, .int .i64 n1, .int .i64 n2]
       rw [← hW7]
       have hsz6 := hA.out.fr.size
       have hltv : (Value.slice vA acc.length vc).ownBlock = none ∨ (Value.slice vA acc.length vc).ownBlock ≠ some w6.heap.size := .inr fun e => by have := (World.ownsRow.lt hA.out.own _ e).2; omega
       replace hA := hi_ (hA.out.belowW b7)
       replace p0 := hA.out.ps.p0; replace q0 := hA.out.ps.q0;
       refine h3_ hW7 b7 hltv ?_; clear hW7 b7 hltv; intro hW7 b7 hltv
       cases ok with
       | false =>
        have hE3 : K = .err 4 r1 := by have h3 := hE2.out; simpa using h3.symm
        subst hE3
        replace hU7 := hi_ hU7
        clear hE2
        go_wp2_with (first | (go_at_call 30; (with_reducible refine (csk.out _ _ hA.out.ps).mono ?_); rintro e w8 ⟨rfl, hP2, hF2⟩; replace hA := hi_ (hA.out.to hP2 hF2); clear hP2 hF2))
        go_ret2
        exact ⟨by decide, rfl, hA.out.ps, hA.out.fr⟩
       | true =>
        have hE3 : rowsS N j (i + 1) (acc ++ [⟨N + i, KD, n1, n2⟩]) (r1.drop 20) = K := by have h3 := hE2.out; simpa using h3
        have hwi : IntKind.i64.wrap (N + (i : Int)) = N + i := by rw [IntWalk.i64_in _ (by omega)]
        obtain ⟨Ni, hNi⟩ : ∃ x : Int, x = N + i := ⟨_, rfl⟩
        rw [← hNi] at hE3 hwi
        obtain ⟨k0, k1, k2, k3, f0, -⟩ := hU7.b4
        refine h3_ hU7 hE3 hNi ?_; clear hU7 hE3 hNi; intro hU7 hE3 hNi
        clear hE2
        go_upto_region 22 with fail
        rw [← hNi.out]
        obtain ⟨W8, hW8⟩ : ∃ Wx, Wx = W7.setCell ⟨w6.heap.size, 0, none⟩ (.int .i64 Ni) := ⟨_, rfl⟩
        rw [← hW8]
        have hU8 : Blk W8 w6.heap.size 64 #[.int .i64 Ni, .int .i64 KD, .int .i64 n1, .int .i64 n2] := by rw [hW8]; exact hU7.out.set_ 0 _
        have hA8 := hA.out.cellU w6.heap.size 0 (.int .i64 Ni) hsz6 hltv.out
        rw [← hW8] at hA8
        replace hA := hi_ hA8
        clear hA8 k0 k1 k2 k3 f0
        obtain ⟨k0, k1, k2, k3, -⟩ := hU8.b4
        obtain ⟨W9, hW9, b9⟩ := newA W8 64 #[.int .i64 Ni, .int .i64 KD, .int .i64 n1, .int .i64 n2]
        have hA9 := hA.out.belowW b9
        have hc9 : ∀ j u, (rv ⟨Ni, KD, n1, n2⟩)[j]? = some u → W9.cell? ⟨W8.heap.size, j, none⟩ = some u := fun j u hu => by rw [hW9]; exact new_cellsL W8 _ _ j u hu
        refine h7_ hU8 hW8 hW9 b9 hA9 hc9 hal9 ?_; clear hU8 hW8 hW9 b9 hA9 hc9 hal9; intro hU8 hW8 hW9 b9 hA9 hc9 hal9
        go_wp2_with (at_builtin; rw [← hW9.out]; refine app_r rt28 rfl _ _ rfl W.heap.size _ acc rfl hA9.out.own W8.heap.size ⟨Ni, KD, n1, n2⟩ rfl hc9.out hal9.out hA9.out.fr.size ?_; intro vE wE hRE hgE hatE; obtain ⟨AE, cE, hvE, _⟩ := hRE.out (by rw [List.length_append]; simp only [List.length_cons, List.length_nil]; have := hal9.out; unfold maxLen; omega); subst hvE; have hAE := hA9.out.row hRE hgE; obtain ⟨nE, hnE⟩ : ∃ n, n = (acc ++ [(⟨Ni, KD, n1, n2⟩ : R4)]).length := ⟨_, rfl⟩; rw [← hnE] at hAE ⊢; replace hAE := hi_ hAE; replace hnE := hi_ hnE; clear hRE hgE hatE)
        go_roundw
        case rel => exact ⟨i + 1, j, _, r1.drop 20, by go_num, by omega, hAE.out, hE3.out, by rw [List.length_append, hal.out]; simp only [List.length_cons, List.length_nil]⟩
        case measure => simp [RowKit.intOf]; omega
end
end Go.Proofs.YthffpbkndnhlfaaGreatDoor

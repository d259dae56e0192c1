/- Walks and laws, joined: part F. No condition. -/
import Derived.Test.YtgomlebemefdcaaDoorXsJE
import Derived.Test.YtgomlebemefdcaaDoorXsJD
import Derived.Test.YtgomlebemefdcaaDoorXsJC
import Derived.Test.YtgomlebemefdcaaDoorRows
import Derived.Lib.LaidU8T
set_option linter.unusedSimpArgs false
set_option linter.unusedVariables false
/- The law of comments and instructions, walked. No condition. -/
namespace Go.Proofs.YtgomlebemefdcaaDoor
open Go Go.RowKit Go.Wk Go.Xt Go.Xe
theorem parse_node {w : World} {A : Option Addr} {c m2 : Nat} {bs r1 r2 : List UInt8} {n : Nd} (hb : Byt w A bs) (hc : bs.length ≤ c) (hlen : bs.length ≤ 100000) (hs : signsB bs = true) (hT : Lib.Utf8Tabs 0 1 w) (h2 : 2 ≤ w.heap.size) (hne : bs ≠ []) (a1 : Around bs r1) (hE : Elem 32 0 r1 n m2 r2) (a2 : Around r2 []) :
    Calls Tryd.prog 9 #[.slice A bs.length c] w fun e w' => ∃ (N0 N1 N2 : ByteArray) (a1 : Option Addr) (n1 c1 : Nat) (a2 : Option Addr) (n2 c2 : Nat) (bl : List Nat), e = .returned (.tuple #[.agg #[.string N0, .string N1, .string N2, .slice a1 n1 c1, .slice a2 n2 c2], .int .i64 0]) ∧
      NdAt w' n [.string N0, .string N1, .string N2, .slice a1 n1 c1, .slice a2 n2 c2] bl ∧ (∀ k ∈ bl, w.heap.size ≤ k ∧ k < w'.heap.size) ∧ Below w.heap.size w w' := by
  refine (xml_Parse (P := fun W W1 vs k => k = 0 ∧ ∃ bl, NdAt W1 n vs.toList bl ∧ (∀ j ∈ bl, W.heap.size ≤ j ∧ j < W1.heap.size)) hb hc hlen hs hT h2 hne fun W hW => ?_).mono ?_
  · refine (xml_all hW ⟨by simp, Nat.zero_le _⟩ a1 hE a2).mono ?_
    rintro e w' ⟨N, a1, n1, c1, a2, n2, c2, bl, rfl, hN, hbl, hF⟩
    exact ⟨⟨#[]⟩, N, ⟨#[]⟩, a1, n1, c1, a2, n2, c2, 0, rfl, hF, ⟨rfl, bl, hN, hbl⟩, fun h => absurd rfl h⟩
  · rintro e w' ⟨N0, N1, N2, a1, n1, c1, a2, n2, c2, k, W, W1, rfl, ⟨rfl, bl, hN, hbl⟩, h3, h4, h5, hB⟩
    exact ⟨N0, N1, N2, a1, n1, c1, a2, n2, c2, bl, rfl, hN.keep fun j hj => h4 j (hbl j hj).1 (hbl j hj).2, fun j hj => by have := hbl j hj; omega, hB⟩
def bytes (l : List UInt8) : ByteArray := ⟨l.toArray⟩
theorem bytes_str (l : List UInt8) : Value.string (bytes l) = str l := rfl
theorem bytes_size (l : List UInt8) : (bytes l).size = l.length := by unfold bytes; show l.toArray.size = _; simp
theorem bytes_app2 (a b : List UInt8) : bytes a ++ bytes b = bytes (a ++ b) := bytes_ext (by rw [bytes_app]; simp [bytes])
theorem sk_cell (j : Nat) (hj : j < 4) : ([.string ⟨#[]⟩, .string ⟨#[60, 33, 45, 45, 32, 45, 32, 45, 45, 62]⟩, .string ⟨#[60, 63, 112, 32, 60, 97, 62, 32, 63, 62]⟩, .string ⟨#[60, 33, 45, 45, 60, 98, 62, 38, 45, 45, 62]⟩] : List Value)[j]? = some (.string (bytes (sk j))) := by
  have : j = 0 ∨ j = 1 ∨ j = 2 ∨ j = 3 := by omega
  rcases this with rfl | rfl | rfl | rfl <;> rfl
theorem relA {l : List UInt8} {x : UInt8} {k D D' : Nat} {S : ByteArray} {T : List UInt8} (hk : k < l.length) (hx : x = l[k]) (hS : S = bytes ([60, 114, 62] ++ preA (l.take k) 0)) (hD : D = dep (l.take k) 0) (ht : Xe.tok x D = (T, D')) : S ++ bytes T = bytes ([60, 114, 62] ++ preA (l.take (k + 1)) 0) := by
  rw [hS, bytes_app2, List.take_succ_eq_append_getElem hk, ← hx, preA_snoc, ← hD, ht]
  simp
theorem relB {l : List UInt8} {x : UInt8} {k D D' : Nat} {S K : ByteArray} {T : List UInt8} (hk : k < l.length) (hx : x = l[k]) (hS : S = bytes ([60, 33, 45, 45, 97, 45, 45, 62, 60, 63, 120, 63, 62, 60, 114, 62] ++ preB (l.take k) 0)) (hD : D = dep (l.take k) 0) (hK : K = bytes (sk (x.toNat / 64))) (ht : Xe.tok x D = (T, D')) : S ++ K ++ bytes T ++ K = bytes ([60, 33, 45, 45, 97, 45, 45, 62, 60, 63, 120, 63, 62, 60, 114, 62] ++ preB (l.take (k + 1)) 0) := by
  rw [hS, hK, bytes_app2, bytes_app2, bytes_app2, List.take_succ_eq_append_getElem hk, ← hx, preB_snoc, ← hD, ht]
  simp
theorem relD {l : List UInt8} {x : UInt8} {k D D' : Nat} {T : List UInt8} (hk : k < l.length) (hx : x = l[k]) (hD : D = dep (l.take k) 0) (ht : Xe.tok x D = (T, D')) : dep (l.take (k + 1)) 0 = D' := by
  rw [List.take_succ_eq_append_getElem hk, ← hx, dep_snoc, ← hD, ht]
theorem relE {D : Nat} {S : ByteArray} (hS : S = bytes (endE D)) (h0 : 0 < D) : S.extract 4 (4 * (D + 1)) = bytes (endE (D - 1)) := by
  obtain ⟨d, rfl⟩ : ∃ d, D = d + 1 := ⟨D - 1, by omega⟩
  have hl := endE_len d
  refine bytes_ext ?_
  rw [hS, ByteArray.data_extract]
  show ((endE (d + 1)).toArray.extract 4 (4 * (d + 1 + 1))).toList = endE d
  rw [Array.toList_extract]
  show List.extract (endE (d + 1)) 4 (4 * (d + 1 + 1)) = endE d
  unfold List.extract
  show List.take (4 * (d + 1 + 1) - 4) (List.drop 4 ([60, 47, 101, 62] ++ endE d)) = endE d
  show List.take (4 * (d + 1 + 1) - 4) (endE d) = endE d
  exact List.take_of_length_le (by omega)
/-- what the operations of the last region yield -/
def GS (n : Nd) (U U' : Array Value) : Nat → Value → World → Prop := fun j v w => match j with
  | 0 | 3 => v = .int .i64 0
  | 7 => v = .agg U
  | 9 => v = .agg U'
  | 8 | 10 => ∃ (U0 U1 U2 : ByteArray) (a3 : Option Addr) (n3 c3 : Nat) (a4 : Option Addr) (n4 c4 : Nat) (b : List Nat), v = .agg #[.string U0, .string U1, .string U2, .slice a3 n3 c3, .slice a4 n4 c4] ∧ RnAt w n [.string U0, .string U1, .string U2, .slice a3 n3 c3, .slice a4 n4 c4] b ∧ (∀ k ∈ b, k < w.heap.size)
  | _ => v = .bool true
theorem GS_mono {n : Nd} {U U' : Array Value} (j : Nat) (v : Value) (w w' : World) (h : GS n U U' j v w) (hk : Below w.heap.size w w') : GS n U U' j v w' := by
  have hs := hk.size
  unfold GS at h ⊢
  split at h <;> first
    | exact h
    | (obtain ⟨U0, U1, U2, a3, n3, c3, a4, n4, c4, b, e, h1, h2⟩ := h; exact ⟨U0, U1, U2, a3, n3, c3, a4, n4, c4, b, e, h1.keep fun j hj => hk.block j (h2 j hj), fun j hj => Nat.lt_of_lt_of_le (h2 j hj) hs⟩)
/-- the seven ways of a round -/
theorem tok_ways (x : UInt8) (k : Nat) : (x.toNat % 5 = 0 ∧ Xe.tok x k = ([116], k)) ∨ (x.toNat % 5 = 1 ∧ Xe.tok x k = ([38, 97, 109, 112, 59], k)) ∨ (x.toNat % 5 = 2 ∧ k < 20 ∧ Xe.tok x k = ([60, 101, 62], k + 1)) ∨ (x.toNat % 5 = 2 ∧ ¬ k < 20 ∧ Xe.tok x k = ([], k)) ∨
    (x.toNat % 5 = 3 ∧ 0 < k ∧ Xe.tok x k = ([60, 47, 101, 62], k - 1)) ∨ (x.toNat % 5 = 3 ∧ k = 0 ∧ Xe.tok x k = ([], k)) ∨ (x.toNat % 5 = 4 ∧ Xe.tok x k = ([60, 102, 32, 103, 61, 39, 39, 47, 62], k)) := by
  unfold Xe.tok
  have : x.toNat % 5 = 0 ∨ x.toNat % 5 = 1 ∨ x.toNat % 5 = 2 ∨ x.toNat % 5 = 3 ∨ x.toNat % 5 = 4 := by omega
  rcases this with h | h | h | h | h
  · simp [h]
  · simp [h]
  · by_cases h2 : k < 20 <;> simp [h, h2]
  · by_cases h2 : k = 0
    · simp [h, h2]
    · have : 0 < k := by omega
      simp [h, h2, this]
  · simp [h]
set_option maxHeartbeats 4000000 in
set_option maxRecDepth 100000 in
theorem skips_law {w : World} {A : Option Addr} {c : Nat} {l : List UInt8} (hb : Byt w A l) (hc : l.length ≤ c) (hT : Lib.Utf8Tabs 0 1 w) (h2 : 2 ≤ w.heap.size)
    (haw : Calls Tryd.prog 8 #[] w fun e w' => e = .returned (.bool true) ∧ Below w.heap.size w w') :
    Calls Tryd.prog 5 #[.slice A l.length c] w fun e w' => e = .returned (.bool true) ∧ Below w.heap.size w w' := by
  have hm := hb.1
  unfold maxLen at hm
  by_cases h60 : 60 < l.length
  · replace hb := Lib.hid hb
    replace hT := Lib.hid hT
    go_enter Tryd.func5, Tryd.ntmps5
    go_wp2_with (go_at_call 8; (with_reducible refine haw.mono ?_); rintro e w1 ⟨rfl, b1⟩; replace b1 := Lib.hid b1)
    go_ret
    exact ⟨rfl, b1.out⟩
  have hcell : ∀ i (hi : i < l.length), ∃ b o, A = some ⟨b, o, none⟩ ∧ w.cell? ⟨b, o + i, none⟩ = some (.int .u8 (l[i].toNat : Int)) := fun i hi => by
    obtain ⟨b, o, e, h⟩ := hb.2 (by omega)
    exact ⟨b, o, e, h i hi⟩
  replace hcell := Lib.hid hcell
  replace hb := Lib.hid hb
  replace hT := Lib.hid hT
  obtain ⟨m, hme⟩ : ∃ m, m = l.length := ⟨_, rfl⟩
  rw [← hme] at hc hm h60 ⊢
  replace hme := Lib.hid hme
  have hg1 : decide ((60 : Int) < (m : Int)) = false := by simp; omega
  go_enter Tryd.func5, Tryd.ntmps5
  go_wp2_with (go_at_call 8; (with_reducible refine haw.mono ?_); rintro e w1 ⟨rfl, b1⟩; replace b1 := Lib.hid b1)
  go_loopw [3, 4, 5, 6, 7] (fun s3 s4 s5 s6 s7 wr => ∃ k : Nat, k ≤ m ∧ s7 = .int .i64 k ∧ s3 = .string (bytes ([60, 114, 62] ++ preA (l.take k) 0)) ∧ s4 = .string (bytes ([60, 33, 45, 45, 97, 45, 45, 62, 60, 63, 120, 63, 62, 60, 114, 62] ++ preB (l.take k) 0)) ∧ s5 = .string (bytes (endE (dep (l.take k) 0))) ∧ s6 = .int .i64 (dep (l.take k) 0 : Nat) ∧ Below w.heap.size w wr) (fun _ _ _ _ s7 _ => m - (RowKit.intOf s7).toNat)
  case atStart => exact ⟨0, by omega, rfl, rfl, rfl, rfl, rfl, b1.out⟩
  case round =>
    obtain ⟨k, hk, rfl, rfl, rfl, rfl, rfl, hB⟩ := hrel
    have zA : (bytes ([60, 114, 62] ++ preA (l.take k) 0)).size ≤ 600 := by rw [bytes_size]; have := preA_len (l.take k) 0; simp at this ⊢; omega
    have zB : (bytes ([60, 33, 45, 45, 97, 45, 45, 62, 60, 63, 120, 63, 62, 60, 114, 62] ++ preB (l.take k) 0)).size ≤ 2000 := by rw [bytes_size]; have := preB_len (l.take k) 0; simp at this ⊢; omega
    have zD := dep_le (l.take k) 0 (by omega)
    have zE : (bytes (endE (dep (l.take k) 0))).size = 4 * (dep (l.take k) 0 + 1) := by rw [bytes_size, endE_len]
    obtain ⟨SA, hSA⟩ : ∃ S, S = bytes ([60, 114, 62] ++ preA (l.take k) 0) := ⟨_, rfl⟩
    obtain ⟨SB, hSB⟩ : ∃ S, S = bytes ([60, 33, 45, 45, 97, 45, 45, 62, 60, 63, 120, 63, 62, 60, 114, 62] ++ preB (l.take k) 0) := ⟨_, rfl⟩
    obtain ⟨SE, hSE⟩ : ∃ S, S = bytes (endE (dep (l.take k) 0)) := ⟨_, rfl⟩
    obtain ⟨D, hD⟩ : ∃ d, d = dep (l.take k) 0 := ⟨_, rfl⟩
    rw [← hSA] at zA ⊢
    rw [← hSB] at zB ⊢
    rw [← hSE, ← hD] at zE ⊢
    rw [← hD] at zD
    replace hSA := Lib.hid hSA
    replace hSB := Lib.hid hSB
    replace hSE := Lib.hid hSE
    replace hD := Lib.hid hD
    by_cases hkm : k < m
    · have hkl : k < l.length := by rw [← hme.out]; exact hkm
      obtain ⟨bb, o, rfl, hcx0⟩ := hcell.out k hkl
      obtain ⟨x, hx⟩ : ∃ x, x = l[k] := ⟨_, rfl⟩
      have hcx : wr.cell? ⟨bb, o + k, none⟩ = some (.int .u8 (x.toNat : Int)) := by
        rw [hx]; exact (hB.cell (cell_lt hcx0)).trans hcx0
      have hx8 := x.toNat_lt
      have lb : bb < wr.heap.size := cell_lt hcx
      replace hB := Lib.hid hB
      replace hx := Lib.hid hx
      clear hcx0
      have hways := tok_ways x D
      have hsk0 := sk_cell (x.toNat / 64) (by omega)
      obtain ⟨SK, hSK⟩ : ∃ S, S = bytes (sk (x.toNat / 64)) := ⟨_, rfl⟩
      rw [← hSK] at hsk0
      have zK : SK.size ≤ 11 := by rw [hSK, bytes_size]; exact sk_len _
      replace hSK := Lib.hid hSK
      rcases hways with ⟨hr, ht⟩ | ⟨hr, ht⟩ | ⟨hr, hd, ht⟩ | ⟨hr, hd, ht⟩ | ⟨hr, hd, ht⟩ | ⟨hr, hd, ht⟩ | ⟨hr, ht⟩
      · have hxr : (x.toNat : Int) % 5 = 0 := by omega
        have qA := relA hkl hx.out hSA.out hD.out ht
        have qB := relB hkl hx.out hSB.out hD.out hSK.out ht
        have qD := relD hkl hx.out hD.out ht
        replace qA := Lib.hid qA
        replace qB := Lib.hid qB
        replace qD := Lib.hid qD
        replace ht := Lib.hid ht
        clear hr
        clear zE
        go_wp2
        go_roundw
        case rel =>
          refine ⟨k + 1, by omega, by go_num, ?_, ?_, ?_, ?_, hB.out.alloc hB.out.size _⟩
          · rw [← qA.out]; first | rfl | (exact congrArg Value.string (bytes_ext (by simp [bytes_app, bytes])))
          · rw [← qB.out]; first | rfl | (exact congrArg Value.string (bytes_ext (by simp [bytes_app, bytes])))
          · rw [qD.out]; exact congrArg Value.string (by rw [hD.out]; exact hSE.out)
          · rw [qD.out] <;> go_num
        case measure => simp [RowKit.intOf]; omega
      · have hxr : (x.toNat : Int) % 5 = 1 := by omega
        have qA := relA hkl hx.out hSA.out hD.out ht
        have qB := relB hkl hx.out hSB.out hD.out hSK.out ht
        have qD := relD hkl hx.out hD.out ht
        replace qA := Lib.hid qA
        replace qB := Lib.hid qB
        replace qD := Lib.hid qD
        replace ht := Lib.hid ht
        clear hr
        clear zE
        go_wp2
        go_roundw
        case rel =>
          refine ⟨k + 1, by omega, by go_num, ?_, ?_, ?_, ?_, hB.out.alloc hB.out.size _⟩
          · rw [← qA.out]; first | rfl | (exact congrArg Value.string (bytes_ext (by simp [bytes_app, bytes])))
          · rw [← qB.out]; first | rfl | (exact congrArg Value.string (bytes_ext (by simp [bytes_app, bytes])))
          · rw [qD.out]; exact congrArg Value.string (by rw [hD.out]; exact hSE.out)
          · rw [qD.out] <;> go_num
        case measure => simp [RowKit.intOf]; omega
      · have hxr : (x.toNat : Int) % 5 = 2 := by omega
        have hdd : decide ((D : Int) < 20) = true := by simp; omega
        have zE2 : SE.size ≤ 200 := by omega
        have qA := relA hkl hx.out hSA.out hD.out ht
        have qB := relB hkl hx.out hSB.out hD.out hSK.out ht
        have qD := relD hkl hx.out hD.out ht
        replace qA := Lib.hid qA
        replace qB := Lib.hid qB
        replace qD := Lib.hid qD
        replace ht := Lib.hid ht
        clear hr
        clear zE
        go_wp2
        go_roundw
        case rel =>
          refine ⟨k + 1, by omega, by go_num, ?_, ?_, ?_, ?_, hB.out.alloc hB.out.size _⟩
          · rw [← qA.out]; first | rfl | (exact congrArg Value.string (bytes_ext (by simp [bytes_app, bytes])))
          · rw [← qB.out]; first | rfl | (exact congrArg Value.string (bytes_ext (by simp [bytes_app, bytes])))
          · rw [qD.out]; exact congrArg Value.string (by rw [hSE.out, hD.out]; exact bytes_app2 [60, 47, 101, 62] _)
          · rw [qD.out] <;> go_num
        case measure => simp [RowKit.intOf]; omega
      · have hxr : (x.toNat : Int) % 5 = 2 := by omega
        have hdd : decide ((D : Int) < 20) = false := by simp; omega
        have hdd2 : 20 ≤ D := by omega
        have qA := relA hkl hx.out hSA.out hD.out ht
        have qB := relB hkl hx.out hSB.out hD.out hSK.out ht
        have qD := relD hkl hx.out hD.out ht
        replace qA := Lib.hid qA
        replace qB := Lib.hid qB
        replace qD := Lib.hid qD
        replace ht := Lib.hid ht
        clear hr
        clear zE
        go_wp2
        go_roundw
        case rel =>
          refine ⟨k + 1, by omega, by go_num, ?_, ?_, ?_, ?_, hB.out.alloc hB.out.size _⟩
          · rw [← qA.out]; first | rfl | (exact congrArg Value.string (bytes_ext (by simp [bytes_app, bytes])))
          · rw [← qB.out]; first | rfl | (exact congrArg Value.string (bytes_ext (by simp [bytes_app, bytes])))
          · rw [qD.out]; exact congrArg Value.string (by rw [hD.out]; exact hSE.out)
          · rw [qD.out] <;> go_num
        case measure => simp [RowKit.intOf]; omega
      · have hxr : (x.toNat : Int) % 5 = 3 := by omega
        have hdd : decide ((0 : Int) < (D : Int)) = true := by simp; omega
        have zE4 : 4 ≤ SE.size := by omega
        have qA := relA hkl hx.out hSA.out hD.out ht
        have qB := relB hkl hx.out hSB.out hD.out hSK.out ht
        have qD := relD hkl hx.out hD.out ht
        replace qA := Lib.hid qA
        replace qB := Lib.hid qB
        replace qD := Lib.hid qD
        replace ht := Lib.hid ht
        clear hr
        go_wp2
        go_roundw
        case rel =>
          refine ⟨k + 1, by omega, by go_num, ?_, ?_, ?_, ?_, hB.out.alloc hB.out.size _⟩
          · rw [← qA.out]; first | rfl | (exact congrArg Value.string (bytes_ext (by simp [bytes_app, bytes])))
          · rw [← qB.out]; first | rfl | (exact congrArg Value.string (bytes_ext (by simp [bytes_app, bytes])))
          · rw [qD.out]; exact congrArg Value.string (relE (by rw [hD.out]; exact hSE.out) hd)
          · rw [qD.out] <;> go_num
        case measure => simp [RowKit.intOf]; omega
      · have hxr : (x.toNat : Int) % 5 = 3 := by omega
        have hdd : decide ((0 : Int) < (D : Int)) = false := by simp; omega
        have qA := relA hkl hx.out hSA.out hD.out ht
        have qB := relB hkl hx.out hSB.out hD.out hSK.out ht
        have qD := relD hkl hx.out hD.out ht
        replace qA := Lib.hid qA
        replace qB := Lib.hid qB
        replace qD := Lib.hid qD
        replace ht := Lib.hid ht
        clear hr
        clear zE
        go_wp2
        go_roundw
        case rel =>
          refine ⟨k + 1, by omega, by go_num, ?_, ?_, ?_, ?_, hB.out.alloc hB.out.size _⟩
          · rw [← qA.out]; first | rfl | (exact congrArg Value.string (bytes_ext (by simp [bytes_app, bytes])))
          · rw [← qB.out]; first | rfl | (exact congrArg Value.string (bytes_ext (by simp [bytes_app, bytes])))
          · rw [qD.out]; exact congrArg Value.string (by rw [hD.out]; exact hSE.out)
          · rw [qD.out] <;> go_num
        case measure => simp [RowKit.intOf]; omega
      · have hxr : (x.toNat : Int) % 5 = 4 := by omega
        have qA := relA hkl hx.out hSA.out hD.out ht
        have qB := relB hkl hx.out hSB.out hD.out hSK.out ht
        have qD := relD hkl hx.out hD.out ht
        replace qA := Lib.hid qA
        replace qB := Lib.hid qB
        replace qD := Lib.hid qD
        replace ht := Lib.hid ht
        clear hr
        clear zE
        go_wp2
        go_roundw
        case rel =>
          refine ⟨k + 1, by omega, by go_num, ?_, ?_, ?_, ?_, hB.out.alloc hB.out.size _⟩
          · rw [← qA.out]; first | rfl | (exact congrArg Value.string (bytes_ext (by simp [bytes_app, bytes])))
          · rw [← qB.out]; first | rfl | (exact congrArg Value.string (bytes_ext (by simp [bytes_app, bytes])))
          · rw [qD.out]; exact congrArg Value.string (by rw [hD.out]; exact hSE.out)
          · rw [qD.out] <;> go_num
        case measure => simp [RowKit.intOf]; omega

    · obtain ⟨bA, hbA⟩ : ∃ b, b = textA l := ⟨_, rfl⟩
      obtain ⟨bB, hbB⟩ : ∃ b, b = textB l := ⟨_, rfl⟩
      have hkm2 : k = m := by omega
      have htk : l.take k = l := by rw [hkm2, hme.out]; exact List.take_length
      have eA : SA ++ SE = bytes bA := by rw [hSA.out, hSE.out, htk, bytes_app2, hbA]; unfold textA; rw [bodyA_pre]; simp
      have eB : SB ++ SE ++ (⟨#[60, 63, 122, 63, 62, 32, 60, 33, 45, 45, 122, 45, 45, 62]⟩ : ByteArray) = bytes bB := by
        show SB ++ SE ++ bytes [60, 63, 122, 63, 62, 32, 60, 33, 45, 45, 122, 45, 45, 62] = bytes bB
        rw [hSB.out, hSE.out, htk, bytes_app2, bytes_app2, hbB]; unfold textB; rw [bodyB_pre]; simp
      have lenA : bA.length ≤ 700 := by rw [← bytes_size, ← eA, ByteArray.size_append]; omega
      have lenB : bB.length ≤ 2200 := by rw [← bytes_size, ← eB, ByteArray.size_append, ByteArray.size_append]; have : (⟨#[60, 63, 122, 63, 62, 32, 60, 33, 45, 45, 122, 45, 45, 62]⟩ : ByteArray).size = 14 := rfl; omega
      obtain ⟨n, m2, hEA, hEB⟩ := two_elem l (by rw [← hme.out]; omega)
      have hsA : signsB bA = true := by rw [hbA]; exact signs_ascii _ (textA_asc l)
      have hsB : signsB bB = true := by rw [hbB]; exact signs_ascii _ (textB_asc l)
      have neA : bA ≠ [] := by rw [hbA]; simp [textA]
      have neB : bB ≠ [] := by rw [hbB]; simp [textB]
      have aA : Around bA (textA l) := by rw [hbA]; exact around_here 114 low_r _
      have aB := aroundB l
      rw [← hbB] at aB
      have hsm : Sm n := elem_sm hEA (by rw [← hbA]; omega)
      have hTW : ∀ W, Below w.heap.size w W → Lib.Utf8Tabs 0 1 W ∧ 2 ≤ W.heap.size := fun W hB => ⟨tabs_kept hT.out (hB.block 0 (by omega)) (hB.block 1 (by omega)), by have := hB.size; omega⟩
      have kA := fun W a c (hB : Below w.heap.size w W) (hb : Byt W a bA) (hc : bA.length ≤ c) => parse_node hb hc (by omega) hsA (hTW W hB).1 (hTW W hB).2 neA aA hEA around_end
      have kB := fun W a c (hB : Below w.heap.size w W) (hb : Byt W a bB) (hc : bB.length ≤ c) => parse_node hb hc (by omega) hsB (hTW W hB).1 (hTW W hB).2 neB aB hEB aroundZ
      have cA := fun (W : World) => conv_bytes W (bytes bA) (by rw [bytes_size]; omega)
      have cB := fun (W : World) => conv_bytes W (bytes bB) (by rw [bytes_size]; omega)
      have lA : (bytes bA).size = bA.length := bytes_size _
      have lB : (bytes bB).size = bB.length := bytes_size _
      obtain ⟨nA, hnA⟩ : ∃ n, n = bA.length := ⟨_, rfl⟩
      obtain ⟨nB, hnB⟩ : ∃ n, n = bB.length := ⟨_, rfl⟩
      simp only [lA] at cA
      simp only [lB] at cB
      simp only [← hnA] at cA kA
      simp only [← hnB] at cB kB
      have dA : (bytes bA).data.toList = bA := by simp [bytes]
      have dB : (bytes bB).data.toList = bB := by simp [bytes]
      simp only [dA] at cA
      simp only [dB] at cB
      rw [← eA] at cA
      rw [← eB] at cB
      have hge : ¬ k < m := hkm
      replace hnA := Lib.hid hnA
      replace hnB := Lib.hid hnB
      replace kA := Lib.hid kA
      replace kB := Lib.hid kB
      replace cA := Lib.hid cA
      replace cB := Lib.hid cB
      replace hTW := Lib.hid hTW
      replace hB := Lib.hid hB
      replace hsm := Lib.hid hsm
      clear dA dB eA eB lenA lenB hEA hEB hsA hsB neA neB aA aB lA lB hbA hbB htk
      obtain ⟨ca, W2, hcv2, hb2, hB2, hc2, _⟩ := cA.out wr
      have bw2 := bthen hB.out hB2
      have k2 := kA.out W2 _ ca bw2 hb2 hc2
      replace hb2 := Lib.hid hb2
      replace hB2 := Lib.hid hB2
      replace bw2 := Lib.hid bw2
      go_wp2_with (first
        | (go_at_call 9; (with_reducible refine k2.mono ?_); rintro e w3 ⟨N0, N1, N2, a1, n1, c1, a2, n2, c2, bl, rfl, hN, hbl, b3⟩
           have bn := (Below.refl w3.heap.size w3).alloc (Nat.le_refl _) (.cells #[.string N0, .string N1, .string N2, .slice a1 n1 c1, .slice a2 n2 c2] 27)
           have x4 := Blk.new w3 27 #[.string N0, .string N1, .string N2, .slice a1 n1 c1, .slice a2 n2 c2]
           obtain ⟨cb, W5, hcv5, hb5, hB5, hc5, _⟩ := cB.out (w3.alloc (.cells #[.string N0, .string N1, .string N2, .slice a1 n1 c1, .slice a2 n2 c2] 27))
           simp only [World.size_alloc] at hcv5 hb5
           have bw3 := bthen bw2.out b3
           have bw5 := bthen (bthen bw3 bn) hB5
           have k5 := kB.out W5 _ cb bw5 hb5 hc5
           have x5 := x4.below hB5 x4.lt
           have hN5 := hN.keep fun j hj => ((bn.trans (hB5.mono (by simp))).block j (hbl j hj).2)
           have hl5 : ∀ j ∈ bl, j < W5.heap.size := fun j hj => by have := (hbl j hj).2; have := hB5.size; simp at this; omega
           clear k2
           replace b3 := Lib.hid b3
           replace bn := Lib.hid bn
           replace x4 := Lib.hid x4
           replace hb5 := Lib.hid hb5
           replace hB5 := Lib.hid hB5
           replace bw3 := Lib.hid bw3
           replace bw5 := Lib.hid bw5
           replace x5 := Lib.hid x5
           replace hN := Lib.hid hN
           replace hN5 := Lib.hid hN5
           replace hbl := Lib.hid hbl
           replace hl5 := Lib.hid hl5)
        | (go_at_call 9; (with_reducible refine k5.mono ?_); rintro e w6 ⟨M0, M1, M2, p1, q1, r1, p2, q2, r2, bm, rfl, hM, hbm, b6⟩
           have x6 := x5.out.below b6 x5.out.lt
           have hN6 := hN5.out.keep fun j hj => b6.block j (hl5.out j hj)
           have hl6 : ∀ j ∈ bl, j < w6.heap.size := fun j hj => by have := hl5.out j hj; have := b6.size; omega
           have bw6 := bthen bw5.out b6
           clear k5
           replace b6 := Lib.hid b6
           replace x6 := Lib.hid x6
           replace hN6 := Lib.hid hN6
           replace hl6 := Lib.hid hl6
           replace hM := Lib.hid hM
           replace hbm := Lib.hid hbm
           replace bw6 := Lib.hid bw6))
      have x7 : Blk (w6.alloc (.cells #[.string M0, .string M1, .string M2, .slice p1 q1 r1, .slice p2 q2 r2] 27)) w3.heap.size 27 #[.string N0, .string N1, .string N2, .slice a1 n1 c1, .slice a2 n2 c2] := x6.out.alloc _
      have x8 := Blk.new w6 27 #[.string M0, .string M1, .string M2, .slice p1 q1 r1, .slice p2 q2 r2]
      have hN7 : NdAt (w6.alloc (.cells #[.string M0, .string M1, .string M2, .slice p1 q1 r1, .slice p2 q2 r2] 27)) n _ bl := hN6.out.keep fun j hj => Below.heap_alloc _ _ _ (hl6.out j hj)
      have hM7 : NdAt (w6.alloc (.cells #[.string M0, .string M1, .string M2, .slice p1 q1 r1, .slice p2 q2 r2] 27)) n _ bm := hM.out.keep fun j hj => Below.heap_alloc _ _ _ (hbm.out j hj).2
      have hl7 : ∀ j ∈ bl, j < (w6.alloc (.cells #[.string M0, .string M1, .string M2, .slice p1 q1 r1, .slice p2 q2 r2] 27)).heap.size := fun j hj => by rw [World.size_alloc]; have := hl6.out j hj; omega
      have hm7 : ∀ j ∈ bm, j < (w6.alloc (.cells #[.string M0, .string M1, .string M2, .slice p1 q1 r1, .slice p2 q2 r2] 27)).heap.size := fun j hj => by rw [World.size_alloc]; have := (hbm.out j hj).2; omega
      have bw7 := bw6.out.alloc bw6.out.size (.cells #[.string M0, .string M1, .string M2, .slice p1 q1 r1, .slice p2 q2 r2] 27)
      obtain ⟨W, hW⟩ : ∃ W, W = w6.alloc (.cells #[.string M0, .string M1, .string M2, .slice p1 q1 r1, .slice p2 q2 r2] 27) := ⟨_, rfl⟩
      rw [← hW] at x7 x8 hN7 hM7 hl7 hm7 bw7 ⊢
      replace hW := Lib.hid hW
      refine wp_lin (by kernel_rfl) [none, none, some 13, none, none, none, none, none, none, none, none, none, none, none, none, none, none, none, none, none, none, none, none, none, none, none, none, none, none, none, none, none, none, none, none, none, none, none, none, none, none, none, none, none, none, none, none, none, none, none, none, none, none, none, none, none, none, none, none, none, none, none, none, none, none, none, none, none, none, none, none, none, none, none, none, none, none, none, none, none, none, none, none, none, none, some 0, some 1, some 2, some 3, some 4, some 5, some 6, some 7, some 8, some 9, some 10, some 11, some 12] (fun w' => Below W.heap.size W w') (fun w' w'' => Below w'.heap.size w' w'') (GS n #[.string N0, .string N1, .string N2, .slice a1 n1 c1, .slice a2 n2 c2] #[.string M0, .string M1, .string M2, .slice p1 q1 r1, .slice p2 q2 r2]) (by rfl) (by kernel_rfl) 14 (by rfl) ?hR ?mono (.cons 13 (step_of [12, 11, 0, 1, 2, 3, 4, 5, 6, 7, 8, 9, 10] rfl (by kernel_rfl) ?s13) (.cons 12 (step_of [6, 11] rfl (by kernel_rfl) ?s12) (.cons 11 (step_of [8, 10, 6] rfl (by kernel_rfl) ?s11) (.cons 10 (step_of [9, 8, 6] rfl (by kernel_rfl) ?s10) (.cons 9 (step_of [6] rfl (by kernel_rfl) ?s9) (.cons 8 (step_of [7, 6] rfl (by kernel_rfl) ?s8) (.cons 7 (step_of [6] rfl (by kernel_rfl) ?s7) (.cons 6 (step_of [5, 2] rfl (by kernel_rfl) ?s6) (.cons 5 (step_of [2, 4] rfl (by kernel_rfl) ?s5) (.cons 4 (step_of [3, 2] rfl (by kernel_rfl) ?s4) (.cons 3 (step_of [2] rfl (by kernel_rfl) ?s3) (.cons 2 (step_of [1] rfl (by kernel_rfl) ?s2) (.cons 1 (step_of [0] rfl (by kernel_rfl) ?s1) (.cons 0 (step_of [] rfl (by kernel_rfl) ?s0) (.nil))))))))))))))) ?done
      case hR => exact (Below.refl _ _).drew
      case mono => exact GS_mono
      case done =>
        intro x w' hR hG
        have g13 := hG 13 (by omega)
        simp only [GS] at g13
        clear hG
        simp only [fillL, g13]
        have hfin := Lib.hid (bw7.trans (hR.mono bw7.size))
        clear hR x7 x8 hN7 hM7 hl7 hm7 bw7
        go_wp2
        go_ret
        exact ⟨rfl, hfin.out⟩
      case s8 =>
        intro x w' hR hd K hK
        simp only [All, GS] at hd
        obtain ⟨e7, e6, _⟩ := hd
        simp (config := {decide := true}) only [upd, GS, fillL, if_true, if_false] at hK ⊢
        simp only [e7, e6] at hK ⊢
        go_simp
        refine (node_any hsm.out (hN7.keep fun j hj => hR.block j (hl7 j hj)) fun j hj => Nat.lt_of_lt_of_le (hl7 j hj) hR.size).mono ?_
        rintro e w9 ⟨U0, U1, U2, d3, m3, f3, d4, m4, f4, bk, rfl, hRn, hbk, hB9⟩
        have hK2 := hK _ _ ⟨hR.trans (hB9.mono hR.size), hB9, U0, U1, U2, d3, m3, f3, d4, m4, f4, bk, rfl, hRn, fun j hj => (hbk j hj).2⟩
        exact hK2
      case s10 =>
        intro x w' hR hd K hK
        simp only [All, GS] at hd
        obtain ⟨e9, _, e6, _⟩ := hd
        simp (config := {decide := true}) only [upd, GS, fillL, if_true, if_false] at hK ⊢
        simp only [e9, e6] at hK ⊢
        go_simp
        refine (node_any hsm.out (hM7.keep fun j hj => hR.block j (hm7 j hj)) fun j hj => Nat.lt_of_lt_of_le (hm7 j hj) hR.size).mono ?_
        rintro e w9 ⟨U0, U1, U2, d3, m3, f3, d4, m4, f4, bk, rfl, hRn, hbk, hB9⟩
        have hK2 := hK _ _ ⟨hR.trans (hB9.mono hR.size), hB9, U0, U1, U2, d3, m3, f3, d4, m4, f4, bk, rfl, hRn, fun j hj => (hbk j hj).2⟩
        exact hK2
      case s11 =>
        intro x w' hR hd K hK
        simp only [All, GS] at hd
        obtain ⟨⟨U0, U1, U2, d3, m3, f3, d4, m4, f4, bk, e8, hRn, hbk⟩, ⟨V0, V1, V2, i3, j3, k3, i4, j4, k4, bv, e10, hRv, hbv⟩, e6, _⟩ := hd
        simp (config := {decide := true}) only [upd, GS, fillL, if_true, if_false] at hK ⊢
        simp only [e8, e10, e6] at hK ⊢
        go_simp
        refine (same_any hsm.out hRn hRv hbk hbv).mono ?_
        rintro e w9 ⟨rfl, hB9⟩
        have hK2 := hK _ _ ⟨hR.trans (hB9.mono hR.size), hB9, rfl⟩
        exact hK2
      all_goals
        intro x w' hR hd K hK
        simp only [All, GS] at hd
        have z1 := x7.below hR x7.lt
        have z2 := x8.below hR x8.lt
        have z10 := z1.cell 0
        have z11 := z1.cell 1
        have z12 := z1.cell 2
        have z13 := z1.cell 3
        have z14 := z1.cell 4
        have z20 := z2.cell 0
        have z21 := z2.cell 1
        have z22 := z2.cell 2
        have z23 := z2.cell 3
        have z24 := z2.cell 4
        simp (config := {decide := true}) only [upd, GS, fillL, if_true, if_false] at hK ⊢
        first
          | (obtain ⟨e12, _⟩ := hd; simp only [e12] at hK ⊢; done)
          | skip
        repeat (obtain ⟨_, hd⟩ := hd)
        (try simp only [*] at hK ⊢)
        go_simp
        have hK2 := hK _ _ ⟨hR, Below.refl _ _, rfl⟩
        exact hK2

end Go.Proofs.YtgomlebemefdcaaDoor

/- The tables that lie as the row says. No condition. -/
namespace Go.Proofs.YtgomlebemefdcaaDoor
open Go Go.RowKit Go.Wk Go.Xt
set_option maxRecDepth 100000 in
theorem tabs_ofS {w : World} (h : laidMet Tryd.prog Rows.xmlSkipsRow.laid w) : Lib.Utf8Tabs 0 1 w :=
  utf8Tabs_of_readsT (P := Tryd.prog) (ρ := ⟨fun n => n, fun | 5 => 5 | 119 => 95 | 138 => 97 | 139 => 98 | n => n, fun | 3 => 0 | 4 => 1 | n => n⟩) ⟨Tryd.underlying5, Tryd.underlying95, Tryd.underlying97, Tryd.underlying98⟩ ⟨by kernel_rfl, by kernel_rfl, by kernel_rfl, by kernel_rfl, by kernel_rfl, by kernel_rfl, by kernel_rfl⟩
    (Go.Lib.laidMet.reads h (List.mem_of_getElem? (i := 1) (by kernel_rfl))) (Go.Lib.laidMet.reads h (List.mem_of_getElem? (i := 0) (by kernel_rfl)))
theorem globsS : Tryd.prog.globals.size = 3 := by kernel_rfl
end Go.Proofs.YtgomlebemefdcaaDoor

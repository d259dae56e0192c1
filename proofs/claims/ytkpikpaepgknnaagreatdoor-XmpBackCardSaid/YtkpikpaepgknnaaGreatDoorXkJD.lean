/- Walks and laws, joined: part D. No condition. -/
import Derived.Test.YtkpikpaepgknnaaGreatDoorXkJC
import Derived.Maps.AppendAt
import Derived.Test.YtkpikpaepgknnaaGreatDoorXkJB
import Derived.Test.YtkpikpaepgknnaaGreatDoorXkJA
import Derived.Shelf.Strings.Builder1
import Derived.Shelf.Strings.Builder2
import Derived.Shelf.Small.Utf8
import Derived.Shelf.Strings.BuilderF
import Derived.Shelf.Strings.BuilderK
import Derived.Shelf.Strings.Prefix
import Derived.Shelf.Unicode.Decode
import Derived.Shelf.Bits.Mul64
import Derived.Shelf.Strings.Repeat
import Derived.Shelf.Unicode.DecodeSlow
import Derived.Shelf.Unicode.DecodeAny
import Derived.Shelf.Bytes.SlClone
import Derived.Test.YtkpikpaepgknnaaGreatDoorProg
import Derived.Lib.TrimUEq
import Derived.Lib.TrimAscii
import Derived.Shelf.Spec.DecodeRune
import Derived.Shelf.Strings.Trim
import Derived.Shelf.Small.Strs
import Derived.Shelf.Strings.Search1
import Derived.Shelf.Strings.Runes
import Derived.Shelf.Strings.AsciiSet
import Derived.Shelf.Unicode.DecodeLast
import Derived.Shelf.Bytes.SlSmallAll
import Derived.Shelf.Bytes.SlEqualAll
import Derived.Shelf.Bytes.Small
set_option linter.unusedSimpArgs false
set_option linter.unusedVariables false
/- The node: its attributes say what is bound, but for one at most, wherever it stands; its prefix may be xml's own. No condition. -/
namespace Go.Proofs.YtkpikpaepgknnaaGreatDoor
open Go Go.RowKit Go.Wk Go.Xt Go.Xe
def xmlNs : List UInt8 := [104, 116, 116, 112, 58, 47, 47, 119, 119, 119, 46, 119, 51, 46, 111, 114, 103, 47, 88, 77, 76, 47, 49, 57, 57, 56, 47, 110, 97, 109, 101, 115, 112, 97, 99, 101]
/-- what a prefix says -/
def SpaceOf (E : List (List UInt8 × List UInt8)) (p s : List UInt8) : Prop := (p = [120, 109, 108] ∧ s = xmlNs) ∨ (p ≠ [120, 109, 108] ∧ ∃ C1 C2, E = C1 ++ (p, s) :: C2 ∧ ∀ b ∈ C2, b.1 ≠ p)
set_option maxHeartbeats 2000000 in
theorem xml_spaceX {w : World} {R : Nat} : Calls Tryz.prog 172 #[.pointer (some ⟨R, 0, none⟩), str [120, 109, 108]] w fun e w' => e = .returned (.tuple #[str xmlNs, .int .i64 0]) ∧ w = w' := by
  obtain ⟨PR, hPR⟩ : ∃ N : ByteArray, str [120, 109, 108] = .string N := ⟨_, rfl⟩
  have hPl := toList_str _ _ hPR
  have hx1 : (PR.toList == [120, 109, 108]) = true := by rw [hPl]; rfl
  rw [hPR]
  clear hPR
  go_enter Tryz.func172, Tryz.ntmps172
  go_wp2
  go_ret2
  exact ⟨rfl, rfl⟩
theorem xml_spaceK {w : World} {L R c p many B0 : Nat} {bv : Value} {A : Option Addr} {bs pre s : List UInt8} {B : List (List UInt8 × List UInt8)} (h : RS w L R bv A c bs p many) (hb : Bnd w B0 bv B) (hB : SpaceOf B pre s) (hBm : B.length ≤ 10000000) :
    Calls Tryz.prog 172 #[.pointer (some ⟨R, 0, none⟩), str pre] w fun e w' => e = .returned (.tuple #[str s, .int .i64 0]) ∧ w = w' := by
  rcases hB with ⟨rfl, rfl⟩ | ⟨hx, C1, C2, hC, hC2⟩
  · exact xml_spaceX
  · exact xml_spaceP h hb hC hC2 hx hBm
theorem AtW.keep {w w' : World} {lo : Nat} {bv : Value} {so : List UInt8} {o : List (List UInt8 × List UInt8 × List UInt8)} {av : Value} (h : AtW w lo bv so o av) (hb : Below w.heap.size w w') : AtW w' lo bv so o av := by
  unfold AtW at h ⊢
  split at h
  · exact h
  · obtain ⟨q, cp, e, a1, a2, c0, c1, c2⟩ := h
    exact ⟨q, cp, e, a1, a2, (hb.cell (cell_lt c0)).trans c0, (hb.cell (cell_lt c1)).trans c1, (hb.cell (cell_lt c2)).trans c2⟩
  · exact h
set_option maxHeartbeats 8000000 in
set_option maxRecDepth 100000 in
theorem xml_nodeK {w : World} {L R c p many B0 : Nat} {bv : Value} {A : Option Addr} {bs pre nm sp so : List UInt8} {B E B1 B2 : List (List UInt8 × List UInt8)} {l ls o rs : List (List UInt8 × List UInt8 × List UInt8)} (al : Option Addr) (cap : Nat) (h : RS w L R bv A c bs p many) (hb : Bnd w B0 bv B) (hLB : L < B0) (hRB : R < B0) (hB0 : B0 ≤ w.heap.size) (hAB : 0 < bs.length → ∀ x, A = some x → x.block < B0)
    (hl2 : l.length ≤ 2) (hlc : l.length ≤ cap) (hBm : B.length ≤ 1000)
    (row : ∀ i (hi : i < l.length), ∃ g, al = some ⟨g, 0, none⟩ ∧ g ≠ L ∧ g ≠ R ∧ bv.ownBlock ≠ some g ∧ w.cell? ⟨g, 3 * i, none⟩ = some (str l[i].1) ∧ w.cell? ⟨g, 3 * i + 1, none⟩ = some (str l[i].2.1) ∧ w.cell? ⟨g, 3 * i + 2, none⟩ = some (str l[i].2.2))
    (hdis : ∀ i j (hi : i < l.length) (hj : j < l.length), i < j → l[i].1 ≠ l[j].1 ∨ l[i].2.1 ≠ l[j].2.1) (hok : ∀ a ∈ l, a.1 = [120, 109, 108, 110, 115] → a.2.2 ≠ [])
    (hE : bindsOf l B = E) (hEm : E.length ≤ 10000000) (hsp : E = B1 ++ (pre, sp) :: B2) (h2 : ∀ b ∈ B2, b.1 ≠ pre) (hx : pre ≠ [120, 109, 108])
    (hlo : l = ls ++ o ++ rs) (hls : ∀ a ∈ ls, saysB a = true) (hrs : ∀ a ∈ rs, saysB a = true) (ho : o.length ≤ 1)
    (hos : ∀ a ∈ o, saysB a = false ∧ a.1 ≠ [] ∧ SpaceOf E a.1 so) :
    Calls Tryz.prog 164 #[.pointer (some ⟨R, 0, none⟩), str pre, str nm, .slice al l.length cap] w fun e w' => ∃ bv' av, e = .returned (.tuple #[.agg #[str sp, str nm, .string ⟨#[]⟩, av, .slice none 0 0], .int .i64 0]) ∧ RS w' L R bv' A c bs p many ∧ Bnd w' B0 bv' E ∧ FrX L R bv bv' w w' ∧ AtW w' w.heap.size bv' so o av := by
  obtain ⟨n, hn⟩ : ∃ n, n = l.length := ⟨_, rfl⟩
  obtain ⟨w0, hw0⟩ : ∃ w0, w0 = w.alloc (.cells z5 70) := ⟨_, rfl⟩
  have hb0 : Below w.heap.size w w0 := hw0 ▸ (Below.refl _ _).alloc (Nat.le_refl _) _
  have hx0 : Blk w0 w.heap.size 70 z5 := hw0 ▸ Blk.new w 70 z5
  have hsz0 := hb0.size
  have hrl := fun i (hi : i < l.length) => row i hi
  have cb := xml_boundP al cap (h.below hb0) (own_belowB hb hb0) hLB hRB (by omega) hAB hl2 hlc hBm (fun i hi => by
    obtain ⟨g, e, a1, a2, a3, k0, k1, k2⟩ := row i hi
    have lg := cell_lt k0
    exact ⟨g, e, a1, a2, a3, (World.cell?_of_block (hb0.block g lg)).trans k0, (World.cell?_of_block (hb0.block g lg)).trans k1, (World.cell?_of_block (hb0.block g lg)).trans k2⟩) hdis hok
  rw [hE, ← hn] at cb
  have cs := fun (w1 : World) (bv1 : Value) (h1 : RS w1 L R bv1 A c bs p many) (k1 : Bnd w1 B0 bv1 E) => xml_spaceP h1 k1 hsp h2 hx hEm
  obtain ⟨PR, hPR⟩ : ∃ N : ByteArray, str pre = .string N := ⟨_, rfl⟩
  obtain ⟨NR, hNR⟩ : ∃ N : ByteArray, str nm = .string N := ⟨_, rfl⟩
  obtain ⟨SR, hSR⟩ : ∃ N : ByteArray, str sp = .string N := ⟨_, rfl⟩
  rw [hPR, hNR, hSR]
  rw [hPR, hSR] at cs
  rw [← hn] at hl2 hlc ⊢
  have hLlt := h.cur.L_lt
  have hRlt := h.rdr.lt
  replace hAB := Lib.hid hAB
  replace hn := Lib.hid hn
  replace h := Lib.hid h
  replace hb := Lib.hid hb
  replace row := Lib.hid row
  replace hdis := Lib.hid hdis
  replace hok := Lib.hid hok
  replace hE := Lib.hid hE
  replace hsp := Lib.hid hsp
  replace hls := Lib.hid hls
  replace hrs := Lib.hid hrs
  replace hos := Lib.hid hos
  replace hlo := Lib.hid hlo
  replace hb0 := Lib.hid hb0
  replace hx0 := Lib.hid hx0
  replace cs := Lib.hid cs
  replace hw0 := Lib.hid hw0
  clear hrl h2 hx hPR hNR hSR
  have hw1 := hw0.out
  subst hw1
  go_enter Tryz.func164, Tryz.ntmps164
  go_wp2_with (first
    | (go_at_call 171; (with_reducible refine cb.mono ?_); rintro e w1 ⟨rfl, bv1, h1, k1, f1⟩; have c1 := cs.out w1 bv1 h1 k1; replace h1 := Lib.hid h1; replace k1 := Lib.hid k1; replace f1 := Lib.hid f1)
    | (go_at_call 172; (with_reducible refine c1.mono ?_); rintro e w2 ⟨rfl, rfl⟩))
  obtain ⟨w2, hw2⟩ : ∃ w2, w2 = w1.alloc (.cells #[.string SR, .string NR, .string ⟨#[]⟩, .slice none 0 0, .slice none 0 0] 70) := ⟨_, rfl⟩
  have hx2 : Blk w2 w1.heap.size 70 #[.string SR, .string NR, .string ⟨#[]⟩, .slice none 0 0, .slice none 0 0] := hw2 ▸ Blk.new w1 70 _
  have hb2 : Below w1.heap.size w1 w2 := hw2 ▸ (Below.refl _ _).alloc (Nat.le_refl _) _
  rw [← hw2]
  have h3 := h1.out.below hb2
  have k3 := own_belowB k1.out hb2
  have hln : ls.length + o.length + rs.length = n := by rw [hn.out, hlo.out, List.length_append, List.length_append]
  replace hx2 := Lib.hid hx2
  replace hb2 := Lib.hid hb2
  replace h3 := Lib.hid h3
  replace k3 := Lib.hid k3
  clear hw2
  have hown : bv.ownBlock ≠ some w.heap.size := fun e => by have := (hb.out.lt _ e).2; omega
  have hxr : Blk w1 w.heap.size 70 z5 := (f1.out.block w.heap.size (by rw [World.size_alloc]; omega) (by omega) (by omega) hown).trans hx0.out
  have hzr : w.heap.size < w1.heap.size := hxr.lt
  replace hxr := Lib.hid hxr
  clear hown
  go_loopw [12, 35] (fun s12 s35 wr => ∃ (i : Nat) (av : Value), i ≤ n ∧ s12 = .int .i64 0 ∧ s35 = .int .i64 i ∧ RS wr L R bv1 A c bs p many ∧ Bnd wr B0 bv1 E ∧ Below w1.heap.size w1 wr ∧ Blk wr w1.heap.size 70 #[.string SR, .string NR, .string ⟨#[]⟩, av, .slice none 0 0] ∧ (i ≤ ls.length → av = .slice none 0 0) ∧ (ls.length + o.length ≤ i → AtW wr w1.heap.size bv1 so o av)) (fun _ s35 _ => n - (RowKit.intOf s35).toNat)
  case atStart =>
    refine ⟨0, .slice none 0 0, Nat.zero_le _, rfl, rfl, h3.out, k3.out, hb2.out, hx2.out, fun _ => rfl, fun e => ?_⟩
    have : o = [] := List.eq_nil_of_length_eq_zero (by omega)
    subst this
    rfl
  case round =>
    obtain ⟨i, av, hi, rfl, rfl, hS, hB, hL, hX, hav, hat⟩ := hrel
    by_cases hin : i < n
    · have hil : i < l.length := by rw [← hn.out]; exact hin
      obtain ⟨g, rfl, hgL, hgR, hgX, q0, q1, q2⟩ := row.out i hil
      obtain ⟨a, ha⟩ : ∃ a, a = l[i] := ⟨_, rfl⟩
      rw [← ha] at q0 q1 q2
      obtain ⟨PA, hPA⟩ : ∃ N : ByteArray, str a.1 = .string N := ⟨_, rfl⟩
      obtain ⟨NA, hNA⟩ : ∃ N : ByteArray, str a.2.1 = .string N := ⟨_, rfl⟩
      obtain ⟨VA, hVA⟩ : ∃ N : ByteArray, str a.2.2 = .string N := ⟨_, rfl⟩
      have lPA := toList_str _ _ hPA
      have lNA := toList_str _ _ hNA
      have lVA := toList_str _ _ hVA
      rw [hPA] at q0
      rw [hNA] at q1
      rw [hVA] at q2
      have lg : g < w.heap.size := cell_lt q0
      have hgb : wr.heap[g]? = w.heap[g]? := (hL.block g (by omega)).trans ((f1.out.block g (by rw [World.size_alloc]; omega) hgL hgR hgX).trans (hb0.out.block g lg))
      have e0 : wr.cell? ⟨g, i * 3, none⟩ = some (.string PA) := by rw [Nat.mul_comm]; exact (World.cell?_of_block hgb).trans q0
      have e1 : wr.cell? ⟨g, i * 3 + 1, none⟩ = some (.string NA) := by rw [Nat.mul_comm]; exact (World.cell?_of_block hgb).trans q1
      have e2 : wr.cell? ⟨g, i * 3 + 2, none⟩ = some (.string VA) := by rw [Nat.mul_comm]; exact (World.cell?_of_block hgb).trans q2
      have hlt : decide ((i : Int) < (n : Int)) = true := by simp; omega
      have hgr : g < wr.heap.size := by have := hL.size; omega
      have hwr := hX.lt
      have hbn : Below wr.heap.size wr (wr.alloc (.cells #[.string PA, .string NA, .string VA] 209)) := (Below.refl _ _).alloc (Nat.le_refl _) _
      have kd : ∀ b, saysB a = b → Calls Tryz.prog 173 #[.agg #[.string PA, .string NA, .string VA]] (wr.alloc (.cells #[.string PA, .string NA, .string VA] 209)) fun e w' => e = .returned (.bool b) ∧ Below wr.heap.size wr w' ∧ Blk w' wr.heap.size 209 #[.string PA, .string NA, .string VA] := fun b hb =>
        (xml_saysA PA NA VA a lPA lNA b hb).mono fun e w' k => ⟨k.1, hbn.trans (k.2.mono (by rw [World.size_alloc]; omega)), (Blk.new wr 209 _).below k.2 (by rw [World.size_alloc]; omega)⟩
      replace hgb := Lib.hid hgb
      replace hL := Lib.hid hL
      replace hS := Lib.hid hS
      replace hB := Lib.hid hB
      replace hX := Lib.hid hX
      replace hav := Lib.hid hav
      replace hPA := Lib.hid hPA
      replace hNA := Lib.hid hNA
      replace hVA := Lib.hid hVA
      replace hbn := Lib.hid hbn
      replace hat := Lib.hid hat
      clear q0 q1 q2 hgL hgR hgX
      by_cases cs1 : i < ls.length ∨ ls.length + o.length ≤ i
      · have hsy : saysB a = true := by
          rcases cs1 with cs1 | cs1
          · exact hls.out a (by rw [ha]; simp only [hlo.out]; rw [List.getElem_append_left (by rw [List.length_append]; omega), List.getElem_append_left cs1]; exact List.getElem_mem _)
          · exact hrs.out a (by rw [ha]; simp only [hlo.out]; rw [List.getElem_append_right (by rw [List.length_append]; omega)]; exact List.getElem_mem _)
        have kd1 := kd true hsy
        replace ha := Lib.hid ha
        clear kd lPA lNA lVA
        go_wp2_with (go_at_call 173; (with_reducible refine kd1.mono ?_); rintro e w3 ⟨rfl, b3, x3⟩; replace b3 := Lib.hid b3; replace x3 := Lib.hid x3)
        go_roundw
        case rel =>
          have hl3 := hL.out.size
          exact ⟨i + 1, av, by omega, rfl, by go_num, hS.out.below b3.out, own_belowB hB.out b3.out, hL.out.trans (b3.out.mono hl3), hX.out.below b3.out hwr, fun h5 => hav.out (by omega), fun h5 => by
            by_cases hz : ls.length + o.length ≤ i
            · exact (hat.out hz).keep b3.out
            · have ho0 : o = [] := List.eq_nil_of_length_eq_zero (by omega)
              rw [hav.out (by omega), ho0]; rfl⟩
        case measure => simp [RowKit.intOf]; omega
      · obtain ⟨rfl, hi2⟩ : o = [a] ∧ i = ls.length := by
          have h6 : o.length = 1 := by omega
          have h7 : i = ls.length := by omega
          refine ⟨?_, h7⟩
          obtain ⟨y, rfl⟩ := List.length_eq_one_iff.1 h6
          congr 1
          rw [ha]; simp only [hlo.out]
          rw [List.getElem_append_left (by rw [List.length_append]; simp; omega), List.getElem_append_right (by omega)]
          simp [h7]
        obtain ⟨hs0, hne, hSp⟩ := hos.out a (by simp)
        have hav0 := hav.out (by omega)
        subst hav0
        have kd1 := kd false hs0
        obtain ⟨SO, hSO⟩ : ∃ N : ByteArray, str so = .string N := ⟨_, rfl⟩
        have c67 := fun (W : World) (hW : Below wr.heap.size wr W) => xml_spaceK (hS.out.below hW) (own_belowB hB.out hW) hSp hEm
        rw [hPA.out, hSO] at c67
        have tP : PA.toList.isEmpty = false := by rw [lPA]; simpa using hne
        have tP2 : ¬ PA.toList = [] := by rw [lPA]; exact hne
        have cc := fun (w : World) A c f => cont2_nil (w := w) A c f
        obtain ⟨i0, hi0, hz0, hz1, hz2⟩ := attr_info
        replace hi0 := Lib.hid hi0
        replace hz0 := Lib.hid hz0
        replace hz1 := Lib.hid hz1
        replace hz2 := Lib.hid hz2
        replace ha := Lib.hid ha
        replace c67 := Lib.hid c67
        replace hSO := Lib.hid hSO
        replace hSp := Lib.hid hSp
        have hin1 : i + 1 ≤ n := by omega
        replace hin1 := Lib.hid hin1
        replace hi2 := Lib.hid hi2
        replace hln := Lib.hid hln
        clear cs1
        clear kd lPA lNA lVA hne hs0
        go_wp2_with (first
          | (go_at_call 173; (with_reducible refine kd1.mono ?_); rintro e w3 ⟨rfl, b3, x3⟩; have x30 := x3.cell 0; have x31 := x3.cell 1; have x32 := x3.cell 2; have X3 := hX.out.below b3 hwr; have X30 := X3.cell 0; have X31 := X3.cell 1; have X32 := X3.cell 2; have X33 := X3.cell 3; have X34 := X3.cell 4; have F33 := X3.frozen 3; have hl3 : wr.heap.size < w3.heap.size := x3.lt; have hl4 : w1.heap.size < w3.heap.size := X3.lt; have c1 := c67.out _ (b3.alloc b3.size (.cells #[.string ⟨#[]⟩, .string NA, .string VA] 112)); replace b3 := Lib.hid b3; replace x3 := Lib.hid x3; replace X3 := Lib.hid X3)
          | (go_at_call 172; (with_reducible refine c1.mono ?_); rintro e w4 ⟨rfl, rfl⟩)
          | (go_at_call 174; (with_reducible refine (cc _ _ _ _).mono ?_); rintro e w5 ⟨rfl, rfl⟩)
          | (at_builtin; refine wpList_append_own_at _ rfl (.tmp 67) (.tmp 69) 67 rfl w1.heap.size 112 i0 _ 3 48 Tryz.underlying67 hi0.out hz0.out hz1.out hz2.out rfl (by decide) (.slice none 0 0) 0 [] rfl (World.ownsRow_nil _ _ _ _) ⟨w3.heap.size + 1, 0, none⟩ 1 1 [.string SO, .string NA, .string VA] rfl rfl (by have := three_new (w3.alloc (.cells #[.string SO, .string NA, .string VA] 112)) (.string SO) (.string NA) (.string VA) 112; rw [World.size_alloc] at this; exact this) (three_one _ _ _) (by decide) (by decide) (by simp; omega) ?_; intro v5 w5 hown5 hg5 _ hat5; generalize hstop : wpList _ _ _ _ _ _ = G))
        subst hstop
        have b5 : Below w3.heap.size w3 w5 := (((Below.refl _ _).alloc (Nat.le_refl _) _).alloc (by rw [World.size_alloc]; omega) _).grown hg5 (by rw [World.size_alloc, World.size_alloc]; omega) (fun g hg => by simp [Value.ownBlock] at hg)
        have X5 := X3.out.below b5 hl4
        have X53 := X5.cell 3
        have F53 := X5.frozen 3
        have hl5 := X5.lt
        obtain ⟨a5, cp5, rfl⟩ := sl_of hown5
        have hz2 : ((w3.alloc (.cells #[.string SO, .string NA, .string VA] 112)).alloc (.cells #[.string SO, .string NA, .string VA] 112)).heap.size = w3.heap.size + 2 := by rw [World.size_alloc, World.size_alloc]
        rw [hz2] at hat5
        obtain ⟨rfl, hk5, hU5⟩ := own_at (w' := w5.setCell ⟨w1.heap.size, 3, none⟩ (.slice a5 1 cp5)) hown5 (by omega) (by simpa [Value.ownBlock] using hat5)
        have hown6 := hU5 (Below.heap_setCell _ _ _ _ (by show w3.heap.size + 2 ≠ w1.heap.size; omega))
        have b6 : Below wr.heap.size wr w5 := b3.out.trans (b5.mono (Nat.le_of_lt hl3))
        replace b5 := Lib.hid b5
        replace b6 := Lib.hid b6
        replace X5 := Lib.hid X5
        replace hown5 := Lib.hid hown5
        replace hown6 := Lib.hid hown6
        replace hU5 := Lib.hid hU5
        replace hg5 := Lib.hid hg5
        replace hat5 := Lib.hid hat5
        replace hz2 := Lib.hid hz2
        clear x30 x31 x32 X30 X31 X32 X33 X34 F33
        go_wp2
        go_roundw
        case rel =>
          have hl3' := hL.out.size
          have hs6 := b6.out.size
          have b7 : Below w1.heap.size wr (w5.setCell ⟨w1.heap.size, 3, none⟩ (.slice (some ⟨w3.heap.size + 2, 0, none⟩) 1 cp5)) := (b6.out.mono hl3').setCell (p := ⟨w1.heap.size, 3, none⟩) (Nat.le_refl _) _
          have hX7 := X5.out.set_ 3 (.slice (some ⟨w3.heap.size + 2, 0, none⟩) 1 cp5)
          refine ⟨i + 1, _, by have := hin1.out; omega, rfl, by go_num, hS.out.belowB (b7.mono (by omega)) hLB hRB hAB.out, ?_, hL.out.trans b7, hX7, fun h5 => by have := hi2.out; omega, fun _ => ?_⟩
          · exact own_belowB k1.out (hL.out.trans b7)
          · exact ⟨w3.heap.size + 2, cp5, rfl, by omega, fun e => by have := (k1.out.lt _ e).2; omega, (hown6.out.cellAt 0 (by omega)).trans (by rw [hSO.out]; rfl), (hown6.out.cellAt 1 (by omega)).trans (by rw [hNA.out]; rfl), (hown6.out.cellAt 2 (by omega)).trans (by rw [hVA.out]; rfl)⟩
        case measure => simp [RowKit.intOf]; omega
    · have hni : i = n := by omega
      subst hni
      have hlt : decide ((i : Int) < (i : Int)) = false := by simp
      have hA := hat (by omega)
      obtain ⟨a, m, cp, rfl⟩ : ∃ a m cp, av = .slice a m cp := by
        unfold AtW at hA
        split at hA
        · exact ⟨_, _, _, hA⟩
        · obtain ⟨g, cp, e, _⟩ := hA; exact ⟨_, _, _, e⟩
        · exact hA.elim
      have n5 := hxr.out.below hL hzr
      have x50 := hX.cell 0
      have x51 := hX.cell 1
      have x52 := hX.cell 2
      have x53 := hX.cell 3
      have x54 := hX.cell 4
      have y50 := n5.frozen 0
      have y51 := n5.frozen 1
      have y52 := n5.frozen 2
      have y53 := n5.frozen 3
      have y54 := n5.frozen 4
      have m50 := n5.cell 0
      have m51 := n5.cell 1
      have m52 := n5.cell 2
      have m53 := n5.cell 3
      have m54 := n5.cell 4
      have hne : ¬ w.heap.size = w1.heap.size := by omega
      have hne2 : ¬ w1.heap.size = w.heap.size := by omega
      replace n5 := Lib.hid n5
      replace hX := Lib.hid hX
      replace hL := Lib.hid hL
      replace hS := Lib.hid hS
      replace hB := Lib.hid hB
      replace hA := Lib.hid hA
      clear hat hav
      go_wp2
      have hV := put5_blk n5.out (.string SR) (.string NR) (.string ⟨#[]⟩) (.slice a m cp) (.slice none 0 0)
      have hSV := put5_save wr w.heap.size (.string SR) (.string NR) (.string ⟨#[]⟩) (.slice a m cp) (.slice none 0 0)
      unfold put5 at hV hSV
      obtain ⟨U, hU⟩ : ∃ U, U = (((((wr.setCell ⟨w.heap.size, 0, none⟩ (.string SR)).setCell ⟨w.heap.size, 1, none⟩ (.string NR)).setCell ⟨w.heap.size, 2, none⟩ (.string ⟨#[]⟩)).setCell ⟨w.heap.size, 3, none⟩ (.slice a m cp)).setCell ⟨w.heap.size, 4, none⟩ (.slice none 0 0)) := ⟨_, rfl⟩
      rw [← hU] at hV hSV ⊢
      have r0 := hV.cell 0
      have r1 := hV.cell 1
      have r2 := hV.cell 2
      have r3 := hV.cell 3
      have r4 := hV.cell 4
      have hsU := hL.out.size
      have hBU : Below w.heap.size wr U := hSV.below (Nat.le_refl _) (by omega)
      have hown : bv1.ownBlock ≠ some w.heap.size := fun e => by
        rcases f1.out.own with h5 | h5
        · rw [h5] at e; have := (hb.out.lt _ e).2; omega
        · have := h5 _ e; rw [World.size_alloc] at this; omega
      have hFX : FrX L R bv bv1 w U := ⟨hSV.os.trans (hL.out.os.trans (f1.out.os.trans hb0.out.os)), hSV.tape.trans (hL.out.tape.trans (f1.out.tape.trans hb0.out.tape)), hSV.output.trans (hL.out.output.trans (f1.out.output.trans hb0.out.output)), by have := hSV.size; omega, fun k q1 q2 q3 q4 =>
          (hBU.block k q1).trans ((hL.out.block k (by omega)).trans ((f1.out.block k (by rw [World.size_alloc]; omega) q2 q3 q4).trans (hb0.out.block k q1))), by
            rcases f1.out.own with h5 | h5
            · exact .inl h5
            · exact .inr fun k e => by have := h5 k e; rw [World.size_alloc] at this; omega⟩
      refine bodyPost_ret (v := .tuple #[.agg #[.string SR, .string NR, .string ⟨#[]⟩, .slice a m cp, .slice none 0 0], .int .i64 0]) (by simp [results, Tryz.results62, go_sem, r0, r1, r2, r3, r4]) rfl ⟨bv1, _, rfl, hS.out.belowB (hBU.mono hB0) hLB hRB hAB.out, own_save hB.out hSV hown, hFX, hA.out.save hSV hzr (Nat.le_of_lt hzr)⟩
end Go.Proofs.YtkpikpaepgknnaaGreatDoor

/- The mark at the head of an element: parts. No condition. -/
namespace Go.Proofs.YtkpikpaepgknnaaGreatDoor
open Go Go.RowKit Go.Wk Go.Xt Go.Xe
theorem RS.bump {w : World} {L R c p many : Nat} {bv : Value} {A : Option Addr} {bs : List UInt8} (h : RS w L R bv A c bs p many) : RS (w.setCell ⟨R, 1, none⟩ (.int .i64 ((many : Int) + 1))) L R bv A c bs p (many + 1) := by
  have hc := h.cur
  have hL := hc.L_lt
  have hne : ∀ o, (⟨R, 1, none⟩ : Addr) ≠ ⟨L, o, none⟩ := fun o e => h.ne (by cases e; rfl)
  refine ⟨⟨hc.ne, Save.refl _ _, ?_, ?_, ?_, ⟨hc.byt.1, fun h0 => ?_⟩, hc.le, hc.small⟩, ?_, h.ne, h.neA, h.cap⟩
  · rw [World.cell?_setCell_other _ _ _ _ (hne 0)]; exact hc.cb
  · rw [World.cell?_setCell_other _ _ _ _ (hne 1)]; exact hc.ca
  · rw [World.frozen?_setCell]; exact hc.fr
  · obtain ⟨b, o, rfl, hcell⟩ := hc.byt.2 h0
    have hb : b ≠ R := h.neA h0 _ rfl
    refine ⟨b, o, rfl, fun i hi => ?_⟩
    rw [World.cell?_setCell_other _ _ _ _ (fun e => hb (congrArg Addr.block e).symm)]
    exact hcell i hi
  · have := h.rdr.set_ 1 (.int .i64 ((many : Int) + 1))
    rw [show ((many + 1 : Nat) : Int) = (many : Int) + 1 by omega]
    exact this
theorem Fr.bump {L R : Nat} (w : World) (u : Value) : Fr L R w (w.setCell ⟨R, 1, none⟩ u) := (Fr.refl L R w).store 1 u
theorem apV_at (l : List (List UInt8 × List UInt8 × List UInt8)) : ∀ i (hi : i < l.length), (apV l)[3 * i]? = some (str l[i].1) ∧ (apV l)[3 * i + 1]? = some (str l[i].2.1) ∧ (apV l)[3 * i + 2]? = some (str l[i].2.2) := by
  induction l with
  | nil => intro i hi; simp at hi
  | cons a l ih =>
    intro i hi
    have e : apV (a :: l) = str a.1 :: str a.2.1 :: str a.2.2 :: apV l := by simp [apV]
    rw [e]
    cases i with
    | zero => exact ⟨rfl, rfl, rfl⟩
    | succ i =>
      have := ih i (by simpa using hi)
      rw [show 3 * (i + 1) = 3 * i + 1 + 1 + 1 by omega]
      simpa using this
theorem ap_rows {w : World} {lo cap : Nat} {a : Option Addr} {l : List (List UInt8 × List UInt8 × List UInt8)} (h : w.ownsRow lo 209 3 (.slice a l.length cap) l.length (apV l)) : ∀ i (hi : i < l.length), ∃ g, a = some ⟨g, 0, none⟩ ∧ lo ≤ g ∧ w.cell? ⟨g, 3 * i, none⟩ = some (str l[i].1) ∧ w.cell? ⟨g, 3 * i + 1, none⟩ = some (str l[i].2.1) ∧ w.cell? ⟨g, 3 * i + 2, none⟩ = some (str l[i].2.2) := by
  intro i hi
  have hlt := h.lt
  rcases h.2 with ⟨e, h0⟩ | ⟨g, cap', cur, e, _⟩
  · omega
  · cases e
    have hb := apV_at l i hi
    exact ⟨g, rfl, (hlt g rfl).1, (h.cellAt (3 * i) (by omega)).trans hb.1, (h.cellAt (3 * i + 1) (by omega)).trans hb.2.1, (h.cellAt (3 * i + 2) (by omega)).trans hb.2.2⟩
theorem ap_cap {w : World} {lo cap : Nat} {a : Option Addr} {l : List (List UInt8 × List UInt8 × List UInt8)} (h : w.ownsRow lo 209 3 (.slice a l.length cap) l.length (apV l)) : l.length ≤ cap := by
  rcases h.2 with ⟨e, h0⟩ | ⟨g, cap', cur, e, rest⟩
  · omega
  · cases e
    simp_all
/-- a mark: its name with one in front, its attributes, closed or not -/
inductive MarkP : List UInt8 → List UInt8 → List UInt8 → List (List UInt8 × List UInt8 × List UInt8) → Bool → List UInt8 → Prop
  | «open» (r pre nm r1 r2 : List UInt8) (l : List (List UInt8 × List UInt8 × List UInt8)) : FullN r pre nm r1 → AttsP r1 l (62 :: r2) → MarkP (60 :: r) pre nm l false r2
  | shut (r pre nm r1 r2 : List UInt8) (l : List (List UInt8 × List UInt8 × List UInt8)) : FullN r pre nm r1 → AttsP r1 l (47 :: 62 :: r2) → MarkP (60 :: r) pre nm l true r2
/-- what a mark's attributes say: what is bound behind it, what its name's prefix says, and its one attribute left -/
structure Says (B E : List (List UInt8 × List UInt8)) (pre sp so : List UInt8) (l o : List (List UInt8 × List UInt8 × List UInt8)) : Prop where
  two : l.length ≤ 2
  small : B.length ≤ 1000
  dis : ∀ i j (hi : i < l.length) (hj : j < l.length), i < j → l[i].1 ≠ l[j].1 ∨ l[i].2.1 ≠ l[j].2.1
  ok : ∀ a ∈ l, a.1 = [120, 109, 108, 110, 115] → a.2.2 ≠ []
  new : bindsOf l B = E
  newSmall : E.length ≤ 10000000
  sp : ∃ B1 B2, E = B1 ++ (pre, sp) :: B2 ∧ ∀ b ∈ B2, b.1 ≠ pre
  pre : pre ≠ [120, 109, 108]
  parts : ∃ ls rs, l = ls ++ o ++ rs ∧ (∀ a ∈ ls, saysB a = true) ∧ ∀ a ∈ rs, saysB a = true
  one : o.length ≤ 1
  so : ∀ a ∈ o, saysB a = false ∧ a.1 ≠ [] ∧ SpaceOf E a.1 so
theorem node_says {w : World} {L R c p many B0 lo : Nat} {bv : Value} {A : Option Addr} {bs pre nm sp so : List UInt8} {B E : List (List UInt8 × List UInt8)} {l o : List (List UInt8 × List UInt8 × List UInt8)} (al : Option Addr) (cap : Nat) (hS : Says B E pre sp so l o) (h : RS w L R bv A c bs p many) (hb : Bnd w B0 bv B) (hLB : L < B0) (hRB : R < B0) (hB0 : B0 ≤ w.heap.size) (hAB : 0 < bs.length → ∀ x, A = some x → x.block < B0)
    (hown : w.ownsRow lo 209 3 (.slice al l.length cap) l.length (apV l)) (hL : L < lo) (hR : R < lo) (hX : ∀ k, bv.ownBlock = some k → k < lo) :
    Calls Tryz.prog 164 #[.pointer (some ⟨R, 0, none⟩), str pre, str nm, .slice al l.length cap] w fun e w' => ∃ bv' av, e = .returned (.tuple #[.agg #[str sp, str nm, .string ⟨#[]⟩, av, .slice none 0 0], .int .i64 0]) ∧ RS w' L R bv' A c bs p many ∧ Bnd w' B0 bv' E ∧ FrX L R bv bv' w w' ∧ AtW w' w.heap.size bv' so o av := by
  obtain ⟨B1, B2, e1, e2⟩ := hS.sp
  obtain ⟨ls, rs, e3, e4, e5⟩ := hS.parts
  exact xml_nodeK al cap h hb hLB hRB hB0 hAB hS.two (ap_cap hown) hS.small (fun i hi => by
    obtain ⟨g, e, hg, c0, c1, c2⟩ := ap_rows hown i hi
    exact ⟨g, e, by omega, by omega, fun e5 => by have := hX g e5; omega, c0, c1, c2⟩) hS.dis hS.ok hS.new hS.newSmall e1 e2 hS.pre e3 e4 e5 hS.one hS.so
end Go.Proofs.YtkpikpaepgknnaaGreatDoor

/- The mark at the head of an element. No condition. -/
namespace Go.Proofs.YtkpikpaepgknnaaGreatDoor
open Go Go.RowKit Go.Wk Go.Xt Go.Xe
/-- what a mark gives -/
def MarkR (w : World) (L R B0 : Nat) (bv : Value) (A : Option Addr) (c : Nat) (bs : List UInt8) (many : Nat) (E : List (List UInt8 × List UInt8)) (pre nm sp so : List UInt8) (o : List (List UInt8 × List UInt8 × List UInt8)) (closed : Bool) (r : List UInt8) (e : Ending) (w' : World) : Prop :=
  ∃ bv' av, e = .returned (.tuple #[str pre, str nm, .bool closed, .agg #[str sp, str nm, .string ⟨#[]⟩, av, .slice none 0 0], .int .i64 0]) ∧ (∃ q, RS w' L R bv' A c bs q (many + 1) ∧ Rest bs q r) ∧ Bnd w' B0 bv' E ∧ FrX L R bv bv' w w' ∧ AtW w' w.heap.size bv' so o av
set_option maxHeartbeats 8000000 in
set_option maxRecDepth 100000 in
theorem xml_markP {w : World} {L R c p many B0 : Nat} {bv : Value} {A : Option Addr} {bs r r' pre nm sp so : List UInt8} {B E : List (List UInt8 × List UInt8)} {l o : List (List UInt8 × List UInt8 × List UInt8)} {closed : Bool} (d : Nat) (hd0 : 0 < d) (hd : d ≤ 1000) (hm : many < 4000) (hS : Says B E pre sp so l o) (h : RS w L R bv A c bs p many) (hr : Rest bs p r) (hM : MarkP r pre nm l closed r')
    (hb : Bnd w B0 bv B) (hLB : L < B0) (hRB : R < B0) (hB0 : B0 ≤ w.heap.size) (hAB : 0 < bs.length → ∀ x, A = some x → x.block < B0) :
    Calls Tryz.prog 146 #[.pointer (some ⟨R, 0, none⟩), .int .i64 d] w (MarkR w L R B0 bv A c bs many E pre nm sp so o closed r') := by
  obtain ⟨PR, hPR⟩ : ∃ N : ByteArray, str pre = .string N := ⟨_, rfl⟩
  obtain ⟨NR, hNR⟩ : ∃ N : ByteArray, str nm = .string N := ⟨_, rfl⟩
  obtain ⟨SR, hSR⟩ : ∃ N : ByteArray, str sp = .string N := ⟨_, rfl⟩
  have hb0 : Below w.heap.size w (w.alloc (.cells z5 70)) := (Below.refl _ _).alloc (Nat.le_refl _) _
  have h0 := h.below hb0
  have hnew := Blk.new w 70 z5
  have c0 := h0.rdr.cell 0
  have hRlt := h.rdr.lt
  have hLlt := h.cur.L_lt
  have hAlt := Lib.hid h.A_lt
  have hdz : ((d : Int) == 0) = false := by simp; omega
  have hmm : ¬ (4000 : Int) < (many : Int) + 1 := by omega
  cases hM with
  | «open» r0 _ _ r1 r2 _ hF hA =>
    have m1 : Calls Tryz.prog 42 #[.pointer (some ⟨L, 0, none⟩), .string ⟨#[60]⟩] _ fun e w' => e = .returned (.bool true) ∧ RS w' L R bv A c bs (p + 1) many ∧ Fr L R _ w' := rs_yes h0 ⟨#[60]⟩ r0 (by decide) (by decide) hr.eq
    have hr1 : Rest bs (p + 1) r0 := hr.app (s := [60])
    have cf := fun w1 (h1 : RS w1 L R bv A c bs (p + 1) many) => xml_fullN h1 hr1 hF
    rw [hPR, hNR] at cf
    have ca := fun w2 q (h2 : RS w2 L R bv A c bs q (many + 1)) (hq : Rest bs q r1) => xml_attrsP h2 hq hA
    have m2 : ∀ w3 q, RS w3 L R bv A c bs q (many + 1) → Rest bs q (62 :: r') → Calls Tryz.prog 42 #[.pointer (some ⟨L, 0, none⟩), .string ⟨#[47]⟩] w3 fun e w' => e = .returned (.bool false) ∧ RS w' L R bv A c bs q (many + 1) ∧ Fr L R w3 w' := fun w3 q h3 hq => rs_no h3 ⟨#[47]⟩ (by decide) (by decide) (by rw [hq.eq]; simp [List.cons_prefix_cons])
    have m3 : ∀ w3 q, RS w3 L R bv A c bs q (many + 1) → Rest bs q (62 :: r') → Calls Tryz.prog 42 #[.pointer (some ⟨L, 0, none⟩), .string ⟨#[62]⟩] w3 fun e w' => e = .returned (.bool true) ∧ RS w' L R bv A c bs (q + 1) (many + 1) ∧ Fr L R w3 w' := fun w3 q h3 hq => rs_yes h3 ⟨#[62]⟩ r' (by decide) (by decide) hq.eq
    have hownlt := fun k (e : bv.ownBlock = some k) => (hb.lt k e).2
    have cn := fun (w5 : World) (q lo : Nat) (al : Option Addr) (cap : Nat) (h5 : RS w5 L R bv A c bs q (many + 1)) (k5 : Bnd w5 B0 bv B) (hz : w.heap.size ≤ w5.heap.size) (hlo : w.heap.size ≤ lo) (hown : w5.ownsRow lo 209 3 (.slice al l.length cap) l.length (apV l)) => node_says (nm := nm) al cap hS h5 k5 hLB hRB (by omega) hAB hown (by omega) (by omega) (fun k e => by have := hownlt k e; omega)
    rw [hPR, hNR, hSR] at cn
    replace cf := Lib.hid cf
    replace ca := Lib.hid ca
    replace m2 := Lib.hid m2
    replace m3 := Lib.hid m3
    replace cn := Lib.hid cn
    have h0f := Lib.hid (Fr.refl L R (w.alloc (.cells z5 70)))
    replace h0 := Lib.hid h0
    replace hnew := Lib.hid hnew
    replace hb0 := Lib.hid hb0
    replace hb := Lib.hid hb
    replace hS := Lib.hid hS
    replace hAB := Lib.hid hAB
    replace hownlt := Lib.hid hownlt
    clear hF hA h hr hr1
    obtain ⟨n, hn⟩ : ∃ n, n = l.length := ⟨_, rfl⟩
    replace hn := Lib.hid hn
    unfold MarkR
    rw [hPR, hNR, hSR]
    go_enter Tryz.func146, Tryz.ntmps146
    go_wp2_with (first
      | (go_at_call 42; (with_reducible refine m1.mono ?_); rintro e w1 ⟨rfl, h1, f1⟩; have k2 := cf.out w1 h1; replace f1 := Lib.hid f1; replace h1 := Lib.hid h1; clear m1)
      | (go_at_call 148; (with_reducible refine k2.mono ?_); rintro e w2 ⟨rfl, ⟨⟨q, h2, hq⟩, f2⟩⟩; have c21 := h2.rdr.cell 1; have f21 := h2.rdr.frozen 1; have h2b := h2.bump; have k3 := ca.out _ q h2b hq; replace f2 := Lib.hid f2; replace h2 := Lib.hid h2; replace h2b := Lib.hid h2b; replace hq := Lib.hid hq)
      | (go_at_call 163; (with_reducible refine k3.mono ?_); rintro e w3 ⟨al, cap, rfl, hown3, ⟨⟨q3, h3, hq3⟩, f3⟩⟩; have c3 := h3.rdr.cell 0; have k4 := m2.out w3 q3 h3 hq3; replace f3 := Lib.hid f3; replace h3 := Lib.hid h3; replace hq3 := Lib.hid hq3; replace hown3 := Lib.hid hown3)
      | (go_at_call 42; (with_reducible refine k4.mono ?_); rintro e w4 ⟨rfl, h4, f4⟩; have c4 := h4.rdr.cell 0; have k5 := m3.out w4 q3 h4 hq3.out; replace f4 := Lib.hid f4; replace h4 := Lib.hid h4; clear k4)
      | (go_at_call 42; (with_reducible refine k5.mono ?_); rintro e w5 ⟨rfl, h5, f5⟩; replace f5 := Lib.hid f5; replace h5 := Lib.hid h5; clear k5))
    have F5 : Fr L R _ w5 := (((h0f.out.trans (f1.out.trans f2.out)).trans (Fr.bump w2 (.int .i64 ((many : Int) + 1)))).trans f3.out).trans (f4.out.trans f5.out)
    have hz5 := F5.size
    rw [World.size_alloc] at hz5
    have hz2 := ((h0f.out.trans (f1.out.trans f2.out)).trans (Fr.bump w2 (.int .i64 ((many : Int) + 1)))).size
    rw [World.size_alloc] at hz2
    have k5 : Bnd w5 B0 bv B := own_fr (own_fr hb.out (Fr.of_below hb0.out) hLB hRB) F5 hLB hRB
    have own5 := own_fr hown3.out (f4.out.trans f5.out) (by omega) (by omega)
    have k6 := cn.out w5 _ _ al cap h5.out k5 (by omega) (by omega) own5
    replace F5 := Lib.hid F5
    replace k5 := Lib.hid k5
    replace own5 := Lib.hid own5
    go_at_call 164
    refine k6.mono ?_
    rintro e w6 ⟨bv6, av, rfl, h6, q6, f6, t6⟩
    obtain ⟨a1, n1, c1, rfl⟩ : ∃ a m cp, av = .slice a m cp := by
      unfold AtW at t6
      split at t6
      · exact ⟨_, _, _, t6⟩
      · obtain ⟨g, cp, e, _⟩ := t6; exact ⟨_, _, _, e⟩
      · exact t6.elim
    have hbw : bv.ownBlock ≠ some w.heap.size := fun e => by have := hownlt.out _ e; omega
    have hz5' : Blk w5 w.heap.size 70 z5 := (F5.out.block w.heap.size (by simp) (by omega) (by omega)).trans hnew.out
    have hz7 : Blk w6 w.heap.size 70 z5 := (f6.block w.heap.size (by omega) (by omega) (by omega) hbw).trans hz5'
    have hz7 := hz7.alloc (.cells #[.string SR, .string NR, .string ⟨#[]⟩, .slice a1 n1 c1, .slice none 0 0] 70)
    have hz8 := Blk.new w6 70 #[.string SR, .string NR, .string ⟨#[]⟩, .slice a1 n1 c1, .slice none 0 0]
    have hw67 : Below w6.heap.size w6 (w6.alloc (.cells #[.string SR, .string NR, .string ⟨#[]⟩, .slice a1 n1 c1, .slice none 0 0] 70)) := (Below.refl _ _).alloc (Nat.le_refl _) _
    have hs6 := f6.size
    have hWs : (w6.alloc (.cells #[.string SR, .string NR, .string ⟨#[]⟩, .slice a1 n1 c1, .slice none 0 0] 70)).heap.size = w6.heap.size + 1 := World.size_alloc _ _
    replace h6 := Lib.hid h6
    replace q6 := Lib.hid q6
    replace f6 := Lib.hid f6
    replace t6 := Lib.hid t6
    go_wp2
    obtain ⟨W, hW⟩ : ∃ W, W = w6.alloc (.cells #[.string SR, .string NR, .string ⟨#[]⟩, .slice a1 n1 c1, .slice none 0 0] 70) := ⟨_, rfl⟩
    rw [← hW] at hz7 hz8 hw67 hWs ⊢
    obtain ⟨g8, hg8⟩ : ∃ g, g = w6.heap.size := ⟨_, rfl⟩
    obtain ⟨g7, hg7⟩ : ∃ g, g = w.heap.size := ⟨_, rfl⟩
    rw [← hg8] at hz8 ⊢
    rw [← hg7] at hz7 ⊢
    have a0 := hz7.cell 0
    have a1' := hz7.cell 1
    have a2 := hz7.cell 2
    have a3 := hz7.cell 3
    have a4 := hz7.cell 4
    have e0 := hz8.cell 0
    have e1 := hz8.cell 1
    have e2 := hz8.cell 2
    have e3 := hz8.cell 3
    have e4 := hz8.cell 4
    have z0 := hz7.frozen 0
    have z1 := hz7.frozen 1
    have z2 := hz7.frozen 2
    have z3 := hz7.frozen 3
    have z4 := hz7.frozen 4
    replace hz7 := Lib.hid hz7
    replace hz8 := Lib.hid hz8
    replace hW := Lib.hid hW
    replace hw67 := Lib.hid hw67
    replace hg7 := Lib.hid hg7
    replace hg8 := Lib.hid hg8
    go_region
    have hV := (((((hz7.out.set_ 0 (.string SR)).set_ 1 (.string NR)).set_ 2 (.string ⟨#[]⟩)).set_ 3 (.slice a1 n1 c1)).set_ 4 (.slice none 0 0)).drew
    have hSV0 : Save g7 W ((((((W.setCell ⟨g7, 0, none⟩ (.string SR)).setCell ⟨g7, 1, none⟩ (.string NR)).setCell ⟨g7, 2, none⟩ (.string ⟨#[]⟩)).setCell ⟨g7, 3, none⟩ (.slice a1 n1 c1)).setCell ⟨g7, 4, none⟩ (.slice none 0 0)).drew) := (put5_save W g7 (.string SR) (.string NR) (.string ⟨#[]⟩) (.slice a1 n1 c1) (.slice none 0 0)).drawn 1
    have hSV := Lib.hid hSV0
    clear hSV0
    replace hWs := Lib.hid hWs
    generalize ((((((W.setCell ⟨g7, 0, none⟩ (.string SR)).setCell ⟨g7, 1, none⟩ (.string NR)).setCell ⟨g7, 2, none⟩ (.string ⟨#[]⟩)).setCell ⟨g7, 3, none⟩ (.slice a1 n1 c1)).setCell ⟨g7, 4, none⟩ (.slice none 0 0)).drew) = V at *
    have r0 := hV.cell 0
    have r1 := hV.cell 1
    have r2 := hV.cell 2
    have r3 := hV.cell 3
    have r4 := hV.cell 4
    clear a0 a1' a2 a3 a4 e0 e1 e2 e3 e4 z0 z1 z2 z3 z4 hV
    go_wp2
    have hBV : Below w.heap.size W V := hSV.out.below (by rw [hg7.out]; exact Nat.le_refl _) (by have := hWs.out; omega)
    have hB7 : Below w.heap.size w6 V := (hw67.out.mono (by omega)).trans hBV
    have hown6 : bv6.ownBlock ≠ some g7 := fun e => by
      rcases f6.out.own with h5' | h5'
      · rw [h5', hg7.out] at e; exact hbw e
      · have := h5' _ e; rw [hg7.out] at this; omega
    refine bodyPost_ret (v := .tuple #[.string PR, .string NR, .bool false, .agg #[.string SR, .string NR, .string ⟨#[]⟩, .slice a1 n1 c1, .slice none 0 0], .int .i64 0]) (by simp [results, Tryz.results51, go_sem, r0, r1, r2, r3, r4]) rfl ⟨bv6, _, rfl, ⟨q3 + 1, h6.out.belowB (hB7.mono hB0) hLB hRB hAB.out, hq3.out.app (s := [62])⟩, ?_, ?_, ?_⟩
    · exact own_save (own_belowB q6.out hw67.out) hSV.out hown6
    · have X6 := (FrX.of_fr (bv := bv) ((Fr.of_below hb0.out).trans F5.out)).trans f6.out
      exact ⟨hB7.os.trans X6.os, hB7.tape.trans X6.tape, hB7.output.trans X6.output, by have := hB7.size; omega, fun k x1 x2 x3 x4 => (hB7.block k x1).trans (X6.block k x1 x2 x3 x4), X6.own⟩
    · have hS6 : Save g7 w6 V := ⟨hSV.out.os.trans hw67.out.os, hSV.out.tape.trans hw67.out.tape, hSV.out.output.trans hw67.out.output, Nat.le_trans hw67.out.size hSV.out.size, fun k x1 x2 => (hSV.out.block k (by have := hw67.out.size; omega) x2).trans (hw67.out.block k x1)⟩
      exact t6.out.save hS6 (by rw [hg7.out]; omega) (by omega)
  | shut r0 _ _ r1 r2 _ hF hA =>
    have m1 : Calls Tryz.prog 42 #[.pointer (some ⟨L, 0, none⟩), .string ⟨#[60]⟩] _ fun e w' => e = .returned (.bool true) ∧ RS w' L R bv A c bs (p + 1) many ∧ Fr L R _ w' := rs_yes h0 ⟨#[60]⟩ r0 (by decide) (by decide) hr.eq
    have hr1 : Rest bs (p + 1) r0 := hr.app (s := [60])
    have cf := fun w1 (h1 : RS w1 L R bv A c bs (p + 1) many) => xml_fullN h1 hr1 hF
    rw [hPR, hNR] at cf
    have ca := fun w2 q (h2 : RS w2 L R bv A c bs q (many + 1)) (hq : Rest bs q r1) => xml_attrsP h2 hq hA
    have m2 : ∀ w3 q, RS w3 L R bv A c bs q (many + 1) → Rest bs q (47 :: 62 :: r') → Calls Tryz.prog 42 #[.pointer (some ⟨L, 0, none⟩), .string ⟨#[47]⟩] w3 fun e w' => e = .returned (.bool true) ∧ RS w' L R bv A c bs (q + 1) (many + 1) ∧ Fr L R w3 w' := fun w3 q h3 hq => rs_yes h3 ⟨#[47]⟩ (62 :: r') (by decide) (by decide) hq.eq
    have m3 : ∀ w3 q, RS w3 L R bv A c bs q (many + 1) → Rest bs q (62 :: r') → Calls Tryz.prog 42 #[.pointer (some ⟨L, 0, none⟩), .string ⟨#[62]⟩] w3 fun e w' => e = .returned (.bool true) ∧ RS w' L R bv A c bs (q + 1) (many + 1) ∧ Fr L R w3 w' := fun w3 q h3 hq => rs_yes h3 ⟨#[62]⟩ r' (by decide) (by decide) hq.eq
    have hownlt := fun k (e : bv.ownBlock = some k) => (hb.lt k e).2
    have cn := fun (w5 : World) (q lo : Nat) (al : Option Addr) (cap : Nat) (h5 : RS w5 L R bv A c bs q (many + 1)) (k5 : Bnd w5 B0 bv B) (hz : w.heap.size ≤ w5.heap.size) (hlo : w.heap.size ≤ lo) (hown : w5.ownsRow lo 209 3 (.slice al l.length cap) l.length (apV l)) => node_says (nm := nm) al cap hS h5 k5 hLB hRB (by omega) hAB hown (by omega) (by omega) (fun k e => by have := hownlt k e; omega)
    rw [hPR, hNR, hSR] at cn
    replace cf := Lib.hid cf
    replace ca := Lib.hid ca
    replace m2 := Lib.hid m2
    replace m3 := Lib.hid m3
    replace cn := Lib.hid cn
    have h0f := Lib.hid (Fr.refl L R (w.alloc (.cells z5 70)))
    replace h0 := Lib.hid h0
    replace hnew := Lib.hid hnew
    replace hb0 := Lib.hid hb0
    replace hb := Lib.hid hb
    replace hS := Lib.hid hS
    replace hAB := Lib.hid hAB
    replace hownlt := Lib.hid hownlt
    clear hF hA h hr hr1
    obtain ⟨n, hn⟩ : ∃ n, n = l.length := ⟨_, rfl⟩
    replace hn := Lib.hid hn
    unfold MarkR
    rw [hPR, hNR, hSR]
    go_enter Tryz.func146, Tryz.ntmps146
    go_wp2_with (first
      | (go_at_call 42; (with_reducible refine m1.mono ?_); rintro e w1 ⟨rfl, h1, f1⟩; have k2 := cf.out w1 h1; replace f1 := Lib.hid f1; replace h1 := Lib.hid h1; clear m1)
      | (go_at_call 148; (with_reducible refine k2.mono ?_); rintro e w2 ⟨rfl, ⟨⟨q, h2, hq⟩, f2⟩⟩; have c21 := h2.rdr.cell 1; have f21 := h2.rdr.frozen 1; have h2b := h2.bump; have k3 := ca.out _ q h2b hq; replace f2 := Lib.hid f2; replace h2 := Lib.hid h2; replace h2b := Lib.hid h2b; replace hq := Lib.hid hq)
      | (go_at_call 163; (with_reducible refine k3.mono ?_); rintro e w3 ⟨al, cap, rfl, hown3, ⟨⟨q3, h3, hq3⟩, f3⟩⟩; have c3 := h3.rdr.cell 0; have k4 := m2.out w3 q3 h3 hq3; replace f3 := Lib.hid f3; replace h3 := Lib.hid h3; replace hq3 := Lib.hid hq3; replace hown3 := Lib.hid hown3)
      | (go_at_call 42; (with_reducible refine k4.mono ?_); rintro e w4 ⟨rfl, h4, f4⟩; have c4 := h4.rdr.cell 0; have hq4 := hq3.out.app (s := [47]); have k5 := m3.out w4 (q3 + 1) h4 hq4; replace hq4 := Lib.hid hq4; replace f4 := Lib.hid f4; replace h4 := Lib.hid h4; clear k4)
      | (go_at_call 42; (with_reducible refine k5.mono ?_); rintro e w5 ⟨rfl, h5, f5⟩; replace f5 := Lib.hid f5; replace h5 := Lib.hid h5; clear k5))
    have F5 : Fr L R _ w5 := (((h0f.out.trans (f1.out.trans f2.out)).trans (Fr.bump w2 (.int .i64 ((many : Int) + 1)))).trans f3.out).trans (f4.out.trans f5.out)
    have hz5 := F5.size
    rw [World.size_alloc] at hz5
    have hz2 := ((h0f.out.trans (f1.out.trans f2.out)).trans (Fr.bump w2 (.int .i64 ((many : Int) + 1)))).size
    rw [World.size_alloc] at hz2
    have k5 : Bnd w5 B0 bv B := own_fr (own_fr hb.out (Fr.of_below hb0.out) hLB hRB) F5 hLB hRB
    have own5 := own_fr hown3.out (f4.out.trans f5.out) (by omega) (by omega)
    have k6 := cn.out w5 _ _ al cap h5.out k5 (by omega) (by omega) own5
    replace F5 := Lib.hid F5
    replace k5 := Lib.hid k5
    replace own5 := Lib.hid own5
    go_at_call 164
    refine k6.mono ?_
    rintro e w6 ⟨bv6, av, rfl, h6, q6, f6, t6⟩
    obtain ⟨a1, n1, c1, rfl⟩ : ∃ a m cp, av = .slice a m cp := by
      unfold AtW at t6
      split at t6
      · exact ⟨_, _, _, t6⟩
      · obtain ⟨g, cp, e, _⟩ := t6; exact ⟨_, _, _, e⟩
      · exact t6.elim
    have hbw : bv.ownBlock ≠ some w.heap.size := fun e => by have := hownlt.out _ e; omega
    have hz5' : Blk w5 w.heap.size 70 z5 := (F5.out.block w.heap.size (by simp) (by omega) (by omega)).trans hnew.out
    have hz7 : Blk w6 w.heap.size 70 z5 := (f6.block w.heap.size (by omega) (by omega) (by omega) hbw).trans hz5'
    have hz7 := hz7.alloc (.cells #[.string SR, .string NR, .string ⟨#[]⟩, .slice a1 n1 c1, .slice none 0 0] 70)
    have hz8 := Blk.new w6 70 #[.string SR, .string NR, .string ⟨#[]⟩, .slice a1 n1 c1, .slice none 0 0]
    have hw67 : Below w6.heap.size w6 (w6.alloc (.cells #[.string SR, .string NR, .string ⟨#[]⟩, .slice a1 n1 c1, .slice none 0 0] 70)) := (Below.refl _ _).alloc (Nat.le_refl _) _
    have hs6 := f6.size
    have hWs : (w6.alloc (.cells #[.string SR, .string NR, .string ⟨#[]⟩, .slice a1 n1 c1, .slice none 0 0] 70)).heap.size = w6.heap.size + 1 := World.size_alloc _ _
    replace h6 := Lib.hid h6
    replace q6 := Lib.hid q6
    replace f6 := Lib.hid f6
    replace t6 := Lib.hid t6
    go_wp2
    obtain ⟨W, hW⟩ : ∃ W, W = w6.alloc (.cells #[.string SR, .string NR, .string ⟨#[]⟩, .slice a1 n1 c1, .slice none 0 0] 70) := ⟨_, rfl⟩
    rw [← hW] at hz7 hz8 hw67 hWs ⊢
    obtain ⟨g8, hg8⟩ : ∃ g, g = w6.heap.size := ⟨_, rfl⟩
    obtain ⟨g7, hg7⟩ : ∃ g, g = w.heap.size := ⟨_, rfl⟩
    rw [← hg8] at hz8 ⊢
    rw [← hg7] at hz7 ⊢
    have a0 := hz7.cell 0
    have a1' := hz7.cell 1
    have a2 := hz7.cell 2
    have a3 := hz7.cell 3
    have a4 := hz7.cell 4
    have e0 := hz8.cell 0
    have e1 := hz8.cell 1
    have e2 := hz8.cell 2
    have e3 := hz8.cell 3
    have e4 := hz8.cell 4
    have z0 := hz7.frozen 0
    have z1 := hz7.frozen 1
    have z2 := hz7.frozen 2
    have z3 := hz7.frozen 3
    have z4 := hz7.frozen 4
    replace hz7 := Lib.hid hz7
    replace hz8 := Lib.hid hz8
    replace hW := Lib.hid hW
    replace hw67 := Lib.hid hw67
    replace hg7 := Lib.hid hg7
    replace hg8 := Lib.hid hg8
    go_region
    have hV := (((((hz7.out.set_ 0 (.string SR)).set_ 1 (.string NR)).set_ 2 (.string ⟨#[]⟩)).set_ 3 (.slice a1 n1 c1)).set_ 4 (.slice none 0 0)).drew
    have hSV0 : Save g7 W ((((((W.setCell ⟨g7, 0, none⟩ (.string SR)).setCell ⟨g7, 1, none⟩ (.string NR)).setCell ⟨g7, 2, none⟩ (.string ⟨#[]⟩)).setCell ⟨g7, 3, none⟩ (.slice a1 n1 c1)).setCell ⟨g7, 4, none⟩ (.slice none 0 0)).drew) := (put5_save W g7 (.string SR) (.string NR) (.string ⟨#[]⟩) (.slice a1 n1 c1) (.slice none 0 0)).drawn 1
    have hSV := Lib.hid hSV0
    clear hSV0
    replace hWs := Lib.hid hWs
    generalize ((((((W.setCell ⟨g7, 0, none⟩ (.string SR)).setCell ⟨g7, 1, none⟩ (.string NR)).setCell ⟨g7, 2, none⟩ (.string ⟨#[]⟩)).setCell ⟨g7, 3, none⟩ (.slice a1 n1 c1)).setCell ⟨g7, 4, none⟩ (.slice none 0 0)).drew) = V at *
    have r0 := hV.cell 0
    have r1 := hV.cell 1
    have r2 := hV.cell 2
    have r3 := hV.cell 3
    have r4 := hV.cell 4
    clear a0 a1' a2 a3 a4 e0 e1 e2 e3 e4 z0 z1 z2 z3 z4 hV
    go_wp2
    have hBV : Below w.heap.size W V := hSV.out.below (by rw [hg7.out]; exact Nat.le_refl _) (by have := hWs.out; omega)
    have hB7 : Below w.heap.size w6 V := (hw67.out.mono (by omega)).trans hBV
    have hown6 : bv6.ownBlock ≠ some g7 := fun e => by
      rcases f6.out.own with h5' | h5'
      · rw [h5', hg7.out] at e; exact hbw e
      · have := h5' _ e; rw [hg7.out] at this; omega
    refine bodyPost_ret (v := .tuple #[.string PR, .string NR, .bool true, .agg #[.string SR, .string NR, .string ⟨#[]⟩, .slice a1 n1 c1, .slice none 0 0], .int .i64 0]) (by simp [results, Tryz.results51, go_sem, r0, r1, r2, r3, r4]) rfl ⟨bv6, _, rfl, ⟨q3 + 1 + 1, h6.out.belowB (hB7.mono hB0) hLB hRB hAB.out, hq4.out.app (s := [62])⟩, ?_, ?_, ?_⟩
    · exact own_save (own_belowB q6.out hw67.out) hSV.out hown6
    · have X6 := (FrX.of_fr (bv := bv) ((Fr.of_below hb0.out).trans F5.out)).trans f6.out
      exact ⟨hB7.os.trans X6.os, hB7.tape.trans X6.tape, hB7.output.trans X6.output, by have := hB7.size; omega, fun k x1 x2 x3 x4 => (hB7.block k x1).trans (X6.block k x1 x2 x3 x4), X6.own⟩
    · have hS6 : Save g7 w6 V := ⟨hSV.out.os.trans hw67.out.os, hSV.out.tape.trans hw67.out.tape, hSV.out.output.trans hw67.out.output, Nat.le_trans hw67.out.size hSV.out.size, fun k x1 x2 => (hSV.out.block k (by have := hw67.out.size; omega) x2).trans (hw67.out.block k x1)⟩
      exact t6.out.save hS6 (by rw [hg7.out]; omega) (by omega)
end Go.Proofs.YtkpikpaepgknnaaGreatDoor

/- Nodes in memory, with what their prefixes say. No condition. -/
namespace Go.Xe
/-- a node: what its prefix says, its name, its attributes, what lies in it; or a text -/
inductive Nx where
  | el (sp nm : List UInt8) (l : List (List UInt8 × List UInt8 × List UInt8)) (ks : List Nx)
  | tx (t : List UInt8)
end Go.Xe
namespace Go.Proofs.YtkpikpaepgknnaaGreatDoor
open Go Go.RowKit Go.Wk Go.Xt Go.Xe
/-- attributes in memory: none or one; in which block -/
def AtX (w : World) (l : List (List UInt8 × List UInt8 × List UInt8)) (v : Value) (b : List Nat) : Prop :=
  (l = [] ∧ v = .slice none 0 0 ∧ b = []) ∨ ∃ a g cap, l = [a] ∧ v = .slice (some ⟨g, 0, none⟩) 1 cap ∧ w.cell? ⟨g, 0, none⟩ = some (str a.1) ∧ w.cell? ⟨g, 1, none⟩ = some (str a.2.1) ∧ w.cell? ⟨g, 2, none⟩ = some (str a.2.2) ∧ b = [g]
mutual
inductive NxAt (w : World) : Nx → List Value → List Nat → Prop
  | el (sp nm : List UInt8) (l : List (List UInt8 × List UInt8 × List UInt8)) (ks : List Nx) (va vk : Value) (ba bk : List Nat) : AtX w l va ba → KxAt w ks vk bk → NxAt w (.el sp nm l ks) [str sp, str nm, str [], va, vk] (ba ++ bk)
  | tx (t : List UInt8) : NxAt w (.tx t) [str [], str [], str t, .slice none 0 0, .slice none 0 0] []
inductive KxAt (w : World) : List Nx → Value → List Nat → Prop
  | nil : KxAt w [] (.slice none 0 0) []
  | row (ks : List Nx) (g cap : Nat) (vs : List Value) (b : List Nat) : w.ownsRow 0 70 5 (.slice (some ⟨g, 0, none⟩) ks.length cap) ks.length vs → RxAt w ks vs b → KxAt w ks (.slice (some ⟨g, 0, none⟩) ks.length cap) (g :: b)
inductive RxAt (w : World) : List Nx → List Value → List Nat → Prop
  | nil : RxAt w [] [] []
  | cons (k : Nx) (ks : List Nx) (vs vss : List Value) (b bs : List Nat) : NxAt w k vs b → RxAt w ks vss bs → RxAt w (k :: ks) (vs ++ vss) (b ++ bs)
end
theorem own_sameX {w w' : World} {base e s n g cap : Nat} {xs : List Value} (h : w.ownsRow base e s (.slice (some ⟨g, 0, none⟩) n cap) n xs) (hg : w'.heap[g]? = w.heap[g]?) : w'.ownsRow base e s (.slice (some ⟨g, 0, none⟩) n cap) n xs := by
  refine ⟨h.1, ?_⟩
  rcases h.2 with ⟨h2, _⟩ | ⟨g', cap', cur, e1, hB, hh, rest⟩
  · cases h2
  · cases e1
    exact .inr ⟨g, cap, cur, rfl, hB, hg.trans hh, rest⟩
theorem AtX.keep {w w' : World} {l : List (List UInt8 × List UInt8 × List UInt8)} {v : Value} {b : List Nat} (h : AtX w l v b) (hk : ∀ k ∈ b, w'.heap[k]? = w.heap[k]?) : AtX w' l v b := by
  rcases h with h | ⟨a, g, cap, rfl, rfl, c0, c1, c2, rfl⟩
  · exact .inl h
  · have hb := hk g (by simp)
    exact .inr ⟨a, g, cap, rfl, rfl, (World.cell?_of_block hb).trans c0, (World.cell?_of_block hb).trans c1, (World.cell?_of_block hb).trans c2, rfl⟩
mutual
theorem NxAt.keep {w w' : World} {n : Nx} {vs : List Value} {b : List Nat} : NxAt w n vs b → (∀ k ∈ b, w'.heap[k]? = w.heap[k]?) → NxAt w' n vs b
  | .el sp nm l ks va vk ba bk h1 h2, hk => .el sp nm l ks va vk ba bk (h1.keep fun k h => hk k (by simp [h])) (KxAt.keep h2 fun k h => hk k (by simp [h]))
  | .tx t, _ => .tx t
theorem KxAt.keep {w w' : World} {ks : List Nx} {v : Value} {b : List Nat} : KxAt w ks v b → (∀ k ∈ b, w'.heap[k]? = w.heap[k]?) → KxAt w' ks v b
  | .nil, _ => .nil
  | .row ks g cap vs b h1 h2, hk => .row ks g cap vs b (own_sameX h1 (hk g (by simp))) (RxAt.keep h2 fun k h => hk k (by simp [h]))
theorem RxAt.keep {w w' : World} {ks : List Nx} {vs : List Value} {b : List Nat} : RxAt w ks vs b → (∀ k ∈ b, w'.heap[k]? = w.heap[k]?) → RxAt w' ks vs b
  | .nil, _ => .nil
  | .cons k ks vs vss b bs h1 h2, hk => .cons k ks vs vss b bs (NxAt.keep h1 fun k h => hk k (by simp [h])) (RxAt.keep h2 fun k h => hk k (by simp [h]))
end
theorem RxAt.snoc {w : World} {ks : List Nx} {vs : List Value} {b : List Nat} {k : Nx} {us : List Value} {bk : List Nat} (h : RxAt w ks vs b) (hk : NxAt w k us bk) : RxAt w (ks ++ [k]) (vs ++ us) (b ++ bk) := by
  induction ks generalizing vs b with
  | nil =>
    cases h
    have := RxAt.cons k [] us [] bk [] hk .nil
    simpa using this
  | cons x ks ih =>
    cases h with
    | cons _ _ vs1 vs2 b1 b2 h1 h2 =>
      have := RxAt.cons x (ks ++ [k]) vs1 (vs2 ++ us) b1 (b2 ++ bk) h1 (ih h2)
      simpa [List.append_assoc] using this
theorem NxAt.five {w : World} {n : Nx} {vs : List Value} {b : List Nat} (h : NxAt w n vs b) : vs.length = 5 := by
  cases h <;> rfl
theorem RxAt.len {w : World} {ks : List Nx} {vs : List Value} {b : List Nat} (h : RxAt w ks vs b) : vs.length = 5 * ks.length := by
  induction ks generalizing vs b with
  | nil => cases h; rfl
  | cons x ks ih =>
    cases h with
    | cons _ _ vs1 vs2 b1 b2 h1 h2 => have := h1.five; have := ih h2; simp; omega
/-- what a node's attributes are: out of AtW -/
def attsX (so : List UInt8) (o : List (List UInt8 × List UInt8 × List UInt8)) : List (List UInt8 × List UInt8 × List UInt8) := o.map fun a => (so, a.2.1, a.2.2)
theorem AtW.atX {w : World} {lo : Nat} {bv : Value} {so : List UInt8} {o : List (List UInt8 × List UInt8 × List UInt8)} {av : Value} (h : AtW w lo bv so o av) : ∃ b, AtX w (attsX so o) av b ∧ ∀ k ∈ b, lo ≤ k ∧ k < w.heap.size ∧ bv.ownBlock ≠ some k := by
  unfold AtW at h
  split at h
  · exact ⟨[], .inl ⟨rfl, h, rfl⟩, by simp⟩
  · rename_i a
    obtain ⟨g, cp, rfl, h1, h2, c0, c1, c2⟩ := h
    refine ⟨[g], .inr ⟨(so, a.2.1, a.2.2), g, cp, rfl, rfl, c0, c1, c2, rfl⟩, ?_⟩
    intro k hk
    simp at hk
    subst hk
    exact ⟨h1, cell_lt c0, h2⟩
  · exact h.elim
set_option maxRecDepth 100000 in
theorem node_info : ∃ i, Tryz.prog.info? 70 = some i ∧ i.zero = some (.agg #[.string ⟨#[]⟩, .string ⟨#[]⟩, .string ⟨#[]⟩, .slice none 0 0, .slice none 0 0]) ∧ i.size = 5 ∧ i.bytes = 96 := ⟨_, rfl, by kernel_rfl, by kernel_rfl, by kernel_rfl⟩
theorem FrX.tail {L R : Nat} {bv bv' : Value} {a b c : World} (h : FrX L R bv bv' a b) (k : Below a.heap.size b c) : FrX L R bv bv' a c :=
  ⟨k.os.trans h.os, k.tape.trans h.tape, k.output.trans h.output, Nat.le_trans h.size k.size, fun j h1 h2 h3 h4 => (k.block j h1).trans (h.block j h1 h2 h3 h4), h.own⟩
/-- nodes gathered: the row and what it names, beside the row of what is bound -/
structure KidsX (B : Nat) (w : World) (bv v : Value) (done : List Nx) (vs : List Value) (b : List Nat) : Prop where
  own : w.ownsRow B 70 5 v done.length vs
  row : RxAt w done vs b
  bd : ∀ k ∈ b, B ≤ k ∧ k < w.heap.size ∧ bv.ownBlock ≠ some k
  off : ∀ k ∈ b, v.ownBlock ≠ some k
  ne : ∀ k, v.ownBlock = some k → bv.ownBlock ≠ some k
theorem KidsX.nil (B : Nat) (w : World) (bv : Value) : KidsX B w bv (.slice none 0 0) [] [] [] := ⟨World.ownsRow_nil _ _ _ _, .nil, by simp, by simp, by simp [Value.ownBlock]⟩
theorem KidsX.frX {L R B : Nat} {w w' : World} {bv bv' v : Value} {done : List Nx} {vs : List Value} {b : List Nat} (h : KidsX B w bv v done vs b) (f : FrX L R bv bv' w w') (hL : L < B) (hR : R < B) : KidsX B w' bv' v done vs b := by
  have hlt := h.own.lt
  have nw : ∀ k, k < w.heap.size → bv.ownBlock ≠ some k → bv'.ownBlock ≠ some k := fun k hk hn e => by
    rcases f.own with h5 | h5
    · exact hn (by rw [← h5]; exact e)
    · have := h5 k e; omega
  refine ⟨?_, RxAt.keep h.row fun k hk => f.block k (h.bd k hk).2.1 (by have := (h.bd k hk).1; omega) (by have := (h.bd k hk).1; omega) (h.bd k hk).2.2, fun k hk => ⟨(h.bd k hk).1, Nat.lt_of_lt_of_le (h.bd k hk).2.1 f.size, nw k (h.bd k hk).2.1 (h.bd k hk).2.2⟩, h.off, fun k e => nw k (hlt k e).2 (h.ne k e)⟩
  refine ⟨h.own.1, ?_⟩
  rcases h.own.2 with h2 | ⟨g', cap, cur, e1, hB, hh, rest⟩
  · exact .inl h2
  · subst e1
    have hl := (hlt g' rfl).2
    exact .inr ⟨g', cap, cur, rfl, hB, (f.block g' hl (by omega) (by omega) (h.ne g' rfl)).trans hh, rest⟩
theorem KidsX.add {B : Nat} {w w2 : World} {o : Obj} {bv v v' : Value} {done : List Nx} {vs us : List Value} {b bk : List Nat} {k : Nx} (h : KidsX B w bv v done vs b) (hk : NxAt w k us bk) (hbk : ∀ j ∈ bk, B ≤ j ∧ j < w.heap.size ∧ bv.ownBlock ≠ some j) (hnk : ∀ j ∈ bk, v.ownBlock ≠ some j) (hbv : ∀ j, bv.ownBlock = some j → j < w.heap.size)
    (hown : w2.ownsRow B 70 5 v' (done.length + 1) (vs ++ us)) (hg : (w.alloc o).grownBy w2 v.ownBlock) (hat : v'.ownBlock = v.ownBlock ∨ v'.ownBlock = some (w.alloc o).heap.size) : KidsX B w2 bv v' (done ++ [k]) (vs ++ us) (b ++ bk) := by
  have keep : ∀ j, j < w.heap.size → v.ownBlock ≠ some j → w2.heap[j]? = w.heap[j]? := fun j hj hn => by
    have h1 : j < (w.alloc o).heap.size := by rw [World.size_alloc]; omega
    exact (hg.block j h1 (fun e => hn e.symm)).trans (Below.heap_alloc _ _ _ hj)
  have hsz : w.heap.size < w2.heap.size := by have := hg.size; rw [World.size_alloc] at this; omega
  refine ⟨by simpa using hown, (RxAt.keep h.row fun j hj => keep j (h.bd j hj).2.1 (h.off j hj)).snoc (hk.keep fun j hj => keep j (hbk j hj).2.1 (hnk j hj)), fun j hj => ?_, fun j hj => ?_, fun j e => ?_⟩
  · rcases List.mem_append.1 hj with h1 | h1
    · have := h.bd j h1; exact ⟨this.1, by omega, this.2.2⟩
    · have := hbk j h1; exact ⟨this.1, by omega, this.2.2⟩
  · have hlt : j < w.heap.size ∧ v.ownBlock ≠ some j := by
      rcases List.mem_append.1 hj with h1 | h1
      · exact ⟨(h.bd j h1).2.1, h.off j h1⟩
      · exact ⟨(hbk j h1).2.1, hnk j h1⟩
    rcases hat with e | e
    · rw [e]; exact hlt.2
    · rw [e, World.size_alloc]; intro e2; cases e2; omega
  · rcases hat with e2 | e2
    · rw [e2] at e; exact h.ne j e
    · rw [e2, World.size_alloc] at e
      cases e
      intro e3
      have := hbv _ e3
      omega
theorem KidsX.ks {B : Nat} {w : World} {bv v : Value} {done : List Nx} {vs : List Value} {b : List Nat} (h : KidsX B w bv v done vs b) : ∃ bk, KxAt w done v bk ∧ ∀ k ∈ bk, B ≤ k ∧ k < w.heap.size ∧ bv.ownBlock ≠ some k := by
  have hl := h.row.len
  have hne := h.ne
  rcases h.own.2 with ⟨rfl, h0⟩ | ⟨g, cap, cur, rfl, hB, hh, rest⟩
  · have : done = [] := List.eq_nil_of_length_eq_zero h0
    subst this
    exact ⟨[], .nil, by simp⟩
  · refine ⟨g :: b, .row done g cap vs b ⟨h.own.1, .inr ⟨g, cap, cur, rfl, Nat.zero_le _, hh, rest⟩⟩ h.row, fun k hk => ?_⟩
    rcases List.mem_cons.1 hk with rfl | hk
    · exact ⟨hB, (Array.getElem?_eq_some_iff.1 hh).1, hne _ rfl⟩
    · exact h.bd k hk
theorem five_one (a0 a1 a2 : ByteArray) (a3 a4 : Value) (h3 : a3.oneCell' = true) (h4 : a4.oneCell' = true) : ∀ u ∈ [Value.string a0, .string a1, .string a2, a3, a4], u.oneCell' = true := by
  intro u hu
  simp at hu
  rcases hu with rfl | rfl | rfl | rfl | rfl
  · rfl
  · rfl
  · rfl
  · exact h3
  · exact h4
theorem five_new (w : World) (v0 v1 v2 v3 v4 : Value) (t : TypeId) : ∀ j u, [v0, v1, v2, v3, v4][j]? = some u → (w.alloc (.cells #[v0, v1, v2, v3, v4] t)).cell? ((⟨w.heap.size, 0, none⟩ : Addr).add j) = some u := by
  intro j u hj
  rw [Lib.add_plain, alloc_cell, ← hj]
  match j with
  | 0 => rfl
  | 1 => rfl
  | 2 => rfl
  | 3 => rfl
  | 4 => rfl
  | _ + 5 => rfl
/-- so many of what is bound: the first ones -/
theorem Bnd.take {w : World} {B0 : Nat} {a : Option Addr} {n cap : Nat} {B E : List (List UInt8 × List UInt8)} (h : Bnd w B0 (.slice a n cap) (B ++ E)) : Bnd w B0 (.slice a B.length cap) B := by
  unfold Bnd at h ⊢
  have hl : ∀ X : List (List UInt8 × List UInt8), (bndV X).length = X.length * 2 := fun X => by
    induction X with
    | nil => rfl
    | cons x X ih => simp [bndV] at ih ⊢; omega
  refine ⟨hl B, ?_⟩
  rcases h.2 with ⟨e, h0⟩ | ⟨g, cap', cur, e, hB, hh, hn, hm, hs, ht⟩
  · cases e
    simp at h0
    simp [h0]
  · cases e
    refine .inr ⟨g, cap, cur, rfl, hB, hh, by simp at hn; omega, hm, hs, ?_⟩
    have e2 : bndV (B ++ E) = bndV B ++ bndV E := by simp [bndV]
    rw [e2] at ht
    have e3 := congrArg (List.take (B.length * 2)) ht
    rw [List.take_take, List.take_append_of_le_length (by rw [hl]; exact Nat.le_refl _), List.take_of_length_le (l := bndV B) (by rw [hl]; exact Nat.le_refl _)] at e3
    rw [← e3]
    congr 1
    simp
end Go.Proofs.YtkpikpaepgknnaaGreatDoor

/- The grammar of elements with names that have something in front, without texts; what reading them gives. No condition. -/
namespace Go.Proofs.YtkpikpaepgknnaaGreatDoor
open Go Go.RowKit Go.Wk Go.Xt Go.Xe
mutual
/-- an element: so many in one another, so many marks met, what is bound ahead -/
inductive ElemX : Nat → Nat → List (List UInt8 × List UInt8) → List UInt8 → Nx → Nat → List UInt8 → Prop
  | shut (d m : Nat) (B E : List (List UInt8 × List UInt8)) (r pre nm sp so : List UInt8) (l o : List (List UInt8 × List UInt8 × List UInt8)) (r1 : List UInt8) : m < 4000 → MarkP r pre nm l true r1 → Says B E pre sp so l o → ElemX (d + 1) m B r (.el sp nm (attsX so o) []) (m + 1) r1
  | «open» (d m m2 : Nat) (B E : List (List UInt8 × List UInt8)) (r pre nm sp so : List UInt8) (l o : List (List UInt8 × List UInt8 × List UInt8)) (r1 : List UInt8) (ks : List Nx) (r2 r3 r4 : List UInt8) : m < 4000 → MarkP r pre nm l false r1 → Says B E pre sp so l o → ContX (d + 1) (m + 1) E r1 ks m2 r2 → FullN r2 pre nm r3 → r3.drop (ws r3) = 62 :: r4 →
      ElemX (d + 1) m B r (.el sp nm (attsX so o) ks) m2 r4
/-- a content without texts -/
inductive ContX : Nat → Nat → List (List UInt8 × List UInt8) → List UInt8 → List Nx → Nat → List UInt8 → Prop
  | done (d m : Nat) (B : List (List UInt8 × List UInt8)) (r o r1 r2 : List UInt8) : Txt (-1) r o r1 → Misc r1 false r1 → r1 = 60 :: 47 :: r2 → ContX d m B r (if o = [] then [] else [.tx o]) m r2
  | elem (d m m1 m2 : Nat) (B : List (List UInt8 × List UInt8)) (r o r1 r2 : List UInt8) (k : Nx) (ks : List Nx) (r' : List UInt8) : Txt (-1) r o r1 → Misc r1 false r1 → ¬ [60, 47] <+: r1 → ElemX d m B r1 k m1 r2 → ContX (d + 1) m1 B r2 ks m2 r' → ContX (d + 1) m B r ((if o = [] then [] else [.tx o]) ++ k :: ks) m2 r'
end
theorem attsP_len {r r' : List UInt8} {l : List (List UInt8 × List UInt8 × List UInt8)} (h : AttsP r l r') : r'.length ≤ r.length := by
  induction h with
  | nil r c r' hx _ => have := congrArg List.length hx; simp at this; simp; omega
  | cons r c1 rc r1 r' a l h1 h2 h3 h4 h5 h6 ih => have a1 := congrArg List.length h2; have a2 := attP_len h5; simp at a1 a2 ⊢; omega
theorem markP_len {r r' pre nm : List UInt8} {l : List (List UInt8 × List UInt8 × List UInt8)} {cl : Bool} : MarkP r pre nm l cl r' → r'.length < r.length
  | .open _ _ _ _ _ _ h5 h6 => by have a1 := fullN_len h5; have a2 := attsP_len h6; simp at a2 ⊢; omega
  | .shut _ _ _ _ _ _ h5 h6 => by have a1 := fullN_len h5; have a2 := attsP_len h6; simp at a2 ⊢; omega
mutual
theorem elemX_len {d m m2 : Nat} {B : List (List UInt8 × List UInt8)} {r r' : List UInt8} {n : Nx} : ElemX d m B r n m2 r' → r'.length < r.length
  | .shut _ _ _ _ _ _ _ _ _ _ _ _ _ hM _ => markP_len hM
  | .open _ _ _ _ _ _ _ _ _ _ _ _ _ _ _ _ _ _ hM _ hC h3 h5 => by
    have a1 := markP_len hM
    have a2 := contX_len hC
    have a3 := fullN_len h3
    have a4 := congrArg List.length h5
    simp at a4
    omega
theorem contX_len {d m m2 : Nat} {B : List (List UInt8 × List UInt8)} {r r' : List UInt8} {ks : List Nx} : ContX d m B r ks m2 r' → r'.length ≤ r.length
  | .done _ _ _ _ _ _ _ hT _ h => by have a1 := txt_len hT; rw [h] at a1; simp at a1; omega
  | .elem _ _ _ _ _ _ _ _ _ _ _ _ hT _ _ hE hC => by have a1 := txt_len hT; have a2 := elemX_len hE; have a3 := contX_len hC; omega
end
theorem bindsOf_app (l : List (List UInt8 × List UInt8 × List UInt8)) : ∀ B, ∃ E, bindsOf l B = B ++ E := by
  induction l with
  | nil => exact fun B => ⟨[], by simp [bindsOf]⟩
  | cons a l ih =>
    intro B
    unfold bindsOf
    split
    · obtain ⟨E, h⟩ := ih (B ++ [(a.2.1, a.2.2)])
      exact ⟨[(a.2.1, a.2.2)] ++ E, by rw [h]; simp⟩
    · split
      · obtain ⟨E, h⟩ := ih (B ++ [([], a.2.2)])
        exact ⟨[([], a.2.2)] ++ E, by rw [h]; simp⟩
      · exact ih B
/-- a row that no append to another row moved -/
theorem own_grown {w w' : World} {o : Obj} {B e s n : Nat} {v u : Value} {xs : List Value} (h : w.ownsRow B e s v n xs) (hg : (w.alloc o).grownBy w' u.ownBlock) (hne : ∀ k, u.ownBlock = some k → v.ownBlock ≠ some k) : w'.ownsRow B e s v n xs := by
  have hlt := h.lt
  refine ⟨h.1, ?_⟩
  rcases h.2 with h2 | ⟨g', cap, cur, e1, hB, hh, rest⟩
  · exact .inl h2
  · subst e1
    have hl := (hlt g' rfl).2
    refine .inr ⟨g', cap, cur, rfl, hB, ?_, rest⟩
    refine (hg.block g' (by rw [World.size_alloc]; omega) (fun e2 => hne g' e2.symm rfl)).trans ?_
    exact (Below.heap_alloc _ _ _ hl).trans hh
/-- what reading an element gives -/
def ElemQ (w : World) (L R B0 : Nat) (bv : Value) (A : Option Addr) (c : Nat) (bs : List UInt8) (B : List (List UInt8 × List UInt8)) (n : Nx) (m2 : Nat) (r' : List UInt8) (e : Ending) (w' : World) : Prop :=
  ∃ (S N : ByteArray) (a1 : Option Addr) (n1 c1 : Nat) (a2 : Option Addr) (n2 c2 : Nat) (bl : List Nat) (bv' : Value), e = .returned (.tuple #[.agg #[.string S, .string N, .string ⟨#[]⟩, .slice a1 n1 c1, .slice a2 n2 c2], .int .i64 0]) ∧
    NxAt w' n [.string S, .string N, .string ⟨#[]⟩, .slice a1 n1 c1, .slice a2 n2 c2] bl ∧ (∀ k ∈ bl, w.heap.size ≤ k ∧ k < w'.heap.size ∧ bv'.ownBlock ≠ some k) ∧ (∃ q, RS w' L R bv' A c bs q m2 ∧ Rest bs q r') ∧ Bnd w' B0 bv' B ∧ FrX L R bv bv' w w'
def ElemD (L R B0 : Nat) (A : Option Addr) (c : Nat) (bs : List UInt8) (d : Nat) : Prop :=
  ∀ w bv p m B r n m2 r', B0 ≤ w.heap.size → RS w L R bv A c bs p m → Bnd w B0 bv B → Rest bs p r → ElemX d m B r n m2 r' → Calls Tryz.prog 118 #[.pointer (some ⟨R, 0, none⟩), .int .i64 (d : Int)] w (ElemQ w L R B0 bv A c bs B n m2 r')
/-- what reading a content gives -/
def ContQ (w : World) (L R B0 : Nat) (bv : Value) (A : Option Addr) (c : Nat) (bs : List UInt8) (B : List (List UInt8 × List UInt8)) (ks : List Nx) (m2 : Nat) (r' : List UInt8) (e : Ending) (w' : World) : Prop :=
  ∃ (a : Option Addr) (n cp : Nat) (bk : List Nat) (bv' : Value), e = .returned (.tuple #[.slice a n cp, .int .i64 0]) ∧ KxAt w' ks (.slice a n cp) bk ∧ (∀ k ∈ bk, w.heap.size ≤ k ∧ k < w'.heap.size ∧ bv'.ownBlock ≠ some k) ∧ (∃ q, RS w' L R bv' A c bs q m2 ∧ Rest bs q r') ∧ Bnd w' B0 bv' B ∧ FrX L R bv bv' w w'
def ContM (w : World) (L R B0 : Nat) (bv : Value) (A : Option Addr) (c : Nat) (bs : List UInt8) (d : Nat) (B : List (List UInt8 × List UInt8)) (ks : List Nx) (m2 : Nat) (r' : List UInt8) (s6 s7 : Value) (wr : World) : Prop :=
  ∃ (q m1 : Nat) (bvr : Value) (r1 : List UInt8) (done rest : List Nx) (vs : List Value) (b : List Nat), Rest bs q r1 ∧ ContX (d + 1) m1 B r1 rest m2 r' ∧ done ++ rest = ks ∧ s7 = .string ⟨#[]⟩ ∧ KidsX w.heap.size wr bvr s6 done vs b ∧ done.length + r1.length ≤ bs.length ∧
    RS wr L R bvr A c bs q m1 ∧ Bnd wr B0 bvr B ∧ FrX L R bv bvr w wr
end Go.Proofs.YtkpikpaepgknnaaGreatDoor

/- A builder's text, the row behind the builder's block: what else it leaves as it lay. No condition. -/
namespace Go.Proofs.YtkpikpaepgknnaaGreatDoor
open Go Go.RowKit Go.Wk Go.Xt
/-- a builder in block g whose row lies behind block g + 1 -/
def BldR (g : Nat) (bs : List Value) (w : World) : Prop :=
  ∃ p v, (p = .pointer none ∨ p = .pointer (some ⟨g, 0, none⟩)) ∧ w.heap[g]? = some (.cells #[p, v] 154 (0, 0)) ∧ w.ownsRow (g + 2) 5 1 v bs.length bs
theorem row_less {w : World} {B B' e s n : Nat} {v : Value} {xs : List Value} (h : w.ownsRow B e s v n xs) (hB : B' ≤ B) : w.ownsRow B' e s v n xs :=
  ⟨h.1, h.2.imp id fun ⟨g, cap, cur, h1, h2, h3⟩ => ⟨g, cap, cur, h1, Nat.le_trans hB h2, h3⟩⟩
theorem row_ne {w : World} {B e s n g : Nat} {v : Value} {xs : List Value} (h : w.ownsRow B e s v n xs) (hB : g < B) : v.ownBlock ≠ some g := by
  rcases h.2 with ⟨rfl, _⟩ | ⟨g', cap, cur, rfl, hb, _⟩
  · simp [Value.ownBlock]
  · simp [Value.ownBlock]; omega
theorem BldR.is {g : Nat} {bs : List Value} {w : World} (h : BldR g bs w) : Lib.IsBuilder 154 5 g g bs w := by
  obtain ⟨p, v, hp, hg, ho⟩ := h
  rcases hp with rfl | rfl
  · exact .inl ⟨Nat.le_refl _, v, hg, row_less ho (by omega), row_ne ho (by omega)⟩
  · exact .inr ⟨Nat.le_refl _, v, hg, row_less ho (by omega), row_ne ho (by omega)⟩
theorem BldR.keep {g : Nat} {bs : List Value} {w w' : World} (h : BldR g bs w) (hk : ∀ (k : Nat) (o : Obj), w.heap[k]? = some o → (k = g ∨ g + 2 ≤ k) → o.isCells = true → w'.heap[k]? = some o) : BldR g bs w' := by
  obtain ⟨p, v, hp, hg, ho⟩ := h
  refine ⟨p, v, hp, hk g _ hg (.inl rfl) rfl, ho.1, ?_⟩
  rcases ho.2 with h3 | ⟨g', cap, cur, h1, h2, h3, rest⟩
  · exact .inl h3
  · exact .inr ⟨g', cap, cur, h1, h2, hk g' _ h3 (.inr h2) rfl, rest⟩
theorem BldR.below {g : Nat} {bs : List Value} {w w' : World} (h : BldR g bs w) (hb : Below w.heap.size w w') : BldR g bs w' :=
  h.keep fun k o hk _ _ => (hb.block k (Array.getElem?_eq_some_iff.1 hk).1).trans hk
theorem BldR.soft {g B0 : Nat} {bs : List Value} {w w' : World} (h : BldR g bs w) (s : Soft (g + 1) B0 w w') : BldR g bs w' :=
  h.keep fun k o hk h1 h2 => s.block k o hk (by omega) (.inr h2)
/-- only the builder's blocks are touched -/
structure OB (g : Nat) (w w' : World) : Prop where
  os : w'.os = w.os
  tape : w'.tape = w.tape
  output : w'.output = w.output
  size : w.heap.size ≤ w'.heap.size
  block : ∀ (k : Nat) (o : Obj), w.heap[k]? = some o → k ≠ g → (k < g + 2 ∨ o.isCells = false) → w'.heap[k]? = some o
theorem OB.refl (g : Nat) (w : World) : OB g w w := ⟨rfl, rfl, rfl, Nat.le_refl _, fun _ _ h _ _ => h⟩
theorem OB.trans {g : Nat} {a b c : World} (h : OB g a b) (k : OB g b c) : OB g a c := ⟨k.os.trans h.os, k.tape.trans h.tape, k.output.trans h.output, Nat.le_trans h.size k.size, fun i o hi h1 h2 => k.block i o (h.block i o hi h1 h2) h1 h2⟩
theorem OB.setCell (g : Nat) (w : World) (i : Nat) (u : Value) : OB g w (w.setCell ⟨g, i, none⟩ u) :=
  ⟨rfl, rfl, rfl, by simp [World.setCell], fun k o hk h1 _ => (Below.heap_setCell w ⟨g, i, none⟩ u k h1).trans hk⟩
theorem OB.grown {g : Nat} {w w' : World} {row : Option Nat} (hg : w.grownBy w' row) (hrow : ∀ j o, row = some j → w.heap[j]? = some o → g + 2 ≤ j ∧ o.isCells = true) : OB g w w' :=
  ⟨hg.os, hg.tape, hg.output, hg.size, fun k o hk _ h2 => (hg.block k (Array.getElem?_eq_some_iff.1 hk).1 (fun e => by
    obtain ⟨h3, h4⟩ := hrow k o e.symm hk
    rcases h2 with h2 | h2
    · omega
    · rw [h4] at h2; cases h2)).trans hk⟩
theorem OB.of_below {g : Nat} {w w' : World} (h : Below w.heap.size w w') : OB g w w' := ⟨h.os, h.tape, h.output, h.size, fun k o hk _ _ => (h.block k (Array.getElem?_eq_some_iff.1 hk).1).trans hk⟩
theorem OB.others {g : Nat} {w w' : World} (h : OB g w w') (hg : ∃ o, w.heap[g]? = some o ∧ o.isCells = true) : KeepsOthers w w' :=
  ⟨h.size, fun k o hk ho => h.block k o hk (fun e => by
    obtain ⟨o', h1, h2⟩ := hg
    subst e; rw [hk] at h1; cases h1; rw [ho] at h2; cases h2) (.inr ho)⟩
theorem OB.kept {g G : Nat} {w w' : World} (h : OB g w w') (hG : G ≤ g) (hs : g + 1 < w.heap.size) : Kept G (g + 1) w w' :=
  ⟨h.size, by rw [Array.getElem?_eq_getElem hs]; exact h.block _ _ (Array.getElem?_eq_getElem hs) (by omega) (.inl (by omega)), fun k hk => by
    have : k < w.heap.size := by omega
    rw [Array.getElem?_eq_getElem this]; exact h.block _ _ (Array.getElem?_eq_getElem this) (by omega) (.inl (by omega))⟩
theorem OB.below {g n : Nat} {u w w' : World} (h : OB g w w') (k : Below n u w) (hn : n ≤ g) (hu : n ≤ u.heap.size) : Below n u w' :=
  ⟨h.os.trans k.os, h.tape.trans k.tape, h.output.trans k.output, Nat.le_trans k.size h.size, fun j hj => by
    have hl : j < w.heap.size := by have := k.size; omega
    rw [← k.block j hj, Array.getElem?_eq_getElem hl]
    exact h.block j _ (Array.getElem?_eq_getElem hl) (by omega) (.inl (by omega))⟩
theorem bld_check_r (b : Nat) (bs : List Value) (w : World) (h : BldR b bs w) :
    Calls Tryz.prog 143 #[.pointer (some ⟨b, 0, none⟩)] w fun e w' => e = .returned (.tuple #[]) ∧ (∃ v, w'.heap[b]? = some (.cells #[.pointer (some ⟨b, 0, none⟩), v] 154 (0, 0)) ∧ w'.ownsRow (b + 2) 5 1 v bs.length bs) ∧ OB b w w' := by
  have hi := h.is
  obtain ⟨p, v, hp, hb, ho⟩ := h
  rcases hp with rfl | rfl
  · have hA : Lib.BuilderAt 154 5 b b (.pointer none) bs w := ⟨Nat.le_refl _, v, hb, row_less ho (by omega), row_ne ho (by omega)⟩
    refine (bld_check_fresh b w hA.cell0 hA.shape hA.frozen0).mono ?_
    rintro e w' ⟨rfl, rfl⟩
    have hbk : Blk w b 154 #[.pointer none, v] := hb
    have hbk2 := hbk.set_ 0 (.pointer (some ⟨b, 0, none⟩))
    refine ⟨rfl, ⟨v, hbk2, ho.1, ?_⟩, OB.setCell b w 0 _⟩
    rcases ho.2 with h3 | ⟨g', cap, cur, h1, h2, h3, rest⟩
    · exact .inl h3
    · exact .inr ⟨g', cap, cur, h1, h2, (Below.heap_setCell w ⟨b, 0, none⟩ _ g' (by show g' ≠ b; omega)).trans h3, rest⟩
  · have hA : Lib.BuilderAt 154 5 b b (.pointer (some ⟨b, 0, none⟩)) bs w := ⟨Nat.le_refl _, v, hb, row_less ho (by omega), row_ne ho (by omega)⟩
    refine (bld_check_used b w hA.cell0).mono ?_
    rintro e w' ⟨rfl, rfl⟩
    exact ⟨rfl, ⟨v, hb, ho⟩, OB.refl b _⟩
set_option maxHeartbeats 2000000 in
set_option maxRecDepth 100000 in
theorem bld_str_r (b : Nat) (bs : List Value) (s : ByteArray) (w : World) (h : BldR b bs w) (hlen : bs.length + s.size ≤ 140737488355328) (hBw : b + 2 ≤ w.heap.size) :
    Calls Tryz.prog 114 #[.pointer (some ⟨b, 0, none⟩), .string s] w fun e w' => e = .returned (.tuple #[.int .i64 s.size, .nilIface]) ∧ BldR b (bs ++ Lib.strCells s) w' ∧ OB b w w' := by
  obtain ⟨i0, hi, hz0, hz1, hz2⟩ := byte_info
  go_enter Tryz.func114, Tryz.ntmps114
  go_wp2_with (go_at_call 143; refine (bld_check_r b bs _ h).mono ?_)
  rintro e w1 ⟨rfl, ⟨v, hbk, hown⟩, hb1⟩
  have hne := row_ne hown (by omega : b < b + 2)
  replace hb1 := Lib.hid hb1
  have c0 : w1.cell? ⟨b, 0, none⟩ = some (.pointer (some ⟨b, 0, none⟩)) := by rw [Lib.cell_of_heap hbk]; rfl
  have c1 : w1.cell? ⟨b, 1, none⟩ = some v := by rw [Lib.cell_of_heap hbk]; rfl
  go_wp2_with (at_builtin; refine Lib.wpList_append_own_string _ rfl _ _ 25 9 rfl (b + 2) 5 i0 Tryz.underlying25 Tryz.underlying9 hi hz0 hz1 hz2 _ _ _ rfl hown s rfl ?c3 ?c4 ?c5 ?_)
  case c3 => unfold maxLen; omega
  case c4 => omega
  case c5 => have := hb1.out.size; omega
  intro v' w2 hown' hgrow _
  have hlt : b < w1.heap.size := by
    rcases Nat.lt_or_ge b w1.heap.size with h' | h'
    · exact h'
    · simp [Array.getElem?_eq_none h'] at hbk
  have hb2 : w2.heap[b]? = some (.cells #[.pointer (some ⟨b, 0, none⟩), v] 154 (0, 0)) := by
    rw [hgrow.block b hlt (fun e => hne e.symm)]
    exact hbk
  have d0 : w2.cell? ⟨b, 0, none⟩ = some (.pointer (some ⟨b, 0, none⟩)) := by rw [Lib.cell_of_heap hb2]; rfl
  have d1 : w2.cell? ⟨b, 1, none⟩ = some v := by rw [Lib.cell_of_heap hb2]; rfl
  have f1 : w2.frozen? ⟨b, 1, none⟩ = false := Lib.frozen_of_heap hb2 1
  obtain ⟨ao, n', cap, rfl⟩ : ∃ ao n' cap, v' = .slice ao n' cap := by
    rcases hown'.2 with ⟨hv, _⟩ | ⟨g, cap, cur, hv, _⟩
    · exact ⟨_, _, _, hv⟩
    · exact ⟨_, _, _, hv⟩
  go_wp2
  go_ret2
  have hbk2 : Blk w2 b 154 #[.pointer (some ⟨b, 0, none⟩), v] := hb2
  have hbk3 := hbk2.set_ 1 (.slice ao n' cap)
  refine ⟨rfl, ⟨_, _, .inr rfl, hbk3, ?_⟩, (hb1.out.trans (OB.grown hgrow fun j o hj ho => ?_)).trans (OB.setCell b w2 1 _)⟩
  · have ho2 : w2.ownsRow (b + 2) 5 1 (.slice ao n' cap) (bs ++ Lib.strCells s).length (bs ++ Lib.strCells s) := by simpa [Lib.strCells_length] using hown'
    refine ⟨ho2.1, ?_⟩
    rcases ho2.2 with h3 | ⟨g', cap', cur, h1, h2, h3, rest⟩
    · exact .inl h3
    · exact .inr ⟨g', cap', cur, h1, h2, (Below.heap_setCell w2 ⟨b, 1, none⟩ _ g' (by show g' ≠ b; omega)).trans h3, rest⟩
  · rcases hown.2 with ⟨rfl, _⟩ | ⟨g, cap, cur, rfl, h2, hh, _⟩
    · cases hj
    · cases hj
      rw [hh] at ho
      exact ⟨h2, by rw [← Option.some.inj ho]; rfl⟩
end Go.Proofs.YtkpikpaepgknnaaGreatDoor

/- strings.Repeat, at this program's numbers. No condition. -/
namespace Go.Proofs
open Go.Shelf
def Tryz.lays105_ren : Go.Shelf.Ren := ⟨fun | 105 => 113 | 212 => 139 | 99 => 140 | 165 => 141 | 166 => 114 | 170 => 142 | 169 => 115 | 263 => 156 | 264 => 157 | 206 => 158 | 240 => 143 | 241 => 159 | 276 => 160 | 277 => 169 | n => n, fun | 9 => 9 | 3 => 3 | 4 => 4 | 20 => 20 | 0 => 0 | 46 => 49 | 109 => 177 | 5 => 5 | 72 => 154 | 76 => 158 | 51 => 190 | 146 => 191 | 53 => 114 | 148 => 194 | 70 => 152 | 37 => 25 | 75 => 157 | 127 => 181 | 164 => 196 | 80 => 61 | n => n, fun | n => n⟩
theorem Tryz.lays105 : Go.Proofs.Lays.n105 Tryz.prog Tryz.lays105_ren := {
  mixed := by kernel_rfl
  f99 := Tryz.func140.trans (congrArg some (by kernel_rfl))
  f105 := Tryz.func113.trans (congrArg some (by kernel_rfl))
  f165 := Tryz.func141.trans (congrArg some (by kernel_rfl))
  f166 := Tryz.func114.trans (congrArg some (by kernel_rfl))
  f169 := Tryz.func115.trans (congrArg some (by kernel_rfl))
  f170 := Tryz.func142.trans (congrArg some (by kernel_rfl))
  f206 := Tryz.func158.trans (congrArg some (by kernel_rfl))
  f212 := Tryz.func139.trans (congrArg some (by kernel_rfl))
  f240 := Tryz.func143.trans (congrArg some (by kernel_rfl))
  f241 := Tryz.func159.trans (congrArg some (by kernel_rfl))
  f263 := Tryz.func156.trans (congrArg some (by kernel_rfl))
  f264 := Tryz.func157.trans (congrArg some (by kernel_rfl))
  f276 := Tryz.func160.trans (congrArg some (by kernel_rfl))
  f277 := Tryz.func169.trans (congrArg some (by kernel_rfl))
  t0 := Tryz.underlying0
  a0 := Tryz.isAgg0
  z0 := Tryz.sizeOf0
  v0 := Tryz.zeroValue0
  t3 := Tryz.underlying3
  a3 := Tryz.isAgg3
  z3 := Tryz.sizeOf3
  v3 := Tryz.zeroValue3
  t4 := Tryz.underlying4
  a4 := Tryz.isAgg4
  z4 := Tryz.sizeOf4
  v4 := Tryz.zeroValue4
  t5 := Tryz.underlying5
  a5 := Tryz.isAgg5
  z5 := Tryz.sizeOf5
  v5 := Tryz.zeroValue5
  t9 := Tryz.underlying9
  a9 := Tryz.isAgg9
  z9 := Tryz.sizeOf9
  v9 := Tryz.zeroValue9
  t20 := Tryz.underlying20
  a20 := Tryz.isAgg20
  z20 := Tryz.sizeOf20
  v20 := Tryz.zeroValue20
  t37 := Tryz.underlying25
  a37 := Tryz.isAgg25
  z37 := Tryz.sizeOf25
  v37 := Tryz.zeroValue25
  t46 := Tryz.underlying49
  a46 := Tryz.isAgg49
  z46 := Tryz.sizeOf49
  v46 := Tryz.zeroValue49
  t51 := Tryz.underlying190
  a51 := Tryz.isAgg190
  z51 := Tryz.sizeOf190
  v51 := Tryz.zeroValue190
  t53 := Tryz.underlying114
  a53 := Tryz.isAgg114
  z53 := Tryz.sizeOf114
  v53 := Tryz.zeroValue114
  t70 := Tryz.underlying152
  a70 := Tryz.isAgg152
  z70 := Tryz.sizeOf152
  v70 := Tryz.zeroValue152
  t72 := Tryz.underlying154
  a72 := Tryz.isAgg154
  z72 := Tryz.sizeOf154
  v72 := Tryz.zeroValue154
  t75 := Tryz.underlying157
  a75 := Tryz.isAgg157
  z75 := Tryz.sizeOf157
  v75 := Tryz.zeroValue157
  t76 := Tryz.underlying158
  a76 := Tryz.isAgg158
  z76 := Tryz.sizeOf158
  v76 := Tryz.zeroValue158
  t109 := Tryz.underlying177
  a109 := Tryz.isAgg177
  z109 := Tryz.sizeOf177
  v109 := Tryz.zeroValue177
  t127 := Tryz.underlying181
  a127 := Tryz.isAgg181
  z127 := Tryz.sizeOf181
  v127 := Tryz.zeroValue181
  t146 := Tryz.underlying191
  a146 := Tryz.isAgg191
  z146 := Tryz.sizeOf191
  v146 := Tryz.zeroValue191
  t148 := Tryz.underlying194
  a148 := Tryz.isAgg194
  z148 := Tryz.sizeOf194
  v148 := Tryz.zeroValue194
  t164 := Tryz.underlying196
  a164 := Tryz.isAgg196
  z164 := Tryz.sizeOf196
  v164 := Tryz.zeroValue196 }
theorem Tryz.Builder_Extra_105 : Builder.Extra Tryz.prog Tryz.lays105_ren := {
  sizeBuilder := by kernel_rfl
  liesBuilder := by kernel_rfl
  t5 := Tryz.underlying5
  a5 := Tryz.isAgg5
  z5 := Tryz.sizeOf5
  v5 := Tryz.zeroValue5
  infoByte := by kernel_rfl
  cellsByte := by kernel_rfl
  sizeByte := by kernel_rfl
  neB5 := by decide }
open Go.RowKit Go.Lib in
theorem Tryz.strings_Repeat_main (s : ByteArray) (c : Nat) (w : World) (hc2 : 2 ≤ c) (hc : c ≤ 9223372036854775807) (hlen : s.size * c ≤ 140737488355328) (h0 : 0 < s.size) :
    Calls Tryz.prog 113 #[.string s, .int .i64 c] w fun e w' => e = .returned (.string ⟨(Lib.repeatL s.data.toList c).toArray⟩) ∧ Below w.heap.size w w' := Any.strings_Repeat_main Tryz.lays105 Tryz.Builder_Extra_105 s c w hc2 hc hlen h0
open Go.RowKit Go.Lib in
theorem Tryz.strings_Repeat_one (s : ByteArray) (w : World) :
    Calls Tryz.prog 113 #[.string s, .int .i64 1] w fun e w' => e = .returned (.string s) ∧ w' = w := Any.strings_Repeat_one Tryz.lays105 s w
end Go.Proofs

/- xml.Escape: a text as it stands in a text. No condition. -/
namespace Go.Proofs.YtkpikpaepgknnaaGreatDoor
open Go Go.RowKit Go.Wk Go.Xt Go.Shelf
attribute [local go_sem] Oper.semAt_some
/-- a sign as it stands in a text -/
def escP (x : List UInt8 × Bool) : List UInt8 :=
  if x.2 = false then List.replicate x.1.length 63
  else if x.1 = [60] then [38, 108, 116, 59] else if x.1 = [62] then [38, 103, 116, 59] else if x.1 = [38] then [38, 97, 109, 112, 59]
  else if x.1 = [34] then [38, 113, 117, 111, 116, 59] else if x.1 = [39] then [38, 97, 112, 111, 115, 59] else if x.1 = [13] then [38, 35, 49, 51, 59] else x.1
def escS (l : List UInt8) : List UInt8 := (partsS l).flatMap escP
theorem part_len : ∀ (n : Nat) (l : List UInt8), l.length ≤ n → ∀ x ∈ partsS l, 1 ≤ x.1.length ∧ x.1.length ≤ l.length := by
  intro n
  induction n with
  | zero =>
    intro l hl x hx
    have : l = [] := List.eq_nil_of_length_eq_zero (by omega)
    subst this
    rw [partsS_nil] at hx; cases hx
  | succ n ih =>
    intro l hl x hx
    by_cases h : l = []
    · subst h; rw [partsS_nil] at hx; cases hx
    · rw [partsS_cons l h] at hx
      have hw := Lib.decodeL_width l
      have hp : 0 < l.length := List.length_pos_iff.2 h
      rcases List.mem_cons.1 hx with rfl | hx
      · simp; omega
      · have := ih (l.drop (Lib.decodeL l).2) (by simp; omega) x hx
        simp at this
        omega
theorem escP_len (x : List UInt8 × Bool) (h : 1 ≤ x.1.length) : (escP x).length ≤ 6 * x.1.length := by
  unfold escP
  split
  · simp; omega
  · repeat (split; · simp; try omega)
    omega
theorem flat_len : ∀ (n : Nat) (l : List UInt8), l.length ≤ n → (escS l).length ≤ 6 * l.length := by
  intro n
  induction n with
  | zero =>
    intro l hl
    have : l = [] := List.eq_nil_of_length_eq_zero (by omega)
    subst this
    unfold escS; rw [partsS_nil]; simp
  | succ n ih =>
    intro l hl
    by_cases h : l = []
    · subst h; unfold escS; rw [partsS_nil]; simp
    · have hw := Lib.decodeL_width l
      have hp : 0 < l.length := List.length_pos_iff.2 h
      have h1 := part_len l.length l (Nat.le_refl _) (l.take (Lib.decodeL l).2, nextOk l) (by rw [partsS_cons l h]; simp)
      have h2 := escP_len (l.take (Lib.decodeL l).2, nextOk l) h1.1
      have h3 := ih (l.drop (Lib.decodeL l).2) (by simp; omega)
      unfold escS at h3 ⊢
      rw [partsS_cons l h, List.flatMap_cons, List.length_append]
      have e2 : (List.take (Lib.decodeL l).2 l, nextOk l).1.length = min (Lib.decodeL l).2 l.length := List.length_take
      rw [e2] at h2
      rw [List.length_drop] at h3
      omega
theorem pre_len {l : List UInt8} {pre : List (List UInt8 × Bool)} (h : pre <+: partsS l) : (pre.flatMap escP).length ≤ 6 * l.length := by
  obtain ⟨t, ht⟩ := h
  have := flat_len l.length l (Nat.le_refl _)
  unfold escS at this
  rw [← ht, List.flatMap_append, List.length_append] at this
  omega
theorem repeat_one (c : Nat) : Lib.repeatL [63] c = List.replicate c 63 := by
  induction c with
  | zero => rfl
  | succ c ih => rw [Lib.repeatL, ih]; rfl
theorem rep_marks (c : Nat) (h1 : 1 ≤ c) (h2 : c ≤ 100000 := by omega) : ∀ w : World, Calls Tryz.prog 113 #[.string ⟨#[63]⟩, .int .i64 c] w fun e w' => e = .returned (.string ⟨(List.replicate c 63).toArray⟩) ∧ Below w.heap.size w w' := by
  intro w
  by_cases h : c = 1
  · subst h
    refine (Tryz.strings_Repeat_one ⟨#[63]⟩ w).mono ?_
    rintro e w' ⟨rfl, rfl⟩
    exact ⟨rfl, Below.refl _ _⟩
  · have := Tryz.strings_Repeat_main ⟨#[63]⟩ c w (by omega) (by omega) (by show 1 * c ≤ _; omega) (by decide)
    rw [show Lib.repeatL (⟨#[63]⟩ : ByteArray).data.toList c = List.replicate c 63 from repeat_one c] at this
    exact this
set_option maxHeartbeats 4000000 in
set_option maxRecDepth 100000 in
theorem xml_Escape {w : World} {bs : List UInt8} (hl : bs.length ≤ 100000) (hT : Lib.Utf8Tabs 0 1 w) (h2 : 2 ≤ w.heap.size) :
    Calls Tryz.prog 90 #[str bs] w fun e w' => e = .returned (str (escS bs)) ∧ Below w.heap.size w w' := by
  have cs := fun (w : World) => xml_signs (w := w) ⟨bs.toArray⟩
  have f83 : Fence.wide.fn 83 := trivial
  have hstr : str bs = .string ⟨bs.toArray⟩ := rfl
  rw [hstr]
  replace hT := Lib.hid hT
  replace hstr := Lib.hid hstr
  refine (callsIn_wide (n := 0)).1 ?_
  refine callsIn_of_wp_marks Tryz.func90 rfl trivial ?_ rfl
  simp only [Tryz.ntmps90, List.size_toArray, List.length_cons, List.length_nil, Nat.reduceAdd, Nat.reduceSub, Array.replicate_succ, Array.replicate_zero, List.push_toArray, List.append_toArray, List.nil_append, List.cons_append]
  gi_wp2_with (refine ⟨rfl, ?_⟩; gi_at_call 83; refine (callsIn_wide.2 (cs _)).mono ?_; rintro e w' ⟨rfl, rfl⟩)
  obtain ⟨W0, hW0⟩ : ∃ W0, W0 = (w.alloc (.cells #[.pointer none, .slice none 0 0] 154)).alloc (.cells #[.string ⟨bs.toArray⟩] 9) := ⟨_, rfl⟩
  rw [← hW0]
  have hz0 : W0.heap.size = w.heap.size + 2 := by rw [hW0, World.size_alloc, World.size_alloc]
  have hB0 : Below w.heap.size w W0 := by rw [hW0]; exact ((Below.refl _ _).alloc (Nat.le_refl _) _).alloc (by simp) _
  have hr0 : BldR w.heap.size [] W0 := by
    have : Blk W0 w.heap.size 154 #[.pointer none, .slice none 0 0] := by rw [hW0]; exact (Blk.new w 154 _).alloc _
    exact ⟨_, _, .inl rfl, this, World.ownsRow_nil _ _ _ _⟩
  have hs0 : Blk W0 (w.heap.size + 1) 9 #[str bs] := by
    rw [hW0, ← World.size_alloc w (.cells #[.pointer none, .slice none 0 0] 154)]; exact Blk.new _ 9 _
  have hT0 : Lib.Utf8Tabs 0 1 W0 := tabs_kept hT.out (hB0.block 0 (by omega)) (hB0.block 1 (by omega))
  replace hW0 := Lib.hid hW0
  have f18 : Fence.wide.fn 114 := trivial
  have f21 : Fence.wide.fn 113 := trivial
  have f19 : Fence.wide.fn 115 := trivial
  refine range_B (gf := 109) (lb := #[.pointer (some ⟨w.heap.size + 1, 0, none⟩)]) rfl (enters_of Tryz.func109 (by kernel_rfl) rfl) (signs_stops bs (by omega) (by omega) hs0 hT0) (Kept.refl _ _ _) (by omega) (by omega) (fun _ => rfl)
    (fun pre W => BldR w.heap.size (Lib.byteCells (pre.flatMap escP)) W ∧ Below w.heap.size w W ∧ w.heap.size + 2 ≤ W.heap.size)
    (fun _ _ _ => False)
    (fun pre U V h s => ⟨h.1.soft s, s.below h.2.1 (by omega) (by omega) (Nat.le_refl _), Nat.le_trans h.2.2 s.size⟩)
    (fun c pre U V h s => h)
    ⟨hr0, hB0, by omega⟩
    (fun x => { tmps := #[.string ⟨bs.toArray⟩, undef, .string ⟨#[]⟩, .pointer (some ⟨w.heap.size, 0, none⟩), str x.1, .bool x.2, .string ⟨bs.toArray⟩, .func (.func 109) #[] #[.pointer (some ⟨w.heap.size + 1, 0, none⟩)], str x.1, .bool x.2, undef, undef, undef, undef, undef, undef, undef, undef, undef, undef, undef, undef, undef, undef, undef, undef, undef, undef, undef, undef, undef, undef, undef, undef, undef, undef, undef], defers := [] }) ?assign ?body ?done ?stop
  case assign =>
    intro l x W K hK
    unfold encP
    gi_wp2
    exact hK
  case body =>
    rintro l pre ⟨P, ok⟩ W ⟨hb, hB, hz⟩ hpre
    have hlen := pre_len hpre
    have hP : 1 ≤ P.length := (part_len bs.length bs (Nat.le_refl _) (P, ok) (by obtain ⟨t, ht⟩ := hpre; rw [← ht]; simp)).1
    have hP2 : P.length ≤ 100000 := Nat.le_trans (part_len bs.length bs (Nat.le_refl _) (P, ok) (by obtain ⟨t, ht⟩ := hpre; rw [← ht]; simp)).2 hl
    rw [List.flatMap_append, List.length_append] at hlen
    have hone : [(P, ok)].flatMap escP = escP (P, ok) := by simp
    rw [hone] at hlen
    obtain ⟨o, ho⟩ : ∃ o, o = pre.flatMap escP := ⟨_, rfl⟩
    rw [← ho] at hb hlen
    have goal_of : ∀ V, OB w.heap.size W V → BldR w.heap.size (Lib.byteCells (o ++ escP (P, ok))) V → KeepsOthers W V ∧ Kept 2 (w.heap.size + 1) W V ∧ BldR w.heap.size (Lib.byteCells ((pre ++ [(P, ok)]).flatMap escP)) V ∧ Below w.heap.size w V ∧ w.heap.size + 2 ≤ V.heap.size := fun V hV hbV => by
      refine ⟨hV.others ?_, hV.kept (by omega) (by omega), ?_, hV.below hB (Nat.le_refl _) (Nat.le_refl _), Nat.le_trans hz hV.size⟩
      · obtain ⟨p, v, _, hg, _⟩ := hb
        exact ⟨_, hg, rfl⟩
      · rw [List.flatMap_append, hone, ← ho]; exact hbV
    have cw : ∀ W1, Below W.heap.size W W1 → ∀ S : ByteArray, S.data.toList = escP (P, ok) → Calls Tryz.prog 114 #[.pointer (some ⟨w.heap.size, 0, none⟩), .string S] W1 fun e w' => e = .returned (.tuple #[.int .i64 S.size, .nilIface]) ∧ OB w.heap.size W w' ∧ BldR w.heap.size (Lib.byteCells (o ++ escP (P, ok))) w' := fun W1 h1 S hS => by
      have hSl : S.size = (escP (P, ok)).length := by rw [← hS, Array.length_toList]; rfl
      refine (bld_str_r w.heap.size (Lib.byteCells o) S W1 (hb.below h1) (by rw [bcells_len, hSl]; omega) (by have := h1.size; omega)).mono ?_
      rintro e w' ⟨rfl, hb2, ho2⟩
      refine ⟨rfl, (OB.of_below h1).trans ho2, ?_⟩
      have : Lib.byteCells o ++ Lib.strCells S = Lib.byteCells (o ++ escP (P, ok)) := by rw [bcells_app, ← hS]; rfl
      rw [← this]; exact hb2
    replace goal_of := Lib.hid goal_of
    replace hb := Lib.hid hb
    replace hB := Lib.hid hB
    replace ho := Lib.hid ho
    clear hlen hone hpre
    cases ok with
    | false =>
      have he : escP (P, false) = List.replicate P.length 63 := by simp [escP]
      have cR := rep_marks P.length hP hP2
      have c18 := fun W1 h1 => cw W1 h1 ⟨(List.replicate P.length 63).toArray⟩ (by rw [he])
      generalize (⟨(List.replicate P.length 63).toArray⟩ : ByteArray) = S at *
      have hPs : (⟨P.toArray⟩ : ByteArray).size = P.length := by show P.toArray.size = _; simp
      have hPB : str P = .string ⟨P.toArray⟩ := rfl
      simp only [hPB]
      generalize (⟨P.toArray⟩ : ByteArray) = PB at *
      generalize P.length = m at *
      replace c18 := Lib.hid c18
      clear he cw hPB
      gi_wp2_with (first
        | (refine ⟨rfl, ?_⟩; gi_at_call 113; refine ((callsIn_wide.2 (cR _)).inRound l).mono ?_; rintro e w1 ⟨rfl, b1⟩; have k1 := c18.out _ b1)
        | (refine ⟨rfl, ?_⟩; gi_at_call 114; refine ((callsIn_wide.2 k1).inRound l).mono ?_; rintro e w2 ⟨rfl, ob, hb1⟩))
      exact goal_of.out _ ob hb1
    | true =>
      by_cases h60 : P = [60]
      · subst h60
        have c18 := cw W (Below.refl _ _) ⟨#[38, 108, 116, 59]⟩ (by simp [escP])
        replace goal_of := goal_of
        clear cw
        have hPB : str [60] = .string ⟨#[60]⟩ := rfl
        simp only [hPB]
        gi_wp2_with (refine ⟨rfl, ?_⟩; gi_at_call 114; refine ((callsIn_wide.2 c18).inRound l).mono ?_; rintro e w2 ⟨rfl, ob, hb1⟩)
        exact goal_of.out _ ob hb1
      by_cases h62 : P = [62]
      · subst h62
        have c18 := cw W (Below.refl _ _) ⟨#[38, 103, 116, 59]⟩ (by simp [escP])
        replace goal_of := goal_of
        clear cw
        have hPB : str [62] = .string ⟨#[62]⟩ := rfl
        simp only [hPB]
        gi_wp2_with (refine ⟨rfl, ?_⟩; gi_at_call 114; refine ((callsIn_wide.2 c18).inRound l).mono ?_; rintro e w2 ⟨rfl, ob, hb1⟩)
        exact goal_of.out _ ob hb1
      by_cases h38 : P = [38]
      · subst h38
        have c18 := cw W (Below.refl _ _) ⟨#[38, 97, 109, 112, 59]⟩ (by simp [escP])
        replace goal_of := goal_of
        clear cw
        have hPB : str [38] = .string ⟨#[38]⟩ := rfl
        simp only [hPB]
        gi_wp2_with (refine ⟨rfl, ?_⟩; gi_at_call 114; refine ((callsIn_wide.2 c18).inRound l).mono ?_; rintro e w2 ⟨rfl, ob, hb1⟩)
        exact goal_of.out _ ob hb1
      by_cases h34 : P = [34]
      · subst h34
        have c18 := cw W (Below.refl _ _) ⟨#[38, 113, 117, 111, 116, 59]⟩ (by simp [escP])
        replace goal_of := goal_of
        clear cw
        have hPB : str [34] = .string ⟨#[34]⟩ := rfl
        simp only [hPB]
        gi_wp2_with (refine ⟨rfl, ?_⟩; gi_at_call 114; refine ((callsIn_wide.2 c18).inRound l).mono ?_; rintro e w2 ⟨rfl, ob, hb1⟩)
        exact goal_of.out _ ob hb1
      by_cases h39 : P = [39]
      · subst h39
        have c18 := cw W (Below.refl _ _) ⟨#[38, 97, 112, 111, 115, 59]⟩ (by simp [escP])
        replace goal_of := goal_of
        clear cw
        have hPB : str [39] = .string ⟨#[39]⟩ := rfl
        simp only [hPB]
        gi_wp2_with (refine ⟨rfl, ?_⟩; gi_at_call 114; refine ((callsIn_wide.2 c18).inRound l).mono ?_; rintro e w2 ⟨rfl, ob, hb1⟩)
        exact goal_of.out _ ob hb1
      by_cases h13 : P = [13]
      · subst h13
        have c18 := cw W (Below.refl _ _) ⟨#[38, 35, 49, 51, 59]⟩ (by simp [escP])
        replace goal_of := goal_of
        clear cw
        have hPB : str [13] = .string ⟨#[13]⟩ := rfl
        simp only [hPB]
        gi_wp2_with (refine ⟨rfl, ?_⟩; gi_at_call 114; refine ((callsIn_wide.2 c18).inRound l).mono ?_; rintro e w2 ⟨rfl, ob, hb1⟩)
        exact goal_of.out _ ob hb1
      have he : escP (P, true) = P := by simp [escP, h60, h62, h38, h34, h39, h13]
      have c18 := cw W (Below.refl _ _) ⟨P.toArray⟩ (by rw [he])
      have t60 : ((⟨P.toArray⟩ : ByteArray).toList == [60]) = false := by rw [ByteArray.toList_eq]; simpa using h60
      have t62 : ((⟨P.toArray⟩ : ByteArray).toList == [62]) = false := by rw [ByteArray.toList_eq]; simpa using h62
      have t38 : ((⟨P.toArray⟩ : ByteArray).toList == [38]) = false := by rw [ByteArray.toList_eq]; simpa using h38
      have t34 : ((⟨P.toArray⟩ : ByteArray).toList == [34]) = false := by rw [ByteArray.toList_eq]; simpa using h34
      have t39 : ((⟨P.toArray⟩ : ByteArray).toList == [39]) = false := by rw [ByteArray.toList_eq]; simpa using h39
      have t13 : ((⟨P.toArray⟩ : ByteArray).toList == [13]) = false := by rw [ByteArray.toList_eq]; simpa using h13
      have hPB : str P = .string ⟨P.toArray⟩ := rfl
      simp only [hPB]
      generalize (⟨P.toArray⟩ : ByteArray) = PB at *
      clear cw he h60 h62 h38 h34 h39 h13
      gi_wp2_with (refine ⟨rfl, ?_⟩; gi_at_call 114; refine ((callsIn_wide.2 c18).inRound l).mono ?_; rintro e w2 ⟨rfl, ob, hb1⟩)
      exact goal_of.out _ ob hb1
  case done =>
    rintro W ⟨hb, hB, hz⟩ hK
    have hcl : Calls Tryz.prog 115 #[.pointer (some ⟨w.heap.size, 0, none⟩)] W fun e w' => e = .returned (.string ⟨(escS bs).toArray⟩) ∧ (Lib.IsBuilderF 154 5 w.heap.size w.heap.size (Lib.byteCells (escS bs)) w' ∧ Below w.heap.size W w' ∧ Lib.OthersKept 5 (some w.heap.size) W w') :=
      Any.Builder_String_any_k Tryz.lays169 Tryz.Builder_Extra_169 w.heap.size w.heap.size (escS bs) W (Lib.IsBuilderF.of hb.is) (by omega)
    have hK0 := Lib.hid hK
    replace hb := Lib.hid hb
    replace hB := Lib.hid hB
    gi_wp2_with (refine ⟨rfl, ?_⟩; gi_at_call 115; refine (callsIn_wide.2 hcl).mono ?_; rintro e w1 ⟨rfl, hb1, hB1, hok⟩; replace hb1 := Lib.hid hb1; replace hB1 := Lib.hid hB1; replace hok := Lib.hid hok)
    have hK1 := hK0.out
    rw [hz0] at hK1
    have hK' := hok.out _ _ hK1 (by simp) (by intro c fz e; cases e)
    refine ⟨by simp, .inl ⟨_, _, rfl, run_takeDeferred hK', ?_⟩⟩
    refine ⟨str (escS bs), ?_, rfl, below_put (hB.out.trans hB1.out) _ _ (by omega)⟩
    simp [results, Tryz.f90, go_sem, str]
  case stop =>
    intro c pre W _ h
    exact h.elim
end Go.Proofs.YtkpikpaepgknnaaGreatDoor

/- What the document's own Escape lays at each sign: plain. No condition. -/
namespace Go.Proofs.YtkpikpaepgknnaaGreatDoor
open Go Go.RowKit Go.Wk Go.Xt
theorem decN_ok (n b0 b1 b2 b3 : Nat) (h0 : b0 < 256) : ((Lib.decodeN n b0 b1 b2 b3).1 < 55296 ∨ 57344 ≤ (Lib.decodeN n b0 b1 b2 b3).1) ∧ (Lib.decodeN n b0 b1 b2 b3).1 ≤ 1114111 ∧ ((Lib.decodeN n b0 b1 b2 b3).1 < 128 → (Lib.decodeN n b0 b1 b2 b3).1 = b0 ∧ (Lib.decodeN n b0 b1 b2 b3).2 = 1) := by
  unfold Lib.decodeN
  repeat' split
  all_goals (refine ⟨by simp only; omega, by simp only; omega, fun h => ?_⟩; first | (exfalso; simp only at h; omega) | exact ⟨rfl, rfl⟩ | simp)
theorem dec_ok (x : UInt8) (t : List UInt8) : ((Lib.decodeL (x :: t)).1 < 55296 ∨ 57344 ≤ (Lib.decodeL (x :: t)).1) ∧ (Lib.decodeL (x :: t)).1 ≤ 1114111 ∧ ((Lib.decodeL (x :: t)).1 < 128 → (Lib.decodeL (x :: t)).1 = x.toNat ∧ (Lib.decodeL (x :: t)).2 = 1) := by
  rw [Lib.decodeL_N]
  exact decN_ok _ _ _ _ _ x.toNat_lt
theorem signV_dec (r : Nat) (h1 : r < 55296 ∨ 57344 ≤ r) (h2 : r ≤ 1114111) : signV (r : Int) = signB (r : Int) := by
  unfold signV
  have : validB (r : Int) = true := by
    unfold validB; simp only [Bool.or_eq_true, Bool.and_eq_true, decide_eq_true_eq]; omega
  rw [this]; simp
def refP (r n : Nat) (l : List UInt8) : List UInt8 :=
  if r = 60 then [38, 108, 116, 59] else if r = 62 then [38, 103, 116, 59] else if r = 38 then [38, 97, 109, 112, 59]
  else if r = 34 then [38, 113, 117, 111, 116, 59] else if r = 39 then [38, 97, 112, 111, 115, 59] else if r = 13 then [38, 35, 49, 51, 59]
  else if (r = 65533 ∧ n < 2) ∨ signB (r : Int) = false then List.replicate n 63 else l.take n
theorem piece (l : List UInt8) (h : l ≠ []) : escP (l.take (Lib.decodeL l).2, nextOk l) = refP (Lib.decodeL l).1 (Lib.decodeL l).2 l := by
  obtain ⟨x, t, rfl⟩ : ∃ x t, l = x :: t := by cases l with | nil => exact absurd rfl h | cons x t => exact ⟨x, t, rfl⟩
  obtain ⟨h1, h2, h3⟩ := dec_ok x t
  have hle := Lib.decodeL_le (x :: t) (by simp)
  have hwd := Lib.decodeL_width (x :: t)
  have hsv := signV_dec _ h1 h2
  unfold nextOk
  rw [hsv]
  generalize hr : (Lib.decodeL (x :: t)).1 = r at *
  generalize hn : (Lib.decodeL (x :: t)).2 = n at *
  have hx : ∀ k : Nat, k < 128 → r = k → x.toNat = k ∧ n = 1 := fun k hk e => by
    have := h3 (by omega); omega
  have ht : ∀ (y : UInt8), (x :: t).take n = [y] → n = 1 ∧ x = y ∨ t = [] ∧ x = y := fun y e => by
    cases n with
    | zero => omega
    | succ m =>
      rw [List.take_succ_cons] at e
      injection e with e1 e2
      cases m with
      | zero => exact .inl ⟨rfl, e1⟩
      | succ m => cases t with
        | nil => exact .inr ⟨rfl, e1⟩
        | cons y t => simp at e2
  have one : ∀ k : UInt8, k.toNat < 128 → (x :: t).take n = [k] → r = k.toNat := fun k hk e => by
    have hxk : x = k := by rcases ht k e with ⟨_, h⟩ | ⟨_, h⟩ <;> exact h
    have := Lib.decodeL_ascii x t (by rw [hxk]; exact hk)
    rw [← hr, this, hxk]
  have sg : ∀ k : Nat, k < 128 → r = k → ∀ y : UInt8, y.toNat = k → (x :: t).take n = [y] := fun k hk e y hy => by
    obtain ⟨e1, e2⟩ := hx k hk e
    have : x = y := UInt8.toNat_inj.1 (by omega)
    rw [e2, this]; rfl
  unfold refP
  by_cases c1 : r = 60
  · rw [if_pos c1, sg 60 (by omega) c1 60 rfl, c1]; rfl
  rw [if_neg c1]
  by_cases c2 : r = 62
  · rw [if_pos c2, sg 62 (by omega) c2 62 rfl, c2]; rfl
  rw [if_neg c2]
  by_cases c3 : r = 38
  · rw [if_pos c3, sg 38 (by omega) c3 38 rfl, c3]; rfl
  rw [if_neg c3]
  by_cases c4 : r = 34
  · rw [if_pos c4, sg 34 (by omega) c4 34 rfl, c4]; rfl
  rw [if_neg c4]
  by_cases c5 : r = 39
  · rw [if_pos c5, sg 39 (by omega) c5 39 rfl, c5]; rfl
  rw [if_neg c5]
  by_cases c6 : r = 13
  · rw [if_pos c6, sg 13 (by omega) c6 13 rfl, c6]; rfl
  rw [if_neg c6]
  have n1 : (x :: t).take n ≠ [60] := fun e => c1 (one 60 (by decide) e)
  have n2 : (x :: t).take n ≠ [62] := fun e => c2 (one 62 (by decide) e)
  have n3 : (x :: t).take n ≠ [38] := fun e => c3 (one 38 (by decide) e)
  have n4 : (x :: t).take n ≠ [34] := fun e => c4 (one 34 (by decide) e)
  have n5 : (x :: t).take n ≠ [39] := fun e => c5 (one 39 (by decide) e)
  have n6 : (x :: t).take n ≠ [13] := fun e => c6 (one 13 (by decide) e)
  have hlen : ((x :: t).take n).length = n := by rw [List.length_take]; omega
  unfold escP
  simp only [n1, n2, n3, n4, n5, n6, if_false, hlen]
  by_cases c7 : (r = 65533 ∧ n < 2) ∨ signB (r : Int) = false
  · rw [if_pos c7, if_pos]
    rcases c7 with ⟨c7, c8⟩ | c7
    · simp only [Bool.and_eq_false_iff, Bool.or_eq_false_iff, decide_eq_false_iff_not]; right; omega
    · rw [c7]; rfl
  · rw [if_neg c7, if_neg]
    simp only [Bool.and_eq_false_iff, Bool.or_eq_false_iff, decide_eq_false_iff_not]
    rintro (e | ⟨e1, e2⟩)
    · exact c7 (.inr e)
    · exact c7 (.inl ⟨by omega, by omega⟩)
end Go.Proofs.YtkpikpaepgknnaaGreatDoor

/- A text escaped is read as it was: plain. No condition. -/
namespace Go.Proofs.YtkpikpaepgknnaaGreatDoor
open Go Go.RowKit Go.Wk Go.Xt Go.Xe
def outP (x : List UInt8 × Bool) : List UInt8 := if x.2 = false then List.replicate x.1.length 63 else x.1
def outS (l : List UInt8) : List UInt8 := (partsS l).flatMap outP
theorem decN_bytes (n b0 b1 b2 b3 : Nat) : (Lib.decodeN n b0 b1 b2 b3).2 = 1 ∨ ((Lib.decodeN n b0 b1 b2 b3).2 = 2 ∧ 128 ≤ b0 ∧ 128 ≤ b1) ∨ ((Lib.decodeN n b0 b1 b2 b3).2 = 3 ∧ 128 ≤ b0 ∧ 128 ≤ b1 ∧ 128 ≤ b2) ∨ ((Lib.decodeN n b0 b1 b2 b3).2 = 4 ∧ 128 ≤ b0 ∧ 128 ≤ b1 ∧ 128 ≤ b2 ∧ 128 ≤ b3) := by
  unfold Lib.decodeN
  repeat' split
  all_goals first | (left; rfl) | (right; left; exact ⟨rfl, by omega, by omega⟩) | (right; right; left; exact ⟨rfl, by omega, by omega, by omega⟩) | (right; right; right; exact ⟨rfl, by omega, by omega, by omega, by omega⟩)
theorem dec_bytes (l : List UInt8) (h : l ≠ []) : (l.take (Lib.decodeL l).2).length = 1 ∨ ∀ b ∈ l.take (Lib.decodeL l).2, 128 ≤ b.toNat := by
  have hle := Lib.decodeL_le l h
  have hb := decN_bytes l.length (l.getD 0 0).toNat (l.getD 1 0).toNat (l.getD 2 0).toNat (l.getD 3 0).toNat
  rw [← Lib.decodeL_N] at hb
  generalize (Lib.decodeL l).2 = n at *
  have hg : ∀ i (hi : i < l.length), (l.getD i 0) = l[i] := fun i hi => by rw [List.getD_eq_getElem?_getD, List.getElem?_eq_getElem hi]; rfl
  rcases hb with rfl | hb
  · left; rw [List.length_take]; omega
  · right
    intro b hbm
    obtain ⟨i, hi, rfl⟩ := List.getElem_of_mem hbm
    rw [List.length_take] at hi
    rw [List.getElem_take]
    rw [← hg i (by omega)]
    have : i = 0 ∨ i = 1 ∨ i = 2 ∨ i = 3 := by omega
    rcases this with rfl | rfl | rfl | rfl <;> omega
theorem part_bytes : ∀ (n : Nat) (l : List UInt8), l.length ≤ n → ∀ x ∈ partsS l, x.1.length = 1 ∨ ∀ b ∈ x.1, 128 ≤ b.toNat := by
  intro n
  induction n with
  | zero =>
    intro l hl x hx
    have : l = [] := List.eq_nil_of_length_eq_zero (by omega)
    subst this
    rw [partsS_nil] at hx; cases hx
  | succ n ih =>
    intro l hl x hx
    by_cases h : l = []
    · subst h; rw [partsS_nil] at hx; cases hx
    · rw [partsS_cons l h] at hx
      have hw := Lib.decodeL_width l
      have hp : 0 < l.length := List.length_pos_iff.2 h
      rcases List.mem_cons.1 hx with rfl | hx
      · exact dec_bytes l h
      · exact ih (l.drop (Lib.decodeL l).2) (by simp; omega) x hx
theorem txt_bytes {fin : Int} {tail o r' : List UInt8} (h : Txt fin tail o r') : ∀ (l : List UInt8), (∀ b ∈ l, b ≠ 60 ∧ (b.toNat : Int) ≠ fin ∧ b ≠ 38) → Txt fin (l ++ tail) (l ++ o) r' := by
  intro l
  induction l with
  | nil => intro _; exact h
  | cons b l ih =>
    intro hl
    have hb := hl b (by simp)
    exact .byte b _ _ _ hb.1 hb.2.1 hb.2.2 (ih fun c hc => hl c (by simp [hc]))
theorem txt_piece {fin : Int} (hf : fin = 34 ∨ fin = -1) {tail o r' : List UInt8} (h : Txt fin tail o r') (x : List UInt8 × Bool) (hx : x.1.length = 1 ∨ ∀ b ∈ x.1, 128 ≤ b.toNat) : Txt fin (escP x ++ tail) (outP x ++ o) r' := by
  have hf38 : fin ≠ 38 := by omega
  unfold escP outP
  by_cases hk : x.2 = false
  · rw [if_pos hk, if_pos hk]
    refine txt_bytes h _ fun b hb => ?_
    rw [List.mem_replicate] at hb
    rw [hb.2]
    exact ⟨by decide, by show (63 : Int) ≠ fin; omega, by decide⟩
  rw [if_neg hk, if_neg hk]
  by_cases c1 : x.1 = [60]
  · rw [if_pos c1, c1]; exact .ent _ [60] _ _ _ hf38 (.lt tail) h
  rw [if_neg c1]
  by_cases c2 : x.1 = [62]
  · rw [if_pos c2, c2]; exact .ent _ [62] _ _ _ hf38 (.gt tail) h
  rw [if_neg c2]
  by_cases c3 : x.1 = [38]
  · rw [if_pos c3, c3]; exact .ent _ [38] _ _ _ hf38 (.amp tail) h
  rw [if_neg c3]
  by_cases c4 : x.1 = [34]
  · rw [if_pos c4, c4]; exact .ent _ [34] _ _ _ hf38 (.quot tail) h
  rw [if_neg c4]
  by_cases c5 : x.1 = [39]
  · rw [if_pos c5, c5]; exact .ent _ [39] _ _ _ hf38 (.apos tail) h
  rw [if_neg c5]
  by_cases c6 : x.1 = [13]
  · rw [if_pos c6, c6]; exact .ent _ [13] _ _ _ hf38 (.cr tail) h
  rw [if_neg c6]
  refine txt_bytes h _ fun b hb => ?_
  rcases hx with hx | hx
  · obtain ⟨y, hy⟩ : ∃ y, x.1 = [y] := by
      cases hz : x.1 with
      | nil => rw [hz] at hx; cases hx
      | cons y t => cases t with
        | nil => exact ⟨y, rfl⟩
        | cons z t => rw [hz] at hx; simp at hx
    rw [hy] at hb c1 c3 c4
    simp at hb
    subst hb
    refine ⟨fun e => c1 (by rw [e]), fun e => ?_, fun e => c3 (by rw [e])⟩
    rcases hf with rfl | rfl
    · exact c4 (by rw [show b = 34 from UInt8.toNat_inj.1 (by show b.toNat = 34; omega)])
    · omega
  · have := hx b hb
    refine ⟨fun e => ?_, by omega, fun e => ?_⟩
    · rw [e] at this; exact absurd this (by decide)
    · rw [e] at this; exact absurd this (by decide)
theorem txt_esc {fin : Int} (hf : fin = 34 ∨ fin = -1) {tail o r' : List UInt8} (h : Txt fin tail o r') (l : List UInt8) : Txt fin (escS l ++ tail) (outS l ++ o) r' := by
  have hp := part_bytes l.length l (Nat.le_refl _)
  unfold escS outS
  generalize partsS l = xs at *
  induction xs with
  | nil => exact h
  | cons x xs ih =>
    rw [List.flatMap_cons, List.flatMap_cons, List.append_assoc, List.append_assoc]
    exact txt_piece hf (ih fun y hy => hp y (by simp [hy])) x (hp x (by simp))
theorem outS_ok : ∀ (n : Nat) (l : List UInt8), l.length ≤ n → signsB l = true → outS l = l := by
  intro n
  induction n with
  | zero =>
    intro l hl _
    have : l = [] := List.eq_nil_of_length_eq_zero (by omega)
    subst this
    unfold outS; rw [partsS_nil]; rfl
  | succ n ih =>
    intro l hl hs
    by_cases h : l = []
    · subst h; unfold outS; rw [partsS_nil]; rfl
    · have hw := Lib.decodeL_width l
      have hp : 0 < l.length := List.length_pos_iff.2 h
      unfold signsB at hs
      rw [partsS_cons l h, List.all_cons, Bool.and_eq_true] at hs
      have := ih (l.drop (Lib.decodeL l).2) (by simp; omega) hs.2
      unfold outS at this ⊢
      rw [partsS_cons l h, List.flatMap_cons, this]
      unfold outP
      have h1 : nextOk l = true := hs.1
      rw [if_neg (by rw [h1]; simp)]
      exact List.take_append_drop _ _
end Go.Proofs.YtkpikpaepgknnaaGreatDoor

/- strings.IndexByte and utf8.DecodeRune, at this program's numbers. No condition. -/
namespace Go.Proofs
open Go.Shelf
def Tryz.lays137_ren : Go.Shelf.Ren := ⟨fun | 137 => 80 | 217 => 108 | 266 => 136 | n => n, fun | 9 => 9 | 5 => 5 | 3 => 3 | n => n, fun | n => n⟩
theorem Tryz.lays137 : Go.Proofs.Lays.n137 Tryz.prog Tryz.lays137_ren := {
  mixed := by kernel_rfl
  f137 := Tryz.func80.trans (congrArg some (by kernel_rfl))
  f217 := Tryz.func108.trans (congrArg some (by kernel_rfl))
  f266 := Tryz.func136.trans (congrArg some (by kernel_rfl))
  t3 := Tryz.underlying3
  a3 := Tryz.isAgg3
  z3 := Tryz.sizeOf3
  v3 := Tryz.zeroValue3
  t5 := Tryz.underlying5
  a5 := Tryz.isAgg5
  z5 := Tryz.sizeOf5
  v5 := Tryz.zeroValue5
  t9 := Tryz.underlying9
  a9 := Tryz.isAgg9
  z9 := Tryz.sizeOf9
  v9 := Tryz.zeroValue9 }
open Go.RowKit in
theorem Tryz.strings_IndexByte (s : ByteArray) (c : Int) (w : World) :
    Calls Tryz.prog 80 #[.string s, .int .u8 c] w fun e w' => e = .returned (.int .i64 (Lib.indexByte s.data.toList c.toNat.toUInt8)) ∧ w' = w := Any.strings_IndexByte Tryz.lays137 s c w
def Tryz.lays7_ren : Go.Shelf.Ren := ⟨fun | 32 => 92 | 49 => 116 | n => n, fun | 0 => 0 | 3 => 3 | 4 => 4 | 5 => 5 | 21 => 21 | 25 => 49 | 30 => 25 | 33 => 103 | 66 => 160 | 68 => 162 | 69 => 163 | n => n, fun | 2 => 0 | 3 => 1 | n => n⟩
theorem Tryz.lays7 : Go.Proofs.Lays7.n32 Tryz.prog Tryz.lays7_ren := {
  mixed := by kernel_rfl
  f32 := Tryz.func92.trans (congrArg some (by kernel_rfl))
  f49 := Tryz.func116.trans (congrArg some (by kernel_rfl))
  t0 := Tryz.underlying0
  a0 := Tryz.isAgg0
  z0 := Tryz.sizeOf0
  v0 := Tryz.zeroValue0
  i0 := by kernel_rfl
  t3 := Tryz.underlying3
  a3 := Tryz.isAgg3
  z3 := Tryz.sizeOf3
  v3 := Tryz.zeroValue3
  i3 := by kernel_rfl
  t4 := Tryz.underlying4
  a4 := Tryz.isAgg4
  z4 := Tryz.sizeOf4
  v4 := Tryz.zeroValue4
  i4 := by kernel_rfl
  t5 := Tryz.underlying5
  a5 := Tryz.isAgg5
  z5 := Tryz.sizeOf5
  v5 := Tryz.zeroValue5
  i5 := by kernel_rfl
  t21 := Tryz.underlying21
  a21 := Tryz.isAgg21
  z21 := Tryz.sizeOf21
  v21 := Tryz.zeroValue21
  i21 := by kernel_rfl
  t25 := Tryz.underlying49
  a25 := Tryz.isAgg49
  z25 := Tryz.sizeOf49
  v25 := Tryz.zeroValue49
  i25 := by kernel_rfl
  t30 := Tryz.underlying25
  a30 := Tryz.isAgg25
  z30 := Tryz.sizeOf25
  v30 := Tryz.zeroValue25
  i30 := by kernel_rfl
  t33 := Tryz.underlying103
  a33 := Tryz.isAgg103
  z33 := Tryz.sizeOf103
  v33 := Tryz.zeroValue103
  i33 := by kernel_rfl
  t66 := Tryz.underlying160
  a66 := Tryz.isAgg160
  z66 := Tryz.sizeOf160
  t68 := Tryz.underlying162
  a68 := Tryz.isAgg162
  z68 := Tryz.sizeOf162
  v68 := Tryz.zeroValue162
  i68 := by kernel_rfl
  t69 := Tryz.underlying163
  a69 := Tryz.isAgg163
  z69 := Tryz.sizeOf163
  v69 := Tryz.zeroValue163
  i69 := by kernel_rfl
  g2 := by kernel_rfl
  g3 := by kernel_rfl }
open Go.RowKit Go.Lib in
theorem Tryz.utf8_DecodeRune (s : ByteArray) (b off cap : Nat) (w : World) (hT : Lib.Utf8Tabs 0 1 w) (hp : ∀ j, j < s.size → w.cell? ⟨b, off + j, none⟩ = some (.int .u8 (s.get! j).toNat)) :
    Calls Tryz.prog 92 #[.slice (some ⟨b, off, none⟩) s.size cap] w fun e w' => e = .returned (.tuple #[.int .i32 (Lib.decodeGo s).1, .int .i64 (Lib.decodeGo s).2]) ∧ Below w.heap.size w w' := Any7.utf8_DecodeRune Tryz.lays7 s b off cap w hT hp
end Go.Proofs

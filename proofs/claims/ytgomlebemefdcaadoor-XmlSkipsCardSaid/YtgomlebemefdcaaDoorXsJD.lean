/- Walks and laws, joined: part D. No condition. -/
import Derived.Test.YtgomlebemefdcaaDoorXsJC
import Derived.Laws.StructEq
import Derived.Test.YtgomlebemefdcaaDoorXsJA
import Derived.Test.YtgomlebemefdcaaDoorXsJB
import Derived.BigRegion
set_option linter.unusedSimpArgs false
set_option linter.unusedVariables false
/- Two of the document's nodes that are the same: SameNode says so. No condition. -/
namespace Go.Proofs.YtgomlebemefdcaaDoor
open Go Go.RowKit Go.Wk Go.Xt Go.Xe
set_option maxRecDepth 100000 in
theorem eq_attr (A0 A1 A2 : ByteArray) (w : World) : (Op.equalIn 10000 49 (.agg #[.string A0, .string A1, .string A2]) (.agg #[.string A0, .string A1, .string A2])).run Tryd.prog w = .ok true w := by
  have u9 := Tryd.underlying9
  have hS : Tryd.prog.underlying 49 = some (.struct (Tryd.prog.fieldsOf 49)) := by kernel_rfl
  have hp : Tryd.prog.stoodInHeld 49 = false := by kernel_rfl
  rw [show (10000 : Nat) = 9999 + 1 from rfl, run_equalIn_struct w 9999 49 _ _ hS hp]
  simp only [Program.fieldsOf, Tryd.underlying49]
  go_simp
/-- what the operations of an attribute's region yield -/
def SA (B2 B3 g g' n c c' i : Nat) (A0 A1 A2 : ByteArray) : Nat → Value → World → Prop := fun j v w => match j with
  | 0 => v = .pointer (some ⟨B2, 3, none⟩)
  | 1 => v = .slice (some ⟨g, 0, none⟩) n c
  | 2 | 7 => v = .int .i64 i
  | 3 => v = .pointer (some ⟨g, 3 * i, none⟩)
  | 4 | 9 => v = .agg #[.string A0, .string A1, .string A2]
  | 5 => v = .pointer (some ⟨B3, 3, none⟩)
  | 6 => v = .slice (some ⟨g', 0, none⟩) n c'
  | 8 => v = .pointer (some ⟨g', 3 * i, none⟩)
  | _ => True
def SK (B2 B3 g g' n c c' i : Nat) (U U' : Array Value) : Nat → Value → World → Prop := fun j v w => match j with
  | 0 => v = .pointer (some ⟨B2, 4, none⟩)
  | 1 => v = .slice (some ⟨g, 0, none⟩) n c
  | 2 | 7 => v = .int .i64 i
  | 3 => v = .pointer (some ⟨g, 5 * i, none⟩)
  | 4 => v = .agg U
  | 5 => v = .pointer (some ⟨B3, 4, none⟩)
  | 6 => v = .slice (some ⟨g', 0, none⟩) n c'
  | 8 => v = .pointer (some ⟨g', 5 * i, none⟩)
  | 9 => v = .agg U'
  | _ => True
theorem SA_mono {B2 B3 g g' n c c' i : Nat} {A0 A1 A2 : ByteArray} (j : Nat) (v : Value) (w w' : World) (h : SA B2 B3 g g' n c c' i A0 A1 A2 j v w) (hk : w = w') : SA B2 B3 g g' n c c' i A0 A1 A2 j v w' := hk ▸ h
theorem SK_mono {B2 B3 g g' n c c' i : Nat} {U U' : Array Value} (j : Nat) (v : Value) (w w' : World) (h : SK B2 B3 g g' n c c' i U U' j v w) (hk : w = w') : SK B2 B3 g g' n c c' i U U' j v w' := hk ▸ h
set_option maxHeartbeats 4000000 in
set_option maxRecDepth 100000 in
theorem same_walk {w : World} (S N T : ByteArray) (a3 a3' : Option Addr) (n3 c3 c3' : Nat) (a4 a4' : Option Addr) (n4 c4 c4' : Nat) (hn3 : n3 ≤ 200000) (hn4 : n4 ≤ 200000)
    (att : ∀ i, i < n3 → ∃ (g g' : Nat) (A0 A1 A2 : ByteArray), a3 = some ⟨g, 0, none⟩ ∧ a3' = some ⟨g', 0, none⟩ ∧ w.cell? ⟨g, 3 * i, none⟩ = some (.string A0) ∧ w.cell? ⟨g, 3 * i + 1, none⟩ = some (.string A1) ∧ w.cell? ⟨g, 3 * i + 2, none⟩ = some (.string A2) ∧ w.cell? ⟨g', 3 * i, none⟩ = some (.string A0) ∧ w.cell? ⟨g', 3 * i + 1, none⟩ = some (.string A1) ∧ w.cell? ⟨g', 3 * i + 2, none⟩ = some (.string A2))
    (kid : ∀ i, i < n4 → ∃ (g g' : Nat) (K0 K1 K2 : ByteArray) (b3 : Option Addr) (m3 d3 : Nat) (b4 : Option Addr) (m4 d4 : Nat) (L0 L1 L2 : ByteArray) (b3' : Option Addr) (m3' d3' : Nat) (b4' : Option Addr) (m4' d4' : Nat), a4 = some ⟨g, 0, none⟩ ∧ a4' = some ⟨g', 0, none⟩ ∧
      (w.cell? ⟨g, 5 * i, none⟩ = some (.string K0) ∧ w.cell? ⟨g, 5 * i + 1, none⟩ = some (.string K1) ∧ w.cell? ⟨g, 5 * i + 2, none⟩ = some (.string K2) ∧ w.cell? ⟨g, 5 * i + 3, none⟩ = some (.slice b3 m3 d3) ∧ w.cell? ⟨g, 5 * i + 4, none⟩ = some (.slice b4 m4 d4)) ∧
      (w.cell? ⟨g', 5 * i, none⟩ = some (.string L0) ∧ w.cell? ⟨g', 5 * i + 1, none⟩ = some (.string L1) ∧ w.cell? ⟨g', 5 * i + 2, none⟩ = some (.string L2) ∧ w.cell? ⟨g', 5 * i + 3, none⟩ = some (.slice b3' m3' d3') ∧ w.cell? ⟨g', 5 * i + 4, none⟩ = some (.slice b4' m4' d4')) ∧
      ∀ w', Below w.heap.size w w' → Calls Tryd.prog 10 #[.agg #[.string K0, .string K1, .string K2, .slice b3 m3 d3, .slice b4 m4 d4], .agg #[.string L0, .string L1, .string L2, .slice b3' m3' d3', .slice b4' m4' d4']] w' fun e w'' => e = .returned (.bool true) ∧ Below w'.heap.size w' w'') :
    Calls Tryd.prog 10 #[.agg #[.string S, .string N, .string T, .slice a3 n3 c3, .slice a4 n4 c4], .agg #[.string S, .string N, .string T, .slice a3' n3 c3', .slice a4' n4 c4']] w fun e w' => e = .returned (.bool true) ∧ Below w.heap.size w w' := by
  have x1 : Blk ((w.alloc (.cells #[.string S, .string N, .string T, .slice a3 n3 c3, .slice a4 n4 c4] 40)).alloc (.cells #[.string S, .string N, .string T, .slice a3' n3 c3', .slice a4' n4 c4'] 40)) w.heap.size 40 #[.string S, .string N, .string T, .slice a3 n3 c3, .slice a4 n4 c4] := (Blk.new w 40 _).alloc _
  have x2 : Blk ((w.alloc (.cells #[.string S, .string N, .string T, .slice a3 n3 c3, .slice a4 n4 c4] 40)).alloc (.cells #[.string S, .string N, .string T, .slice a3' n3 c3', .slice a4' n4 c4'] 40)) (w.heap.size + 1) 40 #[.string S, .string N, .string T, .slice a3' n3 c3', .slice a4' n4 c4'] := by
    have := Blk.new (w.alloc (.cells #[.string S, .string N, .string T, .slice a3 n3 c3, .slice a4 n4 c4] 40)) 40 #[.string S, .string N, .string T, .slice a3' n3 c3', .slice a4' n4 c4']
    rw [World.size_alloc] at this
    exact this
  have b0 : Below w.heap.size w ((w.alloc (.cells #[.string S, .string N, .string T, .slice a3 n3 c3, .slice a4 n4 c4] 40)).alloc (.cells #[.string S, .string N, .string T, .slice a3' n3 c3', .slice a4' n4 c4'] 40)) := ((Below.refl _ _).alloc (Nat.le_refl _) _).alloc (by simp) _
  replace x1 := Lib.hid x1
  replace x2 := Lib.hid x2
  replace b0 := Lib.hid b0
  replace att := Lib.hid att
  replace kid := Lib.hid kid
  go_enter Tryd.func10, Tryd.ntmps10
  go_wp2
  go_loopw [5] (fun s5 wr => ∃ i : Nat, i ≤ n3 ∧ s5 = .int .i64 i ∧ Blk wr w.heap.size 40 #[.string S, .string N, .string T, .slice a3 n3 c3, .slice a4 n4 c4] ∧ Blk wr (w.heap.size + 1) 40 #[.string S, .string N, .string T, .slice a3' n3 c3', .slice a4' n4 c4'] ∧ Below w.heap.size w wr) (fun s5 _ => n3 - (RowKit.intOf s5).toNat)
  case atStart => exact ⟨0, Nat.zero_le _, rfl, x1.out, x2.out, b0.out⟩
  case round =>
    obtain ⟨i, hi, rfl, y1, y2, hbr⟩ := hrel
    have y13 : wr.cell? ⟨w.heap.size, 3, none⟩ = some (.slice a3 n3 c3) := y1.cell 3
    by_cases hin : i < n3
    · obtain ⟨g, g', A0, A1, A2, rfl, rfl, k0, k1, k2, k0', k1', k2'⟩ := att.out i hin
      have lg : g < w.heap.size := cell_lt k0
      have lg' : g' < w.heap.size := cell_lt k0'
      have e0 := (hbr.cell (p := ⟨g, 3 * i, none⟩) lg).trans k0
      have e1 := (hbr.cell (p := ⟨g, 3 * i + 1, none⟩) lg).trans k1
      have e2 := (hbr.cell (p := ⟨g, 3 * i + 2, none⟩) lg).trans k2
      have f0 := (hbr.cell (p := ⟨g', 3 * i, none⟩) lg').trans k0'
      have f1 := (hbr.cell (p := ⟨g', 3 * i + 1, none⟩) lg').trans k1'
      have f2 := (hbr.cell (p := ⟨g', 3 * i + 2, none⟩) lg').trans k2'
      have y23 : wr.cell? ⟨w.heap.size + 1, 3, none⟩ = some (.slice (some ⟨g', 0, none⟩) n3 c3') := y2.cell 3
      have hlt : decide ((i : Int) < (n3 : Int)) = true := by simp; omega
      clear k0 k1 k2 k0' k1' k2'
      replace y1 := Lib.hid y1
      replace y2 := Lib.hid y2
      replace hbr := Lib.hid hbr
      go_wp2_with (fail)
      refine wp_lin_tail (by kernel_rfl) [none, none, none, none, none, none, none, none, none, none, none, none, none, none, none, none, none, none, none, none, none, none, none, none, none, none, none, none, none, none, none, none, none, none, none, none, none, none, none, none, none, none, none, none, none, none, none, none, none, none, none, some 0, some 1, some 2, some 3, some 4, some 5, some 6, some 7, some 8, some 9, none, none, none, none, none, none, none, none, none, none, none, none, none, none, none, none, none, none, none, none] (fun w' => w' = wr.drew) (fun w' w'' => w' = w'') (SA w.heap.size (w.heap.size + 1) g g' n3 c3 c3' i A0 A1 A2) (by rfl) (by kernel_rfl) 10 _ rfl (by decide) (by kernel_rfl) [1, 3, 3, 4, 10, 6, 8, 8, 9, 10, 0] (by kernel_rfl) ?hR ?mono (.cons 9 (step_of [8] rfl (by kernel_rfl) ?s9) (.cons 8 (step_of [6, 7] rfl (by kernel_rfl) ?s8) (.cons 7 (step_of [] rfl (by kernel_rfl) ?s7) (.cons 6 (step_of [5] rfl (by kernel_rfl) ?s6) (.cons 5 (step_of [] rfl (by kernel_rfl) ?s5) (.cons 4 (step_of [3] rfl (by kernel_rfl) ?s4) (.cons 3 (step_of [1, 2] rfl (by kernel_rfl) ?s3) (.cons 2 (step_of [] rfl (by kernel_rfl) ?s2) (.cons 1 (step_of [0] rfl (by kernel_rfl) ?s1) (.cons 0 (step_of [] rfl (by kernel_rfl) ?s0) (.nil))))))))))) ?done
      case hR => rfl
      case mono => exact SA_mono
      case done =>
        intro x w' hR hG fr hfr
        have g4 := hG 4 (by omega)
        have g9 := hG 9 (by omega)
        simp only [SA] at g4 g9
        clear hG
        simp only [fillL] at hfr
        rw [g4, g9] at hfr
        subst hfr
        subst hR
        have heq := fun w => eq_attr A0 A1 A2 w
        clear e0 e1 e2 f0 f1 f2 y13 y23
        go_wp2
        go_roundw
        case rel => exact ⟨i + 1, by omega, by go_num, y1.out, y2.out, hbr.out.drew⟩
        case measure => simp [RowKit.intOf]; omega
      all_goals
        intro x w' hR hd K hK
        simp only [All, SA] at hd
        subst hR
        simp (config := {decide := true}) only [upd, SA, fillL, if_true, if_false] at hK ⊢
        repeat (obtain ⟨_, hd⟩ := hd)
        (try simp only [*] at hK ⊢)
        go_simp
        first
          | (have hK2 := hK _ _ ⟨rfl, rfl, rfl⟩; exact hK2)
          | (rw [Nat.mul_comm i 3]; have hK2 := hK _ _ ⟨rfl, rfl, rfl⟩; exact hK2)
          | skip
    · have hlt : decide ((i : Int) < (n3 : Int)) = false := by simp; omega
      have hge : n3 ≤ i := by omega
      have y14 : wr.cell? ⟨w.heap.size, 4, none⟩ = some (.slice a4 n4 c4) := y1.cell 4
      replace y1 := Lib.hid y1
      replace y2 := Lib.hid y2
      replace hbr := Lib.hid hbr
      go_wp2
      clear y13 y14 hlt hge hin hi
      go_loopw [6] (fun s6 wq => ∃ i : Nat, i ≤ n4 ∧ s6 = .int .i64 i ∧ Blk wq w.heap.size 40 #[.string S, .string N, .string T, .slice a3 n3 c3, .slice a4 n4 c4] ∧ Blk wq (w.heap.size + 1) 40 #[.string S, .string N, .string T, .slice a3' n3 c3', .slice a4' n4 c4'] ∧ Below w.heap.size w wq) (fun s6 _ => n4 - (RowKit.intOf s6).toNat)
      case atStart => exact ⟨0, Nat.zero_le _, rfl, y1.out, y2.out, hbr.out⟩
      case round =>
        rename_i wr0
        obtain ⟨i, hi, rfl, y1, y2, hbr⟩ := hrel
        have y14 := y1.cell 4
        by_cases hin : i < n4
        · obtain ⟨g, g', K0, K1, K2, b3, m3, d3, b4, m4, d4, L0, L1, L2, b3', m3', d3', b4', m4', d4', rfl, rfl, ⟨k0, k1, k2, k3, k4⟩, ⟨k0', k1', k2', k3', k4'⟩, hcall⟩ := kid.out i hin
          have lg : g < w.heap.size := cell_lt k0
          have lg' : g' < w.heap.size := cell_lt k0'
          have e0 := (hbr.cell (p := ⟨g, 5 * i, none⟩) lg).trans k0
          have e1 := (hbr.cell (p := ⟨g, 5 * i + 1, none⟩) lg).trans k1
          have e2 := (hbr.cell (p := ⟨g, 5 * i + 2, none⟩) lg).trans k2
          have e3 := (hbr.cell (p := ⟨g, 5 * i + 3, none⟩) lg).trans k3
          have e4 := (hbr.cell (p := ⟨g, 5 * i + 4, none⟩) lg).trans k4
          have f0 := (hbr.cell (p := ⟨g', 5 * i, none⟩) lg').trans k0'
          have f1 := (hbr.cell (p := ⟨g', 5 * i + 1, none⟩) lg').trans k1'
          have f2 := (hbr.cell (p := ⟨g', 5 * i + 2, none⟩) lg').trans k2'
          have f3 := (hbr.cell (p := ⟨g', 5 * i + 3, none⟩) lg').trans k3'
          have f4 := (hbr.cell (p := ⟨g', 5 * i + 4, none⟩) lg').trans k4'
          have y24 := y2.cell 4
          have hlt : decide ((i : Int) < (n4 : Int)) = true := by simp; omega
          clear k0 k1 k2 k3 k4 k0' k1' k2' k3' k4'
          have hs := hbr.size
          replace y1 := Lib.hid y1
          replace y2 := Lib.hid y2
          replace hbr := Lib.hid hbr
          replace hcall := Lib.hid hcall
          go_wp2_with (fail)
          refine wp_lin_tail (by kernel_rfl) [none, none, none, none, none, none, none, none, none, none, none, none, none, none, none, none, none, none, none, none, none, none, none, none, none, none, none, none, none, none, none, none, none, none, none, none, none, none, none, none, none, none, none, none, none, none, none, none, none, none, none, none, none, none, none, none, none, none, none, none, none, none, none, none, none, none, none, none, none, some 0, some 1, some 2, some 3, some 4, some 5, some 6, some 7, some 8, some 9, none, none] (fun w' => w' = wr.drew) (fun w' w'' => w' = w'') (SK w.heap.size (w.heap.size + 1) g g' n4 c4 c4' i #[.string K0, .string K1, .string K2, .slice b3 m3 d3, .slice b4 m4 d4] #[.string L0, .string L1, .string L2, .slice b3' m3' d3', .slice b4' m4' d4']) (by rfl) (by kernel_rfl) 10 _ rfl (by decide) (by kernel_rfl) [1, 3, 3, 4, 10, 6, 8, 8, 9, 10, 0] (by kernel_rfl) ?khR ?kmono (.cons 9 (step_of [8] rfl (by kernel_rfl) ?k9) (.cons 8 (step_of [6, 7] rfl (by kernel_rfl) ?k8) (.cons 7 (step_of [] rfl (by kernel_rfl) ?k7) (.cons 6 (step_of [5] rfl (by kernel_rfl) ?k6) (.cons 5 (step_of [] rfl (by kernel_rfl) ?k5) (.cons 4 (step_of [3] rfl (by kernel_rfl) ?k4) (.cons 3 (step_of [1, 2] rfl (by kernel_rfl) ?k3) (.cons 2 (step_of [] rfl (by kernel_rfl) ?k2) (.cons 1 (step_of [0] rfl (by kernel_rfl) ?k1) (.cons 0 (step_of [] rfl (by kernel_rfl) ?k0) (.nil))))))))))) ?kdone
          case khR => rfl
          case kmono => exact SK_mono
          case kdone =>
            intro x w' hR hG fr hfr
            have g4 := hG 4 (by omega)
            have g9 := hG 9 (by omega)
            simp only [SK] at g4 g9
            clear hG
            simp only [fillL] at hfr
            rw [g4, g9] at hfr
            subst hfr
            subst hR
            have kc := hcall.out wr.drew hbr.out.drew
            clear e0 e1 e2 e3 e4 f0 f1 f2 f3 f4 y14 y24
            go_wp2_with (go_at_call 10; (with_reducible refine kc.mono ?_); rintro e w5 ⟨rfl, b5⟩; have z1 := y1.out.drew.below b5 y1.out.drew.lt; have z2 := y2.out.drew.below b5 y2.out.drew.lt; have zb := bthen hbr.out.drew b5; replace z1 := Lib.hid z1; replace z2 := Lib.hid z2; replace zb := Lib.hid zb; replace b5 := Lib.hid b5)
            go_roundw
            case rel => exact ⟨i + 1, by omega, by go_num, z1.out, z2.out, zb.out⟩
            case measure => simp [RowKit.intOf]; omega
          all_goals
            intro x w' hR hd K hK
            simp only [All, SK] at hd
            subst hR
            simp (config := {decide := true}) only [upd, SK, fillL, if_true, if_false] at hK ⊢
            repeat (obtain ⟨_, hd⟩ := hd)
            (try simp only [*] at hK ⊢)
            go_simp
            first
              | (have hK2 := hK _ _ ⟨rfl, rfl, rfl⟩; exact hK2)
              | (rw [Nat.mul_comm i 5]; have hK2 := hK _ _ ⟨rfl, rfl, rfl⟩; exact hK2)
              | skip
        · have hlt : decide ((i : Int) < (n4 : Int)) = false := by simp; omega
          have hge : n4 ≤ i := by omega
          replace y1 := Lib.hid y1
          replace y2 := Lib.hid y2
          replace hbr := Lib.hid hbr
          go_wp2
          go_ret
          exact ⟨rfl, hbr.out⟩
end Go.Proofs.YtgomlebemefdcaaDoor

/- Elements in one another: they are read; one too many is too deep. No condition. -/
namespace Go.Xe
def low (n : UInt8) : Prop := 97 ≤ n.toNat ∧ n.toNat ≤ 122
def nestS : Bs → Bs
  | [] => [116]
  | n :: l => [60, n, 62] ++ nestS l ++ [60, 47, n, 62]
def nestN : Bs → Nd
  | [] => .tx [116]
  | n :: l => .el [n] [] [nestN l]
theorem low_begins {n : UInt8} (h : low n) : beginsB n = true := by
  unfold beginsB; simp [h.1, h.2]
theorem low_goes {n : UInt8} (h : low n) : goesB n = true := by unfold goesB; rw [low_begins h]; rfl
theorem goes_62 : goesB 62 = false := by decide
theorem name_low {n : UInt8} (h : low n) (r : Bs) : nameS (n :: 62 :: r) = [n] := by
  unfold nameS
  simp [low_begins h, List.takeWhile_cons, low_goes h, goes_62]
theorem ws_62 (r : Bs) : ws (62 :: r) = 0 := by simp [ws, List.takeWhile_cons, whiteB]
theorem mark_low {n : UInt8} (h : low n) (r : Bs) : Mark (60 :: n :: 62 :: r) [n] [] false r := by
  refine .open _ [n] [] (62 :: r) r (name_low h r) (by simp) rfl (by simp [List.cons_prefix_cons]) (.nil _ _ 62 (by rw [ws_62]; rfl) (.inr rfl))
theorem low_ne {n : UInt8} (h : low n) (k : UInt8) (hk : k.toNat < 97) : n ≠ k := by rintro rfl; have := h.1; omega
theorem misc_low {n : UInt8} (h : low n) (r : Bs) : Misc (60 :: n :: r) false (60 :: n :: r) :=
  .no _ (by simp [List.cons_prefix_cons]; intro e; exact absurd e.symm (low_ne h 33 (by decide))) (by simp [List.cons_prefix_cons]; exact fun e => absurd e.symm (low_ne h 63 (by decide)))
theorem misc_end (r : Bs) : Misc (60 :: 47 :: r) false (60 :: 47 :: r) := .no _ (by simp [List.cons_prefix_cons]) (by simp [List.cons_prefix_cons])
theorem cont_end (d m : Nat) (r : Bs) : Cont d m [] (60 :: 47 :: r) [] m r := by
  have := Cont.done d m [] (60 :: 47 :: r) [] (60 :: 47 :: r) r (.stop 60 _ (.inl rfl)) (misc_end r) rfl
  simpa using this
theorem deep_elem : ∀ (l : Bs) (d m : Nat) (r : Bs), l ≠ [] → (∀ n ∈ l, low n) → l.length ≤ d → m + l.length ≤ 4000 → Elem d m (nestS l ++ r) (nestN l) (m + l.length) r := by
  intro l
  induction l with
  | nil => intro d m r h; exact absurd rfl h
  | cons n l ih =>
    intro d m r _ hl hd hm
    have hn := hl n (by simp)
    obtain ⟨d, rfl⟩ : ∃ d', d = d' + 1 := ⟨d - 1, by simp at hd; omega⟩
    have e : nestS (n :: l) ++ r = 60 :: n :: 62 :: (nestS l ++ ([60, 47, n, 62] ++ r)) := by simp [nestS]
    rw [e]
    have hc : Cont (d + 1) (m + 1) [] (nestS l ++ ([60, 47, n, 62] ++ r)) [nestN l] (m + (n :: l).length) (n :: 62 :: r) := by
      cases l with
      | nil =>
        have := Cont.done (d + 1) (m + 1) [] (116 :: 60 :: 47 :: n :: 62 :: r) [116] (60 :: 47 :: n :: 62 :: r) (n :: 62 :: r) (.byte 116 _ _ _ (by decide) (by decide) (by decide) (.stop 60 _ (.inl rfl))) (misc_end _) rfl
        exact this
      | cons n' l' =>
        have hn' := hl n' (by simp)
        have := ih d (m + 1) ([60, 47, n, 62] ++ r) (by simp) (fun x hx => hl x (by simp at hx ⊢; right; exact hx)) (by simp at hd ⊢; omega) (by simp at hm ⊢; omega)
        have e2 : nestS (n' :: l') ++ ([60, 47, n, 62] ++ r) = 60 :: n' :: 62 :: (nestS l' ++ ([60, 47, n', 62] ++ ([60, 47, n, 62] ++ r))) := by simp [nestS]
        have hz : (m + 1) + (n' :: l').length = m + (n :: n' :: l').length := by simp; omega
        rw [hz] at this
        have h2 := Cont.elem d (m + 1) _ _ [] _ [] _ _ (nestN (n' :: l')) [] (n :: 62 :: r) (by rw [e2]; exact .stop 60 _ (.inl rfl)) (by rw [e2]; exact misc_low hn' _) (by rw [e2]; simp [List.cons_prefix_cons]; exact fun e => absurd e.symm (low_ne hn' 47 (by decide))) this (cont_end _ _ _)
        rw [e2]; exact h2
    refine .open d m _ _ [n] [] _ [nestN l] (n :: 62 :: r) (62 :: r) r (by simp at hm; omega) (mark_low hn _) hc (name_low hn r) rfl (by simp [List.cons_prefix_cons]) (by rw [ws_62]; rfl)
mutual
/-- too deep -/
inductive ElemD : Nat → Nat → Bs → Prop
  | here (m : Nat) (r nm : Bs) : nameS r = nm → nm ≠ [] → ¬ [58] <+: r.drop nm.length → m < 4000 → ElemD 0 m (60 :: r)
  | in_ (d m : Nat) (r nm : Bs) (l : List (Bs × Bs)) (r1 : Bs) : m < 4000 → Mark r nm l false r1 → ContD (d + 1) (m + 1) [] r1 → ElemD (d + 1) m r
inductive ContD : Nat → Nat → Bs → Bs → Prop
  | elem (d m : Nat) (r : Bs) : Txt (-1) r [] r → Misc r false r → ¬ [60, 47] <+: r → ElemD d m r → ContD (d + 1) m [] r
end
theorem deep_too : ∀ (l : Bs) (d m : Nat) (r : Bs), (∀ n ∈ l, low n) → d < l.length → m + l.length ≤ 4000 → ElemD d m (nestS l ++ r) := by
  intro l
  induction l with
  | nil => intro d m r _ h; simp at h
  | cons n l ih =>
    intro d m r hl hd hm
    have hn := hl n (by simp)
    have e : nestS (n :: l) ++ r = 60 :: n :: 62 :: (nestS l ++ ([60, 47, n, 62] ++ r)) := by simp [nestS]
    rw [e]
    cases d with
    | zero => exact .here m _ [n] (name_low hn _) (by simp) (by simp [List.cons_prefix_cons]) (by simp at hm; omega)
    | succ d =>
      cases l with
      | nil => simp at hd
      | cons n' l' =>
        have hn' := hl n' (by simp)
        have := ih d (m + 1) ([60, 47, n, 62] ++ r) (fun x hx => hl x (by simp at hx ⊢; right; exact hx)) (by simp at hd ⊢; omega) (by simp at hm ⊢; omega)
        have e2 : nestS (n' :: l') ++ ([60, 47, n, 62] ++ r) = 60 :: n' :: 62 :: (nestS l' ++ ([60, 47, n', 62] ++ ([60, 47, n, 62] ++ r))) := by simp [nestS]
        exact .in_ d m _ [n] [] _ (by simp at hm; omega) (mark_low hn _) (.elem d (m + 1) _ (by rw [e2]; exact .stop 60 _ (.inl rfl)) (by rw [e2]; exact misc_low hn' _) (by rw [e2]; simp [List.cons_prefix_cons]; exact fun e => absurd e.symm (low_ne hn' 47 (by decide))) this)
end Go.Xe

/- Two texts, the one with comments and instructions between, are read as the same: plain. No condition. -/
namespace Go.Xe
/-- what stands between -/
def sk (n : Nat) : Bs := match n with
  | 0 => []
  | 1 => [60, 33, 45, 45, 32, 45, 32, 45, 45, 62]
  | 2 => [60, 63, 112, 32, 60, 97, 62, 32, 63, 62]
  | _ => [60, 33, 45, 45, 60, 98, 62, 38, 45, 45, 62]
/-- a piece, and how deep it stands behind it -/
def tok (x : UInt8) (k : Nat) : Bs × Nat :=
  if x.toNat % 5 = 0 then ([116], k) else if x.toNat % 5 = 1 then ([38, 97, 109, 112, 59], k)
  else if x.toNat % 5 = 2 then (if k < 20 then ([60, 101, 62], k + 1) else ([], k))
  else if x.toNat % 5 = 3 then (if 0 < k then ([60, 47, 101, 62], k - 1) else ([], k))
  else ([60, 102, 32, 103, 61, 39, 39, 47, 62], k)
def endE : Nat → Bs
  | 0 => [60, 47, 114, 62]
  | k + 1 => [60, 47, 101, 62] ++ endE k
def bodyA : Bs → Nat → Bs
  | [], k => endE k
  | x :: l, k => (tok x k).1 ++ bodyA l (tok x k).2
def bodyB : Bs → Nat → Bs
  | [], k => endE k
  | x :: l, k => sk (x.toNat / 64) ++ ((tok x k).1 ++ (sk (x.toNat / 64) ++ bodyB l (tok x k).2))
def restA (k : Nat) (l : Bs) : Bs := match k with
  | 0 => [114, 62]
  | k + 1 => [101, 62] ++ bodyA l k
def restB (k n : Nat) (l : Bs) : Bs := match k with
  | 0 => [114, 62]
  | k + 1 => [101, 62] ++ (sk n ++ bodyB l k)
theorem cont_byte {d m m2 : Nat} {t r r' : Bs} {ks : List Nd} (c : UInt8) (h1 : c ≠ 60) (h2 : c ≠ 38) (h : Cont d m (t ++ [c]) r ks m2 r') : Cont d m t (c :: r) ks m2 r' := by
  have hc : (c.toNat : Int) ≠ -1 := by omega
  cases h with
  | skip _ _ _ _ _ o r1 r2 _ _ hT hM hC =>
    rw [List.append_assoc] at hC
    exact .skip d m m2 t (c :: r) (c :: o) r1 r2 ks r' (.byte c _ _ _ h1 hc h2 hT) hM hC
  | done _ _ _ _ o r1 r2 hT hM h3 =>
    have := Cont.done d m t (c :: r) (c :: o) r1 r' (.byte c _ _ _ h1 hc h2 hT) hM h3
    simpa using this
  | elem d _ m1 _ _ _ o r1 r2 k ks _ hT hM h3 hE hC =>
    have := Cont.elem d m m1 m2 t (c :: r) (c :: o) r1 r2 k ks r' (.byte c _ _ _ h1 hc h2 hT) hM h3 hE hC
    simpa using this
theorem cont_amp {d m m2 : Nat} {t r r' : Bs} {ks : List Nd} (h : Cont d m (t ++ [38]) r ks m2 r') : Cont d m t ([38, 97, 109, 112, 59] ++ r) ks m2 r' := by
  have he : ∀ {o r1}, Txt (-1) r o r1 → Txt (-1) ([38, 97, 109, 112, 59] ++ r) ([38] ++ o) r1 := fun hT => .ent _ [38] _ _ _ (by decide) (.amp r) hT
  cases h with
  | skip _ _ _ _ _ o r1 r2 _ _ hT hM hC =>
    rw [List.append_assoc] at hC
    exact .skip d m m2 t _ _ r1 r2 ks r' (he hT) hM hC
  | done _ _ _ _ o r1 r2 hT hM h3 =>
    have := Cont.done d m t _ _ r1 r' (he hT) hM h3
    simpa using this
  | elem d _ m1 _ _ _ o r1 r2 k ks _ hT hM h3 hE hC =>
    have := Cont.elem d m m1 m2 t _ _ r1 r2 k ks r' (he hT) hM h3 hE hC
    simpa using this
theorem cont_misc {d m m2 : Nat} {t s r r' : Bs} {ks : List Nd} (hs : s.head? = some 60) (hM : Misc (s ++ r) true r) (h : Cont d m t r ks m2 r') : Cont d m t (s ++ r) ks m2 r' := by
  obtain ⟨x, s, rfl⟩ : ∃ x l, s = x :: l := by cases s with | nil => cases hs | cons x l => exact ⟨x, l, rfl⟩
  cases hs
  exact .skip d m m2 t _ [] _ r ks r' (.stop 60 _ (.inl rfl)) hM (by rw [List.append_nil]; exact h)
theorem misc1 (r : Bs) : Misc ([60, 33, 45, 45, 32, 45, 32, 45, 45, 62] ++ r) true r := by
  refine .com (32 :: 45 :: 32 :: 45 :: 45 :: 62 :: r) r ?_
  exact .next _ _ _ (by simp [List.cons_prefix_cons]) (.next _ _ _ (by simp [List.cons_prefix_cons]) (.next _ _ _ (by simp [List.cons_prefix_cons]) (.here (62 :: r))))
theorem misc2 (r : Bs) : Misc ([60, 63, 112, 32, 60, 97, 62, 32, 63, 62] ++ r) true r := by
  refine .ins (112 :: 32 :: 60 :: 97 :: 62 :: 32 :: 63 :: 62 :: r) r (by simp [List.cons_prefix_cons]) ?_
  exact .next _ _ _ (by simp [List.cons_prefix_cons]) (.next _ _ _ (by simp [List.cons_prefix_cons]) (.next _ _ _ (by simp [List.cons_prefix_cons]) (.next _ _ _ (by simp [List.cons_prefix_cons]) (.next _ _ _ (by simp [List.cons_prefix_cons]) (.next _ _ _ (by simp [List.cons_prefix_cons]) (.here r))))))
theorem misc3 (r : Bs) : Misc ([60, 33, 45, 45, 60, 98, 62, 38, 45, 45, 62] ++ r) true r := by
  refine .com (60 :: 98 :: 62 :: 38 :: 45 :: 45 :: 62 :: r) r ?_
  exact .next _ _ _ (by simp [List.cons_prefix_cons]) (.next _ _ _ (by simp [List.cons_prefix_cons]) (.next _ _ _ (by simp [List.cons_prefix_cons]) (.next _ _ _ (by simp [List.cons_prefix_cons]) (.here (62 :: r)))))
theorem cont_sk {d m m2 : Nat} {t r r' : Bs} {ks : List Nd} (n : Nat) (h : Cont d m t r ks m2 r') : Cont d m t (sk n ++ r) ks m2 r' := by
  match n with
  | 0 => exact h
  | 1 => exact cont_misc rfl (misc1 r) h
  | 2 => exact cont_misc rfl (misc2 r) h
  | n + 3 => exact cont_misc rfl (misc3 r) h
theorem misc_e (r : Bs) : Misc (60 :: 101 :: r) false (60 :: 101 :: r) := misc_low (by unfold low; decide) r
theorem misc_f (r : Bs) : Misc (60 :: 102 :: r) false (60 :: 102 :: r) := misc_low (by unfold low; decide) r
theorem name_c (n c : UInt8) (r : Bs) (h : beginsB n = true) (hc : goesB c = false) : nameS (n :: c :: r) = [n] := by
  have hg : goesB n = true := by unfold goesB; rw [h]; rfl
  unfold nameS
  simp [h, List.takeWhile_cons, hg, hc]
theorem ws_c (c : UInt8) (r : Bs) (h : whiteB c = false) : ws (c :: r) = 0 := by simp [ws, List.takeWhile_cons, h]
/-- an element without attributes -/
theorem elem_plain {d m m2 : Nat} (n : UInt8) (hn : low n) {r r2 : Bs} {ks : List Nd} (hm : m < 4000) (hc : Cont (d + 1) (m + 1) [] r ks m2 (n :: 62 :: r2)) : Elem (d + 1) m (60 :: n :: 62 :: r) (.el [n] [] ks) m2 r2 :=
  .open d m m2 _ [n] [] r ks (n :: 62 :: r2) (62 :: r2) r2 hm (mark_low hn r) hc (name_low hn _) rfl (by simp [List.cons_prefix_cons]) (by rw [ws_62]; rfl)
theorem elem_f {d m : Nat} (hm : m < 4000) (r : Bs) : Elem (d + 1) m ([60, 102, 32, 103, 61, 39, 39, 47, 62] ++ r) (.el [102] [([103], [])] []) (m + 1) r := by
  refine .shut d m _ [102] [([103], [])] r hm ?_
  refine .shut _ [102] _ (32 :: 103 :: 61 :: 39 :: 39 :: 47 :: 62 :: r) r (name_c _ _ _ (by decide) (by decide)) (by simp) rfl (by simp [List.cons_prefix_cons]) ?_
  have hw : ws (32 :: 103 :: 61 :: 39 :: 39 :: 47 :: 62 :: r) = 1 := by simp [ws, List.takeWhile_cons, whiteB]
  refine .one _ [] (47 :: 62 :: r) (62 :: r) _ 47 103 (61 :: 39 :: 39 :: 47 :: 62 :: r) (by omega) (by rw [hw]; rfl) (by decide) (by decide) ?_ (by rw [ws_c _ _ (by decide)]; rfl) (.inl rfl)
  exact .mk _ [103] (61 :: 39 :: 39 :: 47 :: 62 :: r) [] 39 (39 :: 39 :: 47 :: 62 :: r) (39 :: 47 :: 62 :: r) (name_c _ _ _ (by decide) (by decide)) (by simp) (by simp) rfl (by simp [List.cons_prefix_cons]) (by rw [ws_c _ _ (by decide)]; rfl) (by rw [ws_c _ _ (by decide)]; rfl) (.inr rfl) (47 :: 62 :: r) (.stop 39 _ (.inr rfl))
theorem cont_elem {d m m1 m2 : Nat} {t r r2 r' : Bs} {k : Nd} {ks : List Nd} (n : UInt8) (hn : low n) (hE : Elem d m (60 :: n :: r) k m1 r2) (hC : Cont (d + 1) m1 [] r2 ks m2 r') : Cont (d + 1) m t (60 :: n :: r) ((if t = [] then [] else [Nd.tx t]) ++ k :: ks) m2 r' := by
  have := Cont.elem d m m1 m2 t _ [] _ r2 k ks r' (.stop 60 _ (.inl rfl)) (misc_low hn r) (by simp [List.cons_prefix_cons]; exact fun e => absurd e.symm (low_ne hn 47 (by decide))) hE hC
  simpa using this
theorem cont_stop (d m : Nat) (t r : Bs) : Cont d m t (60 :: 47 :: r) (if t = [] then [] else [.tx t]) m r := by
  have := Cont.done d m t (60 :: 47 :: r) [] (60 :: 47 :: r) r (.stop 60 _ (.inl rfl)) (misc_end r) rfl
  simpa using this
theorem low_e : low 101 := by unfold low; decide
theorem low_f : low 102 := by unfold low; decide
theorem low_r : low 114 := by unfold low; decide
theorem endA (k : Nat) : endE k = [60, 47] ++ restA k [] := by cases k <;> rfl
theorem endB (k : Nat) : endE k = [60, 47] ++ restB k 0 [] := by cases k <;> rfl
theorem two (RA RB : Bs) : ∀ (n : Nat) (l : Bs) (k m : Nat) (t : Bs), l.length ≤ n → k ≤ 20 → m + l.length ≤ 3999 → ∃ ks m2 l' s, l'.length ≤ l.length ∧ m2 + l'.length ≤ m + l.length ∧
    Cont (32 - k) m t (bodyA l k ++ RA) ks m2 (restA k l' ++ RA) ∧ Cont (32 - k) m t (bodyB l k ++ RB) ks m2 (restB k s l' ++ RB) := by
  intro n
  induction n with
  | zero =>
    intro l k m t hl hk hm
    have : l = [] := List.eq_nil_of_length_eq_zero (by omega)
    subst this
    refine ⟨(if t = [] then [] else [.tx t]), m, [], 0, by simp, by simp, ?_, ?_⟩
    · show Cont _ _ _ (endE k ++ RA) _ _ _
      rw [endA]; exact cont_stop _ _ t _
    · show Cont _ _ _ (endE k ++ RB) _ _ _
      rw [endB]; exact cont_stop _ _ t _
  | succ n ih =>
    intro l k m t hl hk hm
    cases l with
    | nil =>
      refine ⟨(if t = [] then [] else [.tx t]), m, [], 0, by simp, by simp, ?_, ?_⟩
      · show Cont _ _ _ (endE k ++ RA) _ _ _
        rw [endA]; exact cont_stop _ _ t _
      · show Cont _ _ _ (endE k ++ RB) _ _ _
        rw [endB]; exact cont_stop _ _ t _
    | cons x l =>
      simp only [List.length_cons] at hl hm
      obtain ⟨j, hj⟩ : ∃ j, j = x.toNat / 64 := ⟨_, rfl⟩
      have eA : bodyA (x :: l) k ++ RA = (tok x k).1 ++ (bodyA l (tok x k).2 ++ RA) := by simp [bodyA]
      have eB : bodyB (x :: l) k ++ RB = sk j ++ ((tok x k).1 ++ (sk j ++ (bodyB l (tok x k).2 ++ RB))) := by rw [hj]; simp [bodyB]
      rw [eA, eB]
      suffices H : ∃ ks m2 l' s, l'.length ≤ l.length + 1 ∧ m2 + l'.length ≤ m + (l.length + 1) ∧ Cont (32 - k) m t ((tok x k).1 ++ (bodyA l (tok x k).2 ++ RA)) ks m2 (restA k l' ++ RA) ∧ Cont (32 - k) m t ((tok x k).1 ++ (sk j ++ (bodyB l (tok x k).2 ++ RB))) ks m2 (restB k s l' ++ RB) by
        obtain ⟨ks, m2, l', s, h1, h2, h3, h4⟩ := H
        exact ⟨ks, m2, l', s, by simpa using h1, by simpa using h2, h3, cont_sk j h4⟩
      have none_ : ∀ t, tok x k = ([], k) → ∃ ks m2 l' s, l'.length ≤ l.length + 1 ∧ m2 + l'.length ≤ m + (l.length + 1) ∧ Cont (32 - k) m t ((tok x k).1 ++ (bodyA l (tok x k).2 ++ RA)) ks m2 (restA k l' ++ RA) ∧ Cont (32 - k) m t ((tok x k).1 ++ (sk j ++ (bodyB l (tok x k).2 ++ RB))) ks m2 (restB k s l' ++ RB) := by
        intro t e
        obtain ⟨ks, m2, l', s, h1, h2, h3, h4⟩ := ih l k m t (by omega) hk (by omega)
        rw [e]
        exact ⟨ks, m2, l', s, by omega, by omega, h3, cont_sk j h4⟩
      by_cases c0 : x.toNat % 5 = 0
      · have e : tok x k = ([116], k) := by unfold tok; rw [if_pos c0]
        obtain ⟨ks, m2, l', s, h1, h2, h3, h4⟩ := ih l k m (t ++ [116]) (by omega) hk (by omega)
        rw [e]
        exact ⟨ks, m2, l', s, by omega, by omega, cont_byte 116 (by decide) (by decide) h3, cont_byte 116 (by decide) (by decide) (cont_sk j h4)⟩
      by_cases c1 : x.toNat % 5 = 1
      · have e : tok x k = ([38, 97, 109, 112, 59], k) := by unfold tok; rw [if_neg c0, if_pos c1]
        obtain ⟨ks, m2, l', s, h1, h2, h3, h4⟩ := ih l k m (t ++ [38]) (by omega) hk (by omega)
        rw [e]
        exact ⟨ks, m2, l', s, by omega, by omega, cont_amp h3, cont_amp (cont_sk j h4)⟩
      by_cases c2 : x.toNat % 5 = 2
      · by_cases hk2 : k < 20
        · have e : tok x k = ([60, 101, 62], k + 1) := by unfold tok; rw [if_neg c0, if_neg c1, if_pos c2, if_pos hk2]
          obtain ⟨ks1, m21, l1, s1, a1, a2, a3, a4⟩ := ih l (k + 1) (m + 1) [] (by omega) (by omega) (by omega)
          obtain ⟨ks2, m22, l2, s2, b1, b2, b3, b4⟩ := ih l1 k m21 [] (by omega) hk (by omega)
          rw [e]
          obtain ⟨d, hd⟩ : ∃ d, 32 - k = (d + 1) + 1 := ⟨30 - k, by omega⟩
          have hd1 : 32 - (k + 1) = d + 1 := by omega
          rw [hd1] at a3 a4
          rw [hd] at b3 b4 ⊢
          refine ⟨(if t = [] then [] else [Nd.tx t]) ++ .el [101] [] ks1 :: ks2, m22, l2, s2, by omega, by omega, cont_elem (t := t) 101 low_e (elem_plain 101 low_e (by omega) ?_) b3, cont_elem (t := t) 101 low_e (elem_plain 101 low_e (by omega) (cont_sk j ?_)) (cont_sk s1 b4)⟩
          · have : restA (k + 1) l1 ++ RA = 101 :: 62 :: (bodyA l1 k ++ RA) := by simp [restA]
            rw [this] at a3; exact a3
          · have : restB (k + 1) s1 l1 ++ RB = 101 :: 62 :: (sk s1 ++ (bodyB l1 k ++ RB)) := by simp [restB]
            rw [this] at a4; exact a4
        · exact none_ t (by unfold tok; rw [if_neg c0, if_neg c1, if_pos c2, if_neg hk2])
      by_cases c3 : x.toNat % 5 = 3
      · by_cases hk3 : 0 < k
        · have e : tok x k = ([60, 47, 101, 62], k - 1) := by unfold tok; rw [if_neg c0, if_neg c1, if_neg c2, if_pos c3, if_pos hk3]
          obtain ⟨k, rfl⟩ : ∃ k', k = k' + 1 := ⟨k - 1, by omega⟩
          rw [e]
          refine ⟨(if t = [] then [] else [.tx t]), m, l, j, by omega, by omega, ?_, ?_⟩
          · have := cont_stop (32 - (k + 1)) m t (restA (k + 1) l ++ RA)
            simpa [restA] using this
          · have := cont_stop (32 - (k + 1)) m t (restB (k + 1) j l ++ RB)
            simpa [restB] using this
        · exact none_ t (by unfold tok; rw [if_neg c0, if_neg c1, if_neg c2, if_pos c3, if_neg hk3])
      · have e : tok x k = ([60, 102, 32, 103, 61, 39, 39, 47, 62], k) := by unfold tok; rw [if_neg c0, if_neg c1, if_neg c2, if_neg c3]
        obtain ⟨ks, m2, l', s, h1, h2, h3, h4⟩ := ih l k (m + 1) [] (by omega) hk (by omega)
        rw [e]
        obtain ⟨d, hd⟩ : ∃ d, 32 - k = (d + 1) + 1 := ⟨30 - k, by omega⟩
        rw [hd] at h3 h4 ⊢
        exact ⟨(if t = [] then [] else [Nd.tx t]) ++ .el [102] [([103], [])] [] :: ks, m2, l', s, by omega, by omega, cont_elem (t := t) 102 low_f (elem_f (by omega) _) h3, cont_elem (t := t) 102 low_f (elem_f (by omega) _) (cont_sk j h4)⟩
/-- the two texts -/
def textA (l : Bs) : Bs := [60, 114, 62] ++ bodyA l 0
def textB (l : Bs) : Bs := [60, 33, 45, 45, 97, 45, 45, 62, 60, 63, 120, 63, 62] ++ ([60, 114, 62] ++ bodyB l 0 ++ [60, 63, 122, 63, 62, 32, 60, 33, 45, 45, 122, 45, 45, 62])
theorem two_elem (l : Bs) (hl : l.length ≤ 60) : ∃ n m2, Elem 32 0 (textA l) n m2 [] ∧ Elem 32 0 ([60, 114, 62] ++ bodyB l 0 ++ [60, 63, 122, 63, 62, 32, 60, 33, 45, 45, 122, 45, 45, 62]) n m2 [60, 63, 122, 63, 62, 32, 60, 33, 45, 45, 122, 45, 45, 62] := by
  obtain ⟨ks, m2, l', s, h1, h2, h3, h4⟩ := two [] [60, 63, 122, 63, 62, 32, 60, 33, 45, 45, 122, 45, 45, 62] l.length l 0 1 [] (Nat.le_refl _) (by omega) (by omega)
  refine ⟨.el [114] [] ks, m2, ?_, ?_⟩
  · have := elem_plain (d := 31) (m := 0) 114 low_r (by omega) h3
    simpa [textA] using this
  · have := elem_plain (d := 31) (m := 0) 114 low_r (by omega) h4
    simpa using this
theorem around_here (n : UInt8) (h : low n) (r : Bs) : Around (60 :: n :: r) (60 :: n :: r) := by
  have e : (60 :: n :: r).drop (ws (60 :: n :: r)) = 60 :: n :: r := by
    have : ws (60 :: n :: r) = 0 := ws_c _ _ (by decide)
    rw [this]; rfl
  have := Around.stop (60 :: n :: r) (by rw [e]; exact misc_low h r)
  rw [e] at this
  exact this
theorem around_end : Around [] [] := .stop [] (.no _ (by simp) (by simp))
theorem aroundB (l : Bs) : Around (textB l) ([60, 114, 62] ++ bodyB l 0 ++ [60, 63, 122, 63, 62, 32, 60, 33, 45, 45, 122, 45, 45, 62]) := by
  unfold textB
  generalize hX : [60, 114, 62] ++ bodyB l 0 ++ [60, 63, 122, 63, 62, 32, 60, 33, 45, 45, 122, 45, 45, 62] = X
  have h3 : Around X X := by rw [← hX]; exact around_here 114 low_r _
  refine .more _ (60 :: 63 :: 120 :: 63 :: 62 :: X) _ ?_ (.more _ X _ ?_ h3)
  · have : ws ([60, 33, 45, 45, 97, 45, 45, 62, 60, 63, 120, 63, 62] ++ X) = 0 := ws_c _ _ (by decide)
    rw [this]
    exact .com (97 :: 45 :: 45 :: 62 :: 60 :: 63 :: 120 :: 63 :: 62 :: X) _ (.next _ _ _ (by simp [List.cons_prefix_cons]) (.here (62 :: 60 :: 63 :: 120 :: 63 :: 62 :: X)))
  · have : ws (60 :: 63 :: 120 :: 63 :: 62 :: X) = 0 := ws_c _ _ (by decide)
    rw [this]
    exact .ins (120 :: 63 :: 62 :: X) _ (by simp [List.cons_prefix_cons]) (.next _ _ _ (by simp [List.cons_prefix_cons]) (.here X))
theorem aroundZ : Around [60, 63, 122, 63, 62, 32, 60, 33, 45, 45, 122, 45, 45, 62] [] := by
  refine .more _ [32, 60, 33, 45, 45, 122, 45, 45, 62] _ ?_ (.more _ [] _ ?_ around_end)
  · exact .ins [122, 63, 62, 32, 60, 33, 45, 45, 122, 45, 45, 62] _ (by simp [List.cons_prefix_cons]) (.next _ _ _ (by simp [List.cons_prefix_cons]) (.here _))
  · exact .com [122, 45, 45, 62] _ (.next _ _ _ (by simp [List.cons_prefix_cons]) (.here [62]))
end Go.Xe

/- The two texts as a loop builds them; their lengths; all signs. No condition. -/
namespace Go.Xe
def dep : Bs → Nat → Nat
  | [], k => k
  | x :: l, k => dep l (tok x k).2
def preA : Bs → Nat → Bs
  | [], _ => []
  | x :: l, k => (tok x k).1 ++ preA l (tok x k).2
def preB : Bs → Nat → Bs
  | [], _ => []
  | x :: l, k => sk (x.toNat / 64) ++ ((tok x k).1 ++ (sk (x.toNat / 64) ++ preB l (tok x k).2))
theorem bodyA_pre (l : Bs) : ∀ k, bodyA l k = preA l k ++ endE (dep l k) := by
  induction l with
  | nil => intro k; simp [bodyA, preA, dep]
  | cons x l ih => intro k; simp [bodyA, preA, dep, ih]
theorem bodyB_pre (l : Bs) : ∀ k, bodyB l k = preB l k ++ endE (dep l k) := by
  induction l with
  | nil => intro k; simp [bodyB, preB, dep]
  | cons x l ih => intro k; simp [bodyB, preB, dep, ih]
theorem dep_snoc (l : Bs) (x : UInt8) : ∀ k, dep (l ++ [x]) k = (tok x (dep l k)).2 := by
  induction l with
  | nil => intro k; rfl
  | cons y l ih => intro k; simp only [List.cons_append, dep]; exact ih _
theorem preA_snoc (l : Bs) (x : UInt8) : ∀ k, preA (l ++ [x]) k = preA l k ++ (tok x (dep l k)).1 := by
  induction l with
  | nil => intro k; simp [preA, dep]
  | cons y l ih => intro k; simp only [List.cons_append, preA, dep, ih, List.append_assoc]
theorem preB_snoc (l : Bs) (x : UInt8) : ∀ k, preB (l ++ [x]) k = preB l k ++ (sk (x.toNat / 64) ++ ((tok x (dep l k)).1 ++ sk (x.toNat / 64))) := by
  induction l with
  | nil => intro k; simp [preB, dep]
  | cons y l ih => intro k; simp only [List.cons_append, preB, dep, ih, List.append_assoc]
theorem tok_dep (x : UInt8) (k : Nat) (h : k ≤ 20) : (tok x k).2 ≤ 20 := by
  unfold tok
  repeat' split
  all_goals (simp only; omega)
theorem dep_le (l : Bs) : ∀ k, k ≤ 20 → dep l k ≤ 20 := by
  induction l with
  | nil => intro k h; exact h
  | cons x l ih => intro k h; exact ih _ (tok_dep x k h)
theorem endE_len (k : Nat) : (endE k).length = 4 * (k + 1) := by
  induction k with
  | zero => rfl
  | succ k ih => simp [endE, ih]; omega
theorem sk_len (n : Nat) : (sk n).length ≤ 11 := by
  unfold sk; split <;> simp
theorem tok_len (x : UInt8) (k : Nat) : (tok x k).1.length ≤ 9 := by
  unfold tok
  repeat' split
  all_goals simp
theorem preA_len (l : Bs) : ∀ k, (preA l k).length ≤ 9 * l.length := by
  induction l with
  | nil => intro k; simp [preA]
  | cons x l ih => intro k; have := ih (tok x k).2; have := tok_len x k; simp [preA]; omega
theorem preB_len (l : Bs) : ∀ k, (preB l k).length ≤ 31 * l.length := by
  induction l with
  | nil => intro k; simp [preB]
  | cons x l ih => intro k; have := ih (tok x k).2; have := tok_len x k; have := sk_len (x.toNat / 64); simp [preB]; omega
def asc (l : Bs) : Prop := ∀ x ∈ l, 32 ≤ x.toNat ∧ x.toNat < 128
theorem asc_app {a b : Bs} (h1 : asc a) (h2 : asc b) : asc (a ++ b) := by
  intro x hx
  rcases List.mem_append.1 hx with h | h
  · exact h1 x h
  · exact h2 x h
theorem sk_asc (n : Nat) : asc (sk n) := by
  unfold sk asc; split <;> decide
theorem tok_asc (x : UInt8) (k : Nat) : asc (tok x k).1 := by
  unfold tok
  repeat' split
  all_goals (unfold asc; dsimp only; decide)
theorem endE_asc (k : Nat) : asc (endE k) := by
  induction k with
  | zero => unfold endE asc; decide
  | succ k ih => exact asc_app (by unfold asc; decide) ih
theorem preA_asc (l : Bs) : ∀ k, asc (preA l k) := by
  induction l with
  | nil => intro k x hx; cases hx
  | cons x l ih => intro k; exact asc_app (tok_asc x k) (ih _)
theorem preB_asc (l : Bs) : ∀ k, asc (preB l k) := by
  induction l with
  | nil => intro k x hx; cases hx
  | cons x l ih => intro k; exact asc_app (sk_asc _) (asc_app (tok_asc x k) (asc_app (sk_asc _) (ih _)))
theorem textA_asc (l : Bs) : asc (textA l) := by
  unfold textA; rw [bodyA_pre]
  exact asc_app (by unfold asc; decide) (asc_app (preA_asc l 0) (endE_asc _))
theorem textB_asc (l : Bs) : asc (textB l) := by
  unfold textB; rw [bodyB_pre]
  exact asc_app (by unfold asc; decide) (asc_app (asc_app (by unfold asc; decide) (asc_app (preB_asc l 0) (endE_asc _))) (by unfold asc; decide))
end Go.Xe

/- SameNode at any two that are the same; what is read is not too wide. No condition. -/
namespace Go.Proofs.YtgomlebemefdcaaDoor
open Go Go.RowKit Go.Wk Go.Xt Go.Xe
theorem rk_len {w : World} {ks : List Nd} {a : Option Addr} {n c : Nat} {b : List Nat} (h : RkAt w ks (.slice a n c) b) : n = ks.length := by
  cases h with
  | nil => rfl
  | row ks g cap vs b h1 h2 => rfl
theorem rk_get {w : World} {ks : List Nd} {a : Option Addr} {n c : Nat} {b : List Nat} (h : RkAt w ks (.slice a n c) b) (i : Nat) (k : Nd) (hk : ks[i]? = some k) :
    ∃ (g : Nat) (K0 K1 K2 : ByteArray) (a3 : Option Addr) (n3 c3 : Nat) (a4 : Option Addr) (n4 c4 : Nat) (bk : List Nat), a = some ⟨g, 0, none⟩ ∧ RnAt w k [.string K0, .string K1, .string K2, .slice a3 n3 c3, .slice a4 n4 c4] bk ∧ (∀ j ∈ bk, j ∈ b) ∧ w.cell? ⟨g, 5 * i, none⟩ = some (.string K0) ∧ w.cell? ⟨g, 5 * i + 1, none⟩ = some (.string K1) ∧ w.cell? ⟨g, 5 * i + 2, none⟩ = some (.string K2) ∧ w.cell? ⟨g, 5 * i + 3, none⟩ = some (.slice a3 n3 c3) ∧ w.cell? ⟨g, 5 * i + 4, none⟩ = some (.slice a4 n4 c4) := by
  cases h with
  | nil => simp at hk
  | row ks g cap vs b h1 h2 =>
    have hi : i < ks.length := by
      rcases Nat.lt_or_ge i ks.length with h' | h'
      · exact h'
      · rw [List.getElem?_eq_none h'] at hk; cases hk
    obtain ⟨us, bk, hn, hb, hv⟩ := h2.get i k hk
    obtain ⟨U0, U1, U2, a3, n3, c3, a4, n4, c4, rfl⟩ := hn.shape
    have hc := fun j (hj : j < 5) => (own_cells h1 (5 * i + j) (by omega)).trans (hv j hj)
    exact ⟨g, U0, U1, U2, a3, n3, c3, a4, n4, c4, bk, rfl, hn, fun j hj => by simp [hb j hj], hc 0 (by omega), hc 1 (by omega), hc 2 (by omega), hc 3 (by omega), hc 4 (by omega)⟩
theorem ra_get {w : World} {l : List (List UInt8 × List UInt8)} {a : Option Addr} {n c : Nat} {b : List Nat} (hl : l.length ≤ 1) (h : RaAt w l (.slice a n c) b) : n = l.length ∧ ∀ i, i < n → ∃ g x, a = some ⟨g, 0, none⟩ ∧ l = [x] ∧ w.cell? ⟨g, 3 * i, none⟩ = some (str []) ∧ w.cell? ⟨g, 3 * i + 1, none⟩ = some (str x.1) ∧ w.cell? ⟨g, 3 * i + 2, none⟩ = some (str x.2) := by
  rcases h with ⟨rfl, e, _⟩ | ⟨g, cap, e, ho, _⟩
  · injection e with e1 e2 e3
    subst e2
    exact ⟨rfl, fun i hi => absurd hi (by simp)⟩
  · injection e with e1 e2 e3
    subst e1 e2 e3
    refine ⟨rfl, fun i hi => ?_⟩
    match l, hl, hi, ho with
    | [x], _, hi, ho =>
      have : i = 0 := by simp at hi; omega
      subst this
      have hc := fun j (hj : j < 3) => own_cells ho j (by simpa using hj)
      exact ⟨g, x, rfl, rfl, hc 0 (by omega), hc 1 (by omega), hc 2 (by omega)⟩
    | _ :: _ :: _, h, _, _ => simp at h
theorem same_any {n : Nd} (h : Sm n) : ∀ {w : World} {us us' : List Value} {b b' : List Nat}, RnAt w n us b → RnAt w n us' b' → (∀ k ∈ b, k < w.heap.size) → (∀ k ∈ b', k < w.heap.size) → Calls Tryd.prog 10 #[.agg us.toArray, .agg us'.toArray] w fun e w' => e = .returned (.bool true) ∧ Below w.heap.size w w' := by
  induction h with
  | tx t =>
    intro w us us' b b' h1 h2 _ _
    cases h1
    cases h2
    exact same_walk ⟨#[]⟩ ⟨#[]⟩ ⟨t.toArray⟩ none none 0 0 0 none none 0 0 0 (by omega) (by omega) (fun i hi => absurd hi (by omega)) (fun i hi => absurd hi (by omega))
  | el nm l ks hl hks hsm ih =>
    intro w us us' b b' h1 h2 hb hb'
    obtain ⟨U0, U1, U2, a3, n3, c3, a4, n4, c4, hu⟩ := h1.shape
    obtain ⟨U0', U1', U2', a3', n3', c3', a4', n4', c4', hu'⟩ := h2.shape
    cases h1 with
    | el _ _ _ va vk ba bk ha hk =>
      cases h2 with
      | el _ _ _ va' vk' ba' bk' ha' hk' =>
        injection hu with e0 hu
        injection hu with e1 hu
        injection hu with e2 hu
        injection hu with e3 hu
        injection hu with e4 hu
        injection hu' with e0' hu'
        injection hu' with e1' hu'
        injection hu' with e2' hu'
        injection hu' with e3' hu'
        injection hu' with e4' hu'
        subst e3 e4 e3' e4'
        obtain ⟨q1, q2⟩ := ra_get hl ha
        obtain ⟨q1', q2'⟩ := ra_get hl ha'
        have q3 := rk_len hk
        have q3' := rk_len hk'
        have en3 : n3' = n3 := by omega
        have en4 : n4' = n4 := by omega
        subst en3 en4
        refine same_walk ⟨#[]⟩ ⟨nm.toArray⟩ ⟨#[]⟩ a3 a3' n3' c3 c3' a4 a4' n4' c4 c4' (by omega) (by omega) (fun i hi => ?_) (fun i hi => ?_)
        · obtain ⟨g, x, rfl, hx, k0, k1, k2⟩ := q2 i hi
          obtain ⟨g', x', rfl, hx', k0', k1', k2'⟩ := q2' i hi
          obtain rfl : x = x' := by rw [hx] at hx'; injection hx'
          exact ⟨g, g', ⟨#[]⟩, ⟨x.1.toArray⟩, ⟨x.2.toArray⟩, rfl, rfl, k0, k1, k2, k0', k1', k2'⟩
        · obtain ⟨k, hki⟩ : ∃ k, ks[i]? = some k := ⟨ks[i]'(by omega), List.getElem?_eq_getElem (by omega)⟩
          obtain ⟨g, K0, K1, K2, b3, m3, d3, b4, m4, d4, bk1, rfl, hn, hbk, c0, c1, c2, c3, c4⟩ := rk_get hk i k hki
          obtain ⟨g', L0, L1, L2, b3', m3', d3', b4', m4', d4', bk2, rfl, hn', hbk', c0', c1', c2', c3', c4'⟩ := rk_get hk' i k hki
          refine ⟨g, g', K0, K1, K2, b3, m3, d3, b4, m4, d4, L0, L1, L2, b3', m3', d3', b4', m4', d4', rfl, rfl, ⟨c0, c1, c2, c3, c4⟩, ⟨c0', c1', c2', c3', c4'⟩, fun w' hB => ?_⟩
          have l1 : ∀ j ∈ bk1, j < w.heap.size := fun j hj => hb j (by simp [hbk j hj])
          have l2 : ∀ j ∈ bk2, j < w.heap.size := fun j hj => hb' j (by simp [hbk' j hj])
          exact ih k (List.mem_of_getElem? hki) (hn.keep fun j hj => hB.block j (l1 j hj)) (hn'.keep fun j hj => hB.block j (l2 j hj)) (fun j hj => Nat.lt_of_lt_of_le (l1 j hj) hB.size) (fun j hj => Nat.lt_of_lt_of_le (l2 j hj) hB.size)
theorem atts_one {r r' : List UInt8} {l : List (List UInt8 × List UInt8)} (h : Atts r l r') : l.length ≤ 1 := by
  cases h <;> simp
theorem mark_one {r r' nm : List UInt8} {l : List (List UInt8 × List UInt8)} {c : Bool} (h : Xe.Mark r nm l c r') : l.length ≤ 1 := by
  cases h with
  | «open» _ _ _ _ _ _ _ _ _ hA => exact atts_one hA
  | shut _ _ _ _ _ _ _ _ _ hA => exact atts_one hA
mutual
theorem elem_sm {d m m2 : Nat} {r r' : List UInt8} {n : Nd} : Elem d m r n m2 r' → r.length ≤ 50000 → Sm n
  | .shut d m r nm l r1 _ hM, hr => .el nm l [] (mark_one hM) (by simp) (by simp)
  | .open d m m2 r nm l r1 ks r2 r3 r4 _ hM hC _ _ _ _, hr => by
    have a1 := mark_len hM
    obtain ⟨h1, h2⟩ := cont_sm hC (by omega)
    exact .el nm l ks (mark_one hM) (by omega) h2
theorem cont_sm {d m m2 : Nat} {t r r' : List UInt8} {ks : List Nd} : Cont d m t r ks m2 r' → r.length ≤ 50000 → ks.length ≤ 2 * r.length + 1 ∧ ∀ k ∈ ks, Sm k
  | .skip d m m2 t r o r1 r2 ks r' hT hM hC, hr => by
    have a1 := txt_len hT; have a2 := misc_len hM
    obtain ⟨h1, h2⟩ := cont_sm hC (by omega)
    exact ⟨by omega, h2⟩
  | .done d m t r o r1 r2 hT hM h3, hr => by
    split
    · simp
    · simp; exact .tx _
  | .elem d m m1 m2 t r o r1 r2 k ks r' hT hM h3 hE hC, hr => by
    have a1 := txt_len hT; have a2 := elem_len hE
    have s1 := elem_sm hE (by omega)
    obtain ⟨h1, h2⟩ := cont_sm hC (by omega)
    refine ⟨?_, fun x hx => ?_⟩
    · split <;> simp <;> omega
    · rcases List.mem_append.1 hx with hx | hx
      · split at hx
        · cases hx
        · simp at hx; subst hx; exact .tx _
      · rcases List.mem_cons.1 hx with rfl | hx
        · exact s1
        · exact h2 x hx
end
end Go.Proofs.YtgomlebemefdcaaDoor

/- The reader reads attributes: one. No condition. -/
namespace Go.Proofs.YtgomlebemefdcaaDoor
open Go Go.RowKit Go.Wk Go.Xt Go.Xe
theorem own_cap {w : World} {B e s n cap : Nat} {a : Addr} {xs : List Value} (h : w.ownsRow B e s (.slice (some a) n cap) n xs) : n ≤ cap := by
  rcases h.2 with ⟨e1, _⟩ | ⟨g, cap', cur, e1, hB, hh, h1, _⟩
  · cases e1
  · cases e1; exact h1
set_option maxHeartbeats 4000000 in
set_option maxRecDepth 100000 in
theorem xml_attrs_one {w : World} {L R c p many : Nat} {A : Option Addr} {bs r r' : List UInt8} {a : List UInt8 × List UInt8} (h : RS w L R A c bs p many) (hr : Rest bs p r) (hA : Atts r [a] r') :
    Calls Tryd.prog 61 #[.pointer (some ⟨R, 0, none⟩)] w fun e w' => ∃ g cap, e = .returned (.tuple #[.slice (some ⟨g, 0, none⟩) 1 cap, .int .i64 0]) ∧ 1 ≤ cap ∧ w.heap.size ≤ g ∧ w'.cell? ⟨g, 0, none⟩ = some (.string ⟨#[]⟩) ∧ w'.cell? ⟨g, 1, none⟩ = some (str a.1) ∧ w'.cell? ⟨g, 2, none⟩ = some (str a.2) ∧ End w L R A c bs many r' w' := by
  have hLlt := h.cur.L_lt
  have hRlt := h.rdr.lt
  have hAlt := Lib.hid h.A_lt
  obtain ⟨nm, v⟩ := a
  cases hA with
  | one r1 r2 r3 a x x1 rc h1 h2 h3 h4 h5 h6 h7 =>
    obtain ⟨N, hN⟩ : ∃ N : ByteArray, (⟨nm.toArray⟩ : ByteArray) = N := ⟨_, rfl⟩
    have hN2 : str nm = .string N := by rw [← hN]; rfl
    obtain ⟨V, hV⟩ : ∃ N : ByteArray, (⟨v.toArray⟩ : ByteArray) = N := ⟨_, rfl⟩
    have hV2 : str v = .string V := by rw [← hV]; rfl
    have hq1 := hr.ws_
    rw [h2] at hq1
    have k1 := xml_blank h hr.eq
    have k2 : ∀ W, RS W L R A c bs (p + ws r) many → Calls Tryd.prog 58 #[.pointer (some ⟨L, 0, none⟩), .int .i64 0] W fun e w' => e = .returned (.int .i64 (x1.toNat : Int)) ∧ RS w' L R A c bs (p + ws r) many ∧ Fr L R W w' := fun W hW => by
      have := rs_peek hW
      rw [peek_cons hq1.eq] at this
      exact this
    have k3 : ∀ W, RS W L R A c bs (p + ws r) many → Calls Tryd.prog 65 #[.pointer (some ⟨R, 0, none⟩)] W fun e w' => e = .returned (.tuple #[.agg #[.string ⟨#[]⟩, .string N, .string V], .int .i64 0]) ∧ End W L R A c bs many r2 w' := fun W hW => by
      have := xml_attr hW hq1 h5
      simp only [hN2, hV2] at this
      exact this
    have k4 : ∀ W p1, RS W L R A c bs p1 many → Rest bs p1 r2 → Calls Tryd.prog 49 #[.pointer (some ⟨R, 0, none⟩)] W fun e w' => e = .returned (.int .i64 (ws r2 : Nat)) ∧ (RS w' L R A c bs (p1 + ws r2) many ∧ Rest bs (p1 + ws r2) (x :: r3)) ∧ Fr L R W w' := fun W p1 hW hq => by
      have hq2 := hq.ws_
      rw [h6] at hq2
      exact (xml_blank hW hq.eq).mono fun e w' k => ⟨k.1, ⟨k.2.1, hq2⟩, k.2.2⟩
    have k5 : ∀ W p1, RS W L R A c bs p1 many → Rest bs p1 (x :: r3) → Calls Tryd.prog 58 #[.pointer (some ⟨L, 0, none⟩), .int .i64 0] W fun e w' => e = .returned (.int .i64 (x.toNat : Int)) ∧ RS w' L R A c bs p1 many ∧ Fr L R W w' := fun W p1 hW hq => by
      have := rs_peek hW
      rw [peek_cons hq.eq] at this
      exact this
    have hx3 : (x.toNat : Int) = 47 ∨ (x.toNat : Int) = 62 := by rcases h7 with rfl | rfl; exact .inl rfl; exact .inr rfl
    have t1 : ((x1.toNat : Int) == 47) = false := by have := u8_eq x1 47; rw [show (((47 : UInt8).toNat : Int)) = 47 from rfl] at this; rw [← this]; simp [h3]
    have t2 : ((x1.toNat : Int) == 62) = false := by have := u8_eq x1 62; rw [show (((62 : UInt8).toNat : Int)) = 62 from rfl] at this; rw [← this]; simp [h4]
    have t3 : (((ws r : Nat) : Int) == 0) = false := by simp; omega
    obtain ⟨i0, hi0, hq0, hqs, hqb⟩ := at_info
    show Calls Tryd.prog 61 #[.pointer (some ⟨R, 0, none⟩)] w fun e w' => ∃ g cap, e = .returned (.tuple #[.slice (some ⟨g, 0, none⟩) 1 cap, .int .i64 0]) ∧ 1 ≤ cap ∧ w.heap.size ≤ g ∧ w'.cell? ⟨g, 0, none⟩ = some (.string ⟨#[]⟩) ∧ w'.cell? ⟨g, 1, none⟩ = some (str nm) ∧ w'.cell? ⟨g, 2, none⟩ = some (str v) ∧ End w L R A c bs many (x :: r3) w'
    rw [hN2, hV2]
    replace k2 := Lib.hid k2
    replace k3 := Lib.hid k3
    replace k4 := Lib.hid k4
    replace k5 := Lib.hid k5
    replace hi0 := Lib.hid hi0
    replace hq0 := Lib.hid hq0
    replace hqs := Lib.hid hqs
    replace hqb := Lib.hid hqb
    replace hq1 := Lib.hid hq1
    clear h h1 h2 h3 h4 h5 h6 h7 hN hV hN2 hV2
    generalize hX1 : (x1.toNat : Int) = X1 at *
    generalize hX : (x.toNat : Int) = X at *
    generalize ((ws r : Nat) : Int) = Z1 at *
    generalize ((ws r2 : Nat) : Int) = Z2 at *
    clear hX1 hX
    rcases hx3 with rfl | rfl
    all_goals
      go_enter Tryd.func61, Tryd.ntmps61
      go_wp2
      refine wp_loop_rounds 2 ?_; rw [rounds_succ]
      go_wp2_with (first
        | (go_at_call 49; (with_reducible refine k1.mono ?_); rintro e w1 ⟨rfl, h1, f1⟩; have g2 := k2.out w1 h1; have c1 := h1.rdr.cell 0; replace f1 := Lib.hid f1; replace h1 := Lib.hid h1)
        | (go_at_call 58; (with_reducible refine g2.mono ?_); rintro e w2 ⟨rfl, h2, f2⟩; have g3 := k3.out w2 h2; replace f2 := Lib.hid f2; replace h2 := Lib.hid h2)
        | (go_at_call 65; (with_reducible refine g3.mono ?_); rintro e w3 ⟨rfl, ⟨⟨p3, h3, q3⟩, f3⟩⟩; replace f3 := Lib.hid f3; replace h3 := Lib.hid h3; replace q3 := Lib.hid q3)
        | (at_builtin; refine wpList_append_own_at _ rfl (.tmp 33) (.tmp 35) 110 rfl w.heap.size 118 i0 _ 3 48 Tryd.underlying110 hi0.out hq0.out hqs.out hqb.out rfl (by decide) (.slice none 0 0) 0 [] rfl (World.ownsRow_nil _ _ _ _) ⟨w3.heap.size + 1, 0, none⟩ 1 1 [.string ⟨#[]⟩, .string N, .string V] rfl rfl (by have := three_new (w3.alloc (.cells #[.string ⟨#[]⟩, .string N, .string V] 118)) (.string ⟨#[]⟩) (.string N) (.string V) 118; rw [World.size_alloc] at this; exact this) (three_one _ _ _) (by decide) (by decide) (by have := f1.out.size; have := f2.out.size; have := f3.out.size; simp; omega) ?_; intro v5 w5 hown5 hg5 _ hat5; generalize hstop : wpList _ _ _ _ _ _ = G))
      subst hstop
      have hz2 : ((w3.alloc (.cells #[.string ⟨#[]⟩, .string N, .string V] 118)).alloc (.cells #[.string ⟨#[]⟩, .string N, .string V] 118)).heap.size = w3.heap.size + 2 := by rw [World.size_alloc, World.size_alloc]
      have b5 : Below w3.heap.size w3 w5 := (((Below.refl _ _).alloc (Nat.le_refl _) _).alloc (by rw [World.size_alloc]; omega) _).grown hg5 (by rw [hz2]; omega) (fun g hg => by simp [Value.ownBlock] at hg)
      rw [hz2] at hat5
      obtain ⟨a5, cp5, rfl⟩ := sl_of hown5
      have hoa := fun w' => own_at (w' := w') hown5 (by omega) (by simpa [Value.ownBlock] using hat5)
      obtain ⟨rfl, hk5, _⟩ := hoa w5
      have F3 := (f1.out.trans f2.out).trans f3.out
      have hs3 := F3.size
      have h5 := h3.out.below b5
      have g4 := k4.out w5 p3 h5 q3.out
      have c5 := h5.rdr.cell 0
      replace hown5 := Lib.hid hown5
      replace hoa := Lib.hid hoa
      replace hg5 := Lib.hid hg5
      replace hat5 := Lib.hid hat5
      replace b5 := Lib.hid b5
      replace h5 := Lib.hid h5
      replace F3 := Lib.hid F3
      replace hz2 := Lib.hid hz2
      clear hi0 hq0 hqs hqb
      go_wp2
      rw [rounds_succ]
      go_wp2_with (first
        | (go_at_call 49; (with_reducible refine g4.mono ?_); rintro e w6 ⟨rfl, ⟨h6, q6⟩, f6⟩; have g5 := k5.out w6 _ h6 q6; have c6 := h6.rdr.cell 0; replace f6 := Lib.hid f6; replace h6 := Lib.hid h6; replace q6 := Lib.hid q6)
        | (go_at_call 58; (with_reducible refine g5.mono ?_); rintro e w7 ⟨rfl, h7, f7⟩; replace f7 := Lib.hid f7; replace h7 := Lib.hid h7))
      go_ret2
      have F6 := f6.out.trans f7.out
      have hkk := F6.block (w3.heap.size + 2) hk5 (by omega) (by omega)
      have hO := (hoa.out w7).2.2 hkk
      exact ⟨_, _, rfl, own_cap hO, by omega, hO.cellAt 0 (by decide), hO.cellAt 1 (by decide), hO.cellAt 2 (by decide), ⟨_, h7.out, q6.out⟩, (F3.out.tail (b5.out.mono hs3)).trans F6⟩
end Go.Proofs.YtgomlebemefdcaaDoor

/- The reader reads a content. No condition. -/
namespace Go.Proofs.YtgomlebemefdcaaDoor
open Go Go.RowKit Go.Wk Go.Xt Go.Xe
def ElemR (w : World) (L R : Nat) (A : Option Addr) (c : Nat) (bs : List UInt8) (n : Nd) (m2 : Nat) (r' : List UInt8) (e : Ending) (w' : World) : Prop :=
  ∃ (N : ByteArray) (a1 : Option Addr) (n1 c1 : Nat) (a2 : Option Addr) (n2 c2 : Nat) (bl : List Nat), e = .returned (.tuple #[.agg #[.string ⟨#[]⟩, .string N, .string ⟨#[]⟩, .slice a1 n1 c1, .slice a2 n2 c2], .int .i64 0]) ∧
    NdAt w' n [.string ⟨#[]⟩, .string N, .string ⟨#[]⟩, .slice a1 n1 c1, .slice a2 n2 c2] bl ∧ (∀ k ∈ bl, w.heap.size ≤ k ∧ k < w'.heap.size) ∧ End w L R A c bs m2 r' w'
def ElemC (L R : Nat) (A : Option Addr) (c : Nat) (bs : List UInt8) (d : Nat) : Prop :=
  ∀ w p m r n m2 r', RS w L R A c bs p m → Rest bs p r → Elem d m r n m2 r' → Calls Tryd.prog 40 #[.pointer (some ⟨R, 0, none⟩), .int .i64 (d : Int)] w (ElemR w L R A c bs n m2 r')
def ContR (w : World) (L R : Nat) (A : Option Addr) (c : Nat) (bs : List UInt8) (ks : List Nd) (m2 : Nat) (r' : List UInt8) (e : Ending) (w' : World) : Prop :=
  ∃ (a : Option Addr) (n cp : Nat) (bk : List Nat), e = .returned (.tuple #[.slice a n cp, .int .i64 0]) ∧ KsAt w' ks (.slice a n cp) bk ∧ (∀ k ∈ bk, w.heap.size ≤ k ∧ k < w'.heap.size) ∧ End w L R A c bs m2 r' w'
def ContL (w : World) (L R : Nat) (A : Option Addr) (c : Nat) (bs : List UInt8) (d : Nat) (ks : List Nd) (m2 : Nat) (r' : List UInt8) (s6 s7 : Value) (wr : World) : Prop :=
  ∃ (q m1 : Nat) (r1 t1 : List UInt8) (done rest : List Nd) (vs : List Value) (b : List Nat), Rest bs q r1 ∧ Cont (d + 1) m1 t1 r1 rest m2 r' ∧ done ++ rest = ks ∧ s7 = .string ⟨t1.toArray⟩ ∧ Kids w.heap.size wr s6 done vs b ∧ done.length + t1.length + r1.length ≤ bs.length ∧
    RS wr L R A c bs q m1 ∧ Fr L R w wr
theorem slice_of {w : World} {B e s n : Nat} {v : Value} {xs : List Value} (h : w.ownsRow B e s v n xs) : ∃ a c, v = .slice a n c := by
  rcases h.2 with ⟨rfl, rfl⟩ | ⟨g, cap, cur, rfl, _⟩
  · exact ⟨none, 0, rfl⟩
  · exact ⟨_, _, rfl⟩
set_option maxHeartbeats 4000000 in
set_option maxRecDepth 100000 in
theorem xml_content {w : World} {L R c p m m2 d : Nat} {A : Option Addr} {bs r r' : List UInt8} {ks : List Nd} (hd : d ≤ 1000) (hE : ElemC L R A c bs d) (h : RS w L R A c bs p m) (hr : Rest bs p r) (hC : Cont (d + 1) m [] r ks m2 r') :
    Calls Tryd.prog 52 #[.pointer (some ⟨R, 0, none⟩), .int .i64 ((d : Int) + 1)] w (ContR w L R A c bs ks m2 r') := by
  have hLB := h.cur.L_lt
  have hRB := h.rdr.lt
  have hsm := h.cur.small
  have hAB := Lib.hid h.A_lt
  have hlr := hr.len
  replace hE := Lib.hid hE
  replace h := Lib.hid h
  replace hr := Lib.hid hr
  replace hC := Lib.hid hC
  obtain ⟨i0, hi0, hz0, hz1, hz2⟩ := node_info
  go_enter Tryd.func52, Tryd.ntmps52
  go_wp2
  go_loopw [6, 7] (fun s6 s7 wr => ContL w L R A c bs d ks m2 r' s6 s7 wr) (fun _ _ wr => bs.length + 1 - posOf L wr)
  case atStart => exact ⟨p, m, r, [], [], ks, [], [], hr.out, hC.out, rfl, rfl, Kids.nil _ _, by simp; omega, h.out, Fr.refl _ _ _⟩
  case round =>
    obtain ⟨q, m1, r1, t1, done, rest, vs, b, hq, hC1, hks, rfl, hK, hlen, hS, hF⟩ := hrel
    have hpos := Lib.hid hS.pos
    have hFz := hF.size
    have hql := hq.len
    clear h hr hC hlr
    obtain ⟨T, hT⟩ : ∃ T : ByteArray, (⟨t1.toArray⟩ : ByteArray) = T := ⟨_, rfl⟩
    rw [hT]
    have hTz : T.size = t1.length := by rw [← hT]; simp [ByteArray.size]
    have hTl : T.data.toList = t1 := by rw [← hT]
    cases hC1 with
    | skip _ _ _ _ _ o r2 r3 _ _ hTx hM hC2 =>
      have hol := txt_len hTx
      have hml := misc_len hM
      obtain ⟨O, hO⟩ : ∃ O : ByteArray, (⟨o.toArray⟩ : ByteArray) = O := ⟨_, rfl⟩
      have hOz : O.size = o.length := by rw [← hO]; simp [ByteArray.size]
      have hTO : Hid ((⟨(t1 ++ o).toArray⟩ : ByteArray) = T ++ O) := Lib.hid (by rw [← hT, ← hO]; apply bytes_ext; simp)
      have ct : Calls Tryd.prog 63 #[.pointer (some ⟨R, 0, none⟩), .int .i64 (-1)] wr fun e w' => e = .returned (.tuple #[.string ⟨o.toArray⟩, .int .i64 0]) ∧ End wr L R A c bs m1 r2 w' := xml_text (-1) (by omega) hS hq hTx
      have cm := fun w1 q1 (h1 : RS w1 L R A c bs q1 m1) (hq1 : Rest bs q1 r2) => xml_misc h1 hq1 hM
      rw [hO] at ct
      have s1 : T.size ≤ 100000 := by omega
      have s2 : O.size ≤ 100000 := by omega
      replace cm := Lib.hid cm
      replace hTz := Lib.hid hTz
      replace hOz := Lib.hid hOz
      replace hT := Lib.hid hT
      replace hO := Lib.hid hO
      replace hTl := Lib.hid hTl
      replace hK := Lib.hid hK
      replace hS := Lib.hid hS
      replace hF := Lib.hid hF
      replace hC2 := Lib.hid hC2
      replace hks := Lib.hid hks
      replace hlen := Lib.hid hlen
      replace hol := Lib.hid hol
      replace hml := Lib.hid hml
      replace hql := Lib.hid hql
      clear hM hTx hq
      go_wp2_with (first
        | (go_at_call 63; (with_reducible refine ct.mono ?_); rintro e w1 ⟨rfl, ⟨⟨q1, h1, hq1⟩, f1⟩⟩; have k2 := cm.out w1 q1 h1 hq1; replace f1 := Lib.hid f1; replace h1 := Lib.hid h1; replace hq1 := Lib.hid hq1)
        | (go_at_call 50; (with_reducible refine k2.mono ?_); rintro e w2 ⟨rfl, ⟨⟨q2, h2, hq2⟩, f2⟩⟩; replace f2 := Lib.hid f2; replace h2 := Lib.hid h2; replace hq2 := Lib.hid hq2))
      have F := f1.out.trans f2.out
      have l1 := hol.out
      have l2 := hml.out
      have l3 := hlen.out
      have l4 := hql.out
      have l5 := hq2.out.len
      go_roundw
      case rel => exact ⟨q2, m1, r3, t1 ++ o, done, rest, vs, b, hq2.out, hC2.out, hks.out, by rw [hTO.out], hK.out.fr F hLB hRB, by rw [List.length_append]; omega, h2.out, hF.out.trans F⟩
      case measure => rw [h2.out.pos, hpos.out]; omega
    | done _ _ _ _ o r2 r3 hTx hM hx3 =>
      have hol := txt_len hTx
      obtain ⟨O, hO⟩ : ∃ O : ByteArray, (⟨o.toArray⟩ : ByteArray) = O := ⟨_, rfl⟩
      have hOz : O.size = o.length := by rw [← hO]; simp [ByteArray.size]
      have ct : Calls Tryd.prog 63 #[.pointer (some ⟨R, 0, none⟩), .int .i64 (-1)] wr fun e w' => e = .returned (.tuple #[.string ⟨o.toArray⟩, .int .i64 0]) ∧ End wr L R A c bs m2 r2 w' := xml_text (-1) (by omega) hS hq hTx
      have cm := fun w1 q1 (h1 : RS w1 L R A c bs q1 m2) (hq1 : Rest bs q1 r2) => xml_misc h1 hq1 hM
      rw [hO] at ct
      have c54 : ∀ w2 q2, RS w2 L R A c bs q2 m2 → Rest bs q2 r2 → Calls Tryd.prog 54 #[.pointer (some ⟨L, 0, none⟩), .string ⟨#[60, 47]⟩] w2 fun e w' => e = .returned (.bool true) ∧ RS w' L R A c bs (q2 + 2) m2 ∧ Fr L R w2 w' := fun w2 q2 h2 hq2 => rs_yes h2 ⟨#[60, 47]⟩ r' (by decide) (by decide) (by rw [hq2.eq]; exact hx3)
      have hx4 : ∀ q2, Rest bs q2 r2 → Rest bs (q2 + 2) r' := fun q2 h => Rest.app (s := [60, 47]) (by rw [← hx3]; exact h)
      replace hx4 := Lib.hid hx4
      clear hx3
      by_cases hemp : t1 ++ o = []
      · rw [if_pos hemp, List.append_nil] at hks
        have e1 : t1 = [] := (List.append_eq_nil_iff.1 hemp).1
        have e2 : o = [] := (List.append_eq_nil_iff.1 hemp).2
        have eT : T = ⟨#[]⟩ := by rw [← hT, e1]
        have eO : O = ⟨#[]⟩ := by rw [← hO, e2]
        rw [eO] at ct
        rw [eT]
        obtain ⟨a6, cp6, rfl⟩ := slice_of hK.own
        have hee : ((⟨#[]⟩ : ByteArray) ++ ⟨#[]⟩).toList.isEmpty = true := by rw [ByteArray.toList_eq]; rfl
        clear eT eO
        replace cm := Lib.hid cm
        replace hTz := Lib.hid hTz
        replace hOz := Lib.hid hOz
        replace hT := Lib.hid hT
        replace hO := Lib.hid hO
        replace hTl := Lib.hid hTl
        replace hK := Lib.hid hK
        replace hS := Lib.hid hS
        replace hF := Lib.hid hF
        replace hks := Lib.hid hks
        replace hlen := Lib.hid hlen
        replace hol := Lib.hid hol
        replace hql := Lib.hid hql
        replace c54 := Lib.hid c54
        replace e1 := Lib.hid e1
        replace e2 := Lib.hid e2
        replace hemp := Lib.hid hemp
        clear hM hTx hq
        go_wp2_with (first
          | (go_at_call 63; (with_reducible refine ct.mono ?_); rintro e w1 ⟨rfl, ⟨⟨q1, h1, hq1⟩, f1⟩⟩; have k2 := cm.out w1 q1 h1 hq1; replace f1 := Lib.hid f1; replace h1 := Lib.hid h1; replace hq1 := Lib.hid hq1)
          | (go_at_call 50; (with_reducible refine k2.mono ?_); rintro e w2 ⟨rfl, ⟨⟨q2, h2, hq2⟩, f2⟩⟩; have c2 := h2.rdr.cell 0; have F := f1.out.trans f2; have K2 := hK.out.fr F hLB hRB; have k3 := c54.out w2 q2 h2 hq2; replace f2 := Lib.hid f2; replace h2 := Lib.hid h2; replace hq2 := Lib.hid hq2; replace F := Lib.hid F; replace K2 := Lib.hid K2)
          | (go_at_call 54; (with_reducible refine k3.mono ?_); rintro e w3 ⟨rfl, h3, f3⟩; replace f3 := Lib.hid f3; replace h3 := Lib.hid h3))
        go_ret2
        obtain ⟨bk, hks1, hbk⟩ := (K2.out.fr f3.out hLB hRB).ks
        exact ⟨_, _, _, bk, rfl, (by rw [← hks.out]; exact hks1), hbk, ⟨_, h3.out, hx4.out q2 hq2.out⟩, (hF.out.trans F.out).trans f3.out⟩
      · rw [if_neg hemp] at hks
        obtain ⟨TO, hTO⟩ : ∃ TO : ByteArray, T ++ O = TO := ⟨_, rfl⟩
        have hTO2 : (⟨(t1 ++ o).toArray⟩ : ByteArray) = TO := by rw [← hTO, ← hT, ← hO]; apply bytes_ext; simp
        have hN : ∀ w, NdAt w (.tx (t1 ++ o)) [.string ⟨#[]⟩, .string ⟨#[]⟩, .string TO, .slice none 0 0, .slice none 0 0] [] := fun w => by rw [← hTO2]; exact .tx _
        have s1 : T.size ≤ 100000 := by omega
        have s2 : O.size ≤ 100000 := by omega
        have hTl2 : ¬ TO.toList = [] := by rw [ByteArray.toList_eq, ← hTO2]; simpa using hemp
        have hTl3 : (TO.toList == []) = false := by simpa using hTl2
        have hTl4 : TO.toList.isEmpty = false := by simpa using hTl2
        replace hN := Lib.hid hN
        replace hTO2 := Lib.hid hTO2
        replace hemp := Lib.hid hemp
        replace cm := Lib.hid cm
        replace hTz := Lib.hid hTz
        replace hOz := Lib.hid hOz
        replace hT := Lib.hid hT
        replace hO := Lib.hid hO
        replace hTl := Lib.hid hTl
        replace hK := Lib.hid hK
        replace hS := Lib.hid hS
        replace hF := Lib.hid hF
        replace hks := Lib.hid hks
        replace hlen := Lib.hid hlen
        replace hol := Lib.hid hol
        replace hql := Lib.hid hql
        replace c54 := Lib.hid c54
        clear hM hTx hq
        go_wp2_with (first
          | (go_at_call 63; (with_reducible refine ct.mono ?_); rintro e w1 ⟨rfl, ⟨⟨q1, h1, hq1⟩, f1⟩⟩; have k2 := cm.out w1 q1 h1 hq1; replace f1 := Lib.hid f1; replace h1 := Lib.hid h1; replace hq1 := Lib.hid hq1)
          | (go_at_call 50; (with_reducible refine k2.mono ?_); rintro e w2 ⟨rfl, ⟨⟨q2, h2, hq2⟩, f2⟩⟩; have F := f1.out.trans f2; have K2 := hK.out.fr F hLB hRB; have hsz2 := F.size; have own2 := K2.own; have hND := hN.out w2; replace f2 := Lib.hid f2; replace h2 := Lib.hid h2; replace hq2 := Lib.hid hq2; replace F := Lib.hid F; replace K2 := Lib.hid K2; replace hND := Lib.hid hND)
          | (at_builtin; refine wpList_append_own_at _ rfl (.tmp 34) (.tmp 37) 25 rfl w.heap.size 27 i0 _ 5 96 Tryd.underlying25 hi0 hz0 hz1 hz2 rfl (by decide) _ _ _ rfl (own2.alloc _) ⟨w2.heap.size, 0, none⟩ 1 1 [.string ⟨#[]⟩, .string ⟨#[]⟩, .string TO, .slice none 0 0, .slice none 0 0] rfl rfl (five_new _ _ _ _ _ _ _) (five_one _ _ _ _ _ rfl rfl) (by have := hlen.out; unfold maxLen; omega) (by have := hlen.out; omega) (by simp; omega) ?_; intro v5 w5 hown5 hg5 _ hat5; have K5 := K2.out.add hND.out (by simp) (by simp) hown5 hg5 hat5; have B5 : Below w.heap.size w2 w5 := ((Below.refl w.heap.size w2).alloc (by omega) _).grown hg5 (by simp; omega) (fun j hj => (own2.lt j hj).1); have h5 := h2.out.belowB B5 hLB hRB hAB.out; have c5 := h5.rdr.cell 0; have k3 := c54.out w5 q2 h5 hq2.out; obtain ⟨a5, cp5, rfl⟩ := slice_of hown5; replace K5 := Lib.hid K5; replace B5 := Lib.hid B5; replace h5 := Lib.hid h5; replace hown5 := Lib.hid hown5; replace hg5 := Lib.hid hg5; replace hat5 := Lib.hid hat5)
          | (go_at_call 54; (with_reducible refine k3.mono ?_); rintro e w3 ⟨rfl, h3, f3⟩; replace f3 := Lib.hid f3; replace h3 := Lib.hid h3))
        go_ret2
        obtain ⟨bk, hks1, hbk⟩ := (K5.out.fr f3.out hLB hRB).ks
        exact ⟨_, _, _, bk, rfl, (by rw [← hks.out]; exact hks1), hbk, ⟨_, h3.out, hx4.out q2 hq2.out⟩, ((hF.out.trans F.out).tail B5.out).trans f3.out⟩
    | elem _ _ m3 _ _ _ o r2 r3 k ks2 _ hTx hM hx3 hEl hC2 =>
      have hol := txt_len hTx
      obtain ⟨O, hO⟩ : ∃ O : ByteArray, (⟨o.toArray⟩ : ByteArray) = O := ⟨_, rfl⟩
      have hOz : O.size = o.length := by rw [← hO]; simp [ByteArray.size]
      have ct : Calls Tryd.prog 63 #[.pointer (some ⟨R, 0, none⟩), .int .i64 (-1)] wr fun e w' => e = .returned (.tuple #[.string ⟨o.toArray⟩, .int .i64 0]) ∧ End wr L R A c bs m1 r2 w' := xml_text (-1) (by omega) hS hq hTx
      have cm := fun w1 q1 (h1 : RS w1 L R A c bs q1 m1) (hq1 : Rest bs q1 r2) => xml_misc h1 hq1 hM
      rw [hO] at ct
      have hlE := elem_len hEl
      have c54 : ∀ w2 q2, RS w2 L R A c bs q2 m1 → Rest bs q2 r2 → Calls Tryd.prog 54 #[.pointer (some ⟨L, 0, none⟩), .string ⟨#[60, 47]⟩] w2 fun e w' => e = .returned (.bool false) ∧ RS w' L R A c bs q2 m1 ∧ Fr L R w2 w' := fun w2 q2 h2 hq2 => rs_no h2 ⟨#[60, 47]⟩ (by decide) (by decide) (by rw [hq2.eq]; exact hx3)
      have cE := fun w3 q3 (h3 : RS w3 L R A c bs q3 m1) (hq3 : Rest bs q3 r2) => hE.out w3 q3 m1 r2 k m3 r3 h3 hq3 hEl
      replace cE := Lib.hid cE
      replace hC2 := Lib.hid hC2
      replace hlE := Lib.hid hlE
      clear hx3 hEl
      by_cases hemp : t1 ++ o = []
      · rw [if_pos hemp, List.nil_append] at hks
        have e1 : t1 = [] := (List.append_eq_nil_iff.1 hemp).1
        have e2 : o = [] := (List.append_eq_nil_iff.1 hemp).2
        have eT : T = ⟨#[]⟩ := by rw [← hT, e1]
        have eO : O = ⟨#[]⟩ := by rw [← hO, e2]
        have ezt : t1.length = 0 := by rw [e1]; rfl
        have ezo : o.length = 0 := by rw [e2]; rfl
        rw [eO] at ct
        rw [eT]
        obtain ⟨a6, cp6, rfl⟩ := slice_of hK.own
        have hee : ((⟨#[]⟩ : ByteArray) ++ ⟨#[]⟩).toList.isEmpty = true := by rw [ByteArray.toList_eq]; rfl
        clear eT eO
        replace cm := Lib.hid cm
        replace hTz := Lib.hid hTz
        replace hOz := Lib.hid hOz
        replace hT := Lib.hid hT
        replace hO := Lib.hid hO
        replace hTl := Lib.hid hTl
        replace hK := Lib.hid hK
        replace hS := Lib.hid hS
        replace hF := Lib.hid hF
        replace hks := Lib.hid hks
        replace hlen := Lib.hid hlen
        replace hol := Lib.hid hol
        replace hql := Lib.hid hql
        replace c54 := Lib.hid c54
        replace e1 := Lib.hid e1
        replace e2 := Lib.hid e2
        replace ezt := Lib.hid ezt
        replace ezo := Lib.hid ezo
        replace hemp := Lib.hid hemp
        clear hM hTx hq
        go_wp2_with (first
          | (go_at_call 63; (with_reducible refine ct.mono ?_); rintro e w1 ⟨rfl, ⟨⟨q1, h1, hq1⟩, f1⟩⟩; have k2 := cm.out w1 q1 h1 hq1; replace f1 := Lib.hid f1; replace h1 := Lib.hid h1; replace hq1 := Lib.hid hq1)
          | (go_at_call 50; (with_reducible refine k2.mono ?_); rintro e w2 ⟨rfl, ⟨⟨q2, h2, hq2⟩, f2⟩⟩; have c2 := h2.rdr.cell 0; have F := f1.out.trans f2; have K2 := hK.out.fr F hLB hRB; have k3 := c54.out w2 q2 h2 hq2; replace f2 := Lib.hid f2; replace h2 := Lib.hid h2; replace hq2 := Lib.hid hq2; replace F := Lib.hid F; replace K2 := Lib.hid K2)
          | (go_at_call 54; (with_reducible refine k3.mono ?_); rintro e w3 ⟨rfl, h3, f3⟩; have K3 := K2.out.fr f3 hLB hRB; have hv3 := K3.v_lt; have k4 := cE.out w3 q2 h3 hq2.out; replace f3 := Lib.hid f3; replace h3 := Lib.hid h3; replace K3 := Lib.hid K3; replace hv3 := Lib.hid hv3)
          | (go_at_call 40; (with_reducible refine k4.mono ?_); rintro e w6 ⟨N, a1, n1, c1, a2, n2, c2, bl, rfl, hnd, hbl, ⟨⟨q6, h6, hq6⟩, f6⟩⟩; have hba : Below w6.heap.size w6 (w6.alloc (.cells #[.string ⟨#[]⟩, .string N, .string ⟨#[]⟩, .slice a1 n1 c1, .slice a2 n2 c2] 27)) := (Below.refl _ _).alloc (Nat.le_refl _) _; have K6 := (K3.out.fr f6 hLB hRB).fr (Fr.of_below (L := L) (R := R) hba) hLB hRB; have own6 := K6.own; have hsz6 : w.heap.size ≤ w6.heap.size := Nat.le_trans ((hF.out.trans F.out).size) (Nat.le_trans f3.out.size f6.size); have hsz3 : w.heap.size ≤ w3.heap.size := Nat.le_trans ((hF.out.trans F.out).size) f3.out.size; have hnd6 := hnd.keep (fun j hj => hba.block j (hbl j hj).2); have h66 := h6.below hba; have hs61 : (w6.alloc (.cells #[.string ⟨#[]⟩, .string N, .string ⟨#[]⟩, .slice a1 n1 c1, .slice a2 n2 c2] 27)).heap.size = w6.heap.size + 1 := World.size_alloc _ _; replace f6 := Lib.hid f6; replace h6 := Lib.hid h6; replace hq6 := Lib.hid hq6; replace hnd := Lib.hid hnd; replace hbl := Lib.hid hbl; replace hba := Lib.hid hba; replace K6 := Lib.hid K6; replace hnd6 := Lib.hid hnd6; replace h66 := Lib.hid h66; replace hs61 := Lib.hid hs61)
          | (at_builtin; refine wpList_append_own_at _ rfl (.tmp 55) (.tmp 57) 25 rfl w.heap.size 27 i0 _ 5 96 Tryd.underlying25 hi0 hz0 hz1 hz2 rfl (by decide) _ _ _ rfl (own6.alloc _) ⟨w6.heap.size + 1, 0, none⟩ 1 1 [.string ⟨#[]⟩, .string N, .string ⟨#[]⟩, .slice a1 n1 c1, .slice a2 n2 c2] rfl rfl (by have := five_new (w6.alloc (.cells #[.string ⟨#[]⟩, .string N, .string ⟨#[]⟩, .slice a1 n1 c1, .slice a2 n2 c2] 27)) (.string ⟨#[]⟩) (.string N) (.string ⟨#[]⟩) (.slice a1 n1 c1) (.slice a2 n2 c2) 27; rw [hs61.out] at this; exact this) (five_one _ _ _ _ _ rfl rfl) (by have := hlen.out; have := hol.out; have := ezt.out; unfold maxLen; omega) (by have := hlen.out; have := hol.out; have := ezt.out; omega) (by simp; omega) ?_; intro v7 w7 hown7 hg7 _ hat7; have K7 := K6.out.add hnd6.out (fun j hj => ⟨Nat.le_trans hsz3 (hbl.out j hj).1, by rw [hs61.out]; have := (hbl.out j hj).2; omega⟩) (fun j hj e => by have := hv3.out j e; have := (hbl.out j hj).1; omega) hown7 hg7 hat7; have B7 : Below w.heap.size w6 w7 := (((Below.refl w.heap.size w6).alloc hsz6 _).alloc (by rw [hs61.out]; omega) _).grown hg7 (by simp; omega) (fun j hj => (own6.lt j hj).1); have h7 := h6.out.belowB B7 hLB hRB hAB.out; replace K7 := Lib.hid K7; replace B7 := Lib.hid B7; replace h7 := Lib.hid h7; replace hown7 := Lib.hid hown7; replace hg7 := Lib.hid hg7; replace hat7 := Lib.hid hat7))
        have l1 := hol.out
        have l3 := hlen.out
        have l4 := hql.out
        have l5 := hlE.out
        have l6 := hq6.out.len
        have l7 := ezt.out
        have l8 := ezo.out
        go_roundw
        case rel => exact ⟨q6, m3, r3, [], done ++ [k], ks2, _, _, hq6.out, hC2.out, by rw [← hks.out]; simp, rfl, K7.out, by simp; omega, h7.out, ((hF.out.trans F.out).trans (f3.out.trans f6.out)).tail B7.out⟩
        case measure => rw [h7.out.pos, hpos.out]; omega
      · rw [if_neg hemp] at hks
        have hpz : 0 < t1.length + o.length := by
          rw [← List.length_append]; exact List.length_pos_iff.2 hemp
        obtain ⟨TO, hTO⟩ : ∃ TO : ByteArray, T ++ O = TO := ⟨_, rfl⟩
        have hTO2 : (⟨(t1 ++ o).toArray⟩ : ByteArray) = TO := by rw [← hTO, ← hT, ← hO]; apply bytes_ext; simp
        have hN : ∀ w, NdAt w (.tx (t1 ++ o)) [.string ⟨#[]⟩, .string ⟨#[]⟩, .string TO, .slice none 0 0, .slice none 0 0] [] := fun w => by rw [← hTO2]; exact .tx _
        have s1 : T.size ≤ 100000 := by omega
        have s2 : O.size ≤ 100000 := by omega
        have hTl2 : ¬ TO.toList = [] := by rw [ByteArray.toList_eq, ← hTO2]; simpa using hemp
        have hTl3 : (TO.toList == []) = false := by simpa using hTl2
        have hTl4 : TO.toList.isEmpty = false := by simpa using hTl2
        replace hN := Lib.hid hN
        replace hTO2 := Lib.hid hTO2
        replace hemp := Lib.hid hemp
        replace hpz := Lib.hid hpz
        have hda : Hid ((done ++ [Nd.tx (t1 ++ o)]).length = done.length + 1) := Lib.hid (by simp)
        replace cm := Lib.hid cm
        replace hTz := Lib.hid hTz
        replace hOz := Lib.hid hOz
        replace hT := Lib.hid hT
        replace hO := Lib.hid hO
        replace hTl := Lib.hid hTl
        replace hK := Lib.hid hK
        replace hS := Lib.hid hS
        replace hF := Lib.hid hF
        replace hks := Lib.hid hks
        replace hlen := Lib.hid hlen
        replace hol := Lib.hid hol
        replace hql := Lib.hid hql
        replace c54 := Lib.hid c54
        clear hM hTx hq
        go_wp2_with (first
          | (go_at_call 63; (with_reducible refine ct.mono ?_); rintro e w1 ⟨rfl, ⟨⟨q1, h1, hq1⟩, f1⟩⟩; have k2 := cm.out w1 q1 h1 hq1; replace f1 := Lib.hid f1; replace h1 := Lib.hid h1; replace hq1 := Lib.hid hq1)
          | (go_at_call 50; (with_reducible refine k2.mono ?_); rintro e w2 ⟨rfl, ⟨⟨q2, h2, hq2⟩, f2⟩⟩; have F := f1.out.trans f2; have K2 := hK.out.fr F hLB hRB; have hsz2 := F.size; have own2 := K2.own; have hND := hN.out w2; replace f2 := Lib.hid f2; replace h2 := Lib.hid h2; replace hq2 := Lib.hid hq2; replace F := Lib.hid F; replace K2 := Lib.hid K2; replace hND := Lib.hid hND)
          | (at_builtin; refine wpList_append_own_at _ rfl (.tmp 34) (.tmp 37) 25 rfl w.heap.size 27 i0 _ 5 96 Tryd.underlying25 hi0 hz0 hz1 hz2 rfl (by decide) _ _ _ rfl (own2.alloc _) ⟨w2.heap.size, 0, none⟩ 1 1 [.string ⟨#[]⟩, .string ⟨#[]⟩, .string TO, .slice none 0 0, .slice none 0 0] rfl rfl (five_new _ _ _ _ _ _ _) (five_one _ _ _ _ _ rfl rfl) (by have := hlen.out; unfold maxLen; omega) (by have := hlen.out; omega) (by simp; omega) ?_; intro v5 w5 hown5 hg5 _ hat5; have K5 := K2.out.add hND.out (by simp) (by simp) hown5 hg5 hat5; have B5 : Below w.heap.size w2 w5 := ((Below.refl w.heap.size w2).alloc (by omega) _).grown hg5 (by simp; omega) (fun j hj => (own2.lt j hj).1); have h5 := h2.out.belowB B5 hLB hRB hAB.out; have c5 := h5.rdr.cell 0; have k3 := c54.out w5 q2 h5 hq2.out; obtain ⟨a5, cp5, rfl⟩ := slice_of hown5; replace K5 := Lib.hid K5; replace B5 := Lib.hid B5; replace h5 := Lib.hid h5; replace hown5 := Lib.hid hown5; replace hg5 := Lib.hid hg5; replace hat5 := Lib.hid hat5)
          | (go_at_call 54; (with_reducible refine k3.mono ?_); rintro e w3 ⟨rfl, h3, f3⟩; have K3 := K5.out.fr f3 hLB hRB; have hv3 := K3.v_lt; have k4 := cE.out w3 q2 h3 hq2.out; replace f3 := Lib.hid f3; replace h3 := Lib.hid h3; replace K3 := Lib.hid K3; replace hv3 := Lib.hid hv3)
          | (go_at_call 40; (with_reducible refine k4.mono ?_); rintro e w6 ⟨N, a1, n1, c1, a2, n2, c2, bl, rfl, hnd, hbl, ⟨⟨q6, h6, hq6⟩, f6⟩⟩; have hba : Below w6.heap.size w6 (w6.alloc (.cells #[.string ⟨#[]⟩, .string N, .string ⟨#[]⟩, .slice a1 n1 c1, .slice a2 n2 c2] 27)) := (Below.refl _ _).alloc (Nat.le_refl _) _; have K6 := (K3.out.fr f6 hLB hRB).fr (Fr.of_below (L := L) (R := R) hba) hLB hRB; have own6 := K6.own; have hsz6 : w.heap.size ≤ w6.heap.size := Nat.le_trans (Nat.le_trans (hF.out.trans F.out).size B5.out.size) (Nat.le_trans f3.out.size f6.size); have hsz3 : w.heap.size ≤ w3.heap.size := Nat.le_trans (Nat.le_trans (hF.out.trans F.out).size B5.out.size) f3.out.size; have hnd6 := hnd.keep (fun j hj => hba.block j (hbl j hj).2); have h66 := h6.below hba; have hs61 : (w6.alloc (.cells #[.string ⟨#[]⟩, .string N, .string ⟨#[]⟩, .slice a1 n1 c1, .slice a2 n2 c2] 27)).heap.size = w6.heap.size + 1 := World.size_alloc _ _; replace f6 := Lib.hid f6; replace h6 := Lib.hid h6; replace hq6 := Lib.hid hq6; replace hnd := Lib.hid hnd; replace hbl := Lib.hid hbl; replace hba := Lib.hid hba; replace K6 := Lib.hid K6; replace hnd6 := Lib.hid hnd6; replace h66 := Lib.hid h66; replace hs61 := Lib.hid hs61)
          | (at_builtin; refine wpList_append_own_at _ rfl (.tmp 55) (.tmp 57) 25 rfl w.heap.size 27 i0 _ 5 96 Tryd.underlying25 hi0 hz0 hz1 hz2 rfl (by decide) _ _ _ rfl (own6.alloc _) ⟨w6.heap.size + 1, 0, none⟩ 1 1 [.string ⟨#[]⟩, .string N, .string ⟨#[]⟩, .slice a1 n1 c1, .slice a2 n2 c2] rfl rfl (by have := five_new (w6.alloc (.cells #[.string ⟨#[]⟩, .string N, .string ⟨#[]⟩, .slice a1 n1 c1, .slice a2 n2 c2] 27)) (.string ⟨#[]⟩) (.string N) (.string ⟨#[]⟩) (.slice a1 n1 c1) (.slice a2 n2 c2) 27; rw [hs61.out] at this; exact this) (five_one _ _ _ _ _ rfl rfl) (by have := hlen.out; have := hol.out; have := hpz.out; have := hda.out; unfold maxLen; omega) (by have := hlen.out; have := hol.out; have := hpz.out; have := hda.out; omega) (by simp; omega) ?_; intro v7 w7 hown7 hg7 _ hat7; have K7 := K6.out.add hnd6.out (fun j hj => ⟨Nat.le_trans hsz3 (hbl.out j hj).1, by rw [hs61.out]; have := (hbl.out j hj).2; omega⟩) (fun j hj e => by have := hv3.out j e; have := (hbl.out j hj).1; omega) hown7 hg7 hat7; have B7 : Below w.heap.size w6 w7 := (((Below.refl w.heap.size w6).alloc hsz6 _).alloc (by rw [hs61.out]; omega) _).grown hg7 (by simp; omega) (fun j hj => (own6.lt j hj).1); have h7 := h6.out.belowB B7 hLB hRB hAB.out; replace K7 := Lib.hid K7; replace B7 := Lib.hid B7; replace h7 := Lib.hid h7; replace hown7 := Lib.hid hown7; replace hg7 := Lib.hid hg7; replace hat7 := Lib.hid hat7))
        have l1 := hol.out
        have l3 := hlen.out
        have l4 := hql.out
        have l5 := hlE.out
        have l6 := hq6.out.len
        have l7 := hpz.out
        go_roundw
        case rel => exact ⟨q6, m3, r3, [], (done ++ [.tx (t1 ++ o)]) ++ [k], ks2, _, _, hq6.out, hC2.out, by rw [← hks.out]; simp, rfl, K7.out, by simp; omega, h7.out, (((hF.out.trans F.out).tail B5.out).trans (f3.out.trans f6.out)).tail B7.out⟩
        case measure => rw [h7.out.pos, hpos.out]; omega
end Go.Proofs.YtgomlebemefdcaaDoor

/- What the beginning's mark answers. No condition. -/
namespace Go.Proofs.YtgomlebemefdcaaDoor
open Go Go.RowKit Go.Wk Go.Xt Go.Xe
def MarkG (w : World) (L R : Nat) (A : Option Addr) (c : Nat) (bs : List UInt8) (many : Nat) (N : ByteArray) (l : List (List UInt8 × List UInt8)) (closed : Bool) (r : List UInt8) (e : Ending) (w' : World) : Prop :=
  ∃ (a1 : Option Addr) (n1 c1 : Nat) (ba : List Nat), e = .returned (.tuple #[.string ⟨#[]⟩, .string N, .bool closed, .agg #[.string ⟨#[]⟩, .string N, .string ⟨#[]⟩, .slice a1 n1 c1, .slice none 0 0], .int .i64 0]) ∧ AtA w' l (.slice a1 n1 c1) ba ∧ (∀ k ∈ ba, w.heap.size ≤ k ∧ k < w'.heap.size) ∧ End w L R A c bs (many + 1) r w'
end Go.Proofs.YtgomlebemefdcaaDoor

/- The beginning's mark with one attribute. No condition. -/
namespace Go.Proofs.YtgomlebemefdcaaDoor
open Go Go.RowKit Go.Wk Go.Xt Go.Xe
theorem atts_ne {r r' : List UInt8} {a : List UInt8 × List UInt8} (h : Atts r [a] r') : a.1 ≠ [120, 109, 108, 110, 115] := by
  cases h with
  | one r1 r2 r3 a x x1 rc h1 h2 h3 h4 h5 h6 h7 =>
    cases h5 with
    | mk nm r1 v q r2 r3 hn hne hnx => exact hnx
theorem ba_toList : (⟨#[120, 109, 108, 110, 115]⟩ : ByteArray).toList = [120, 109, 108, 110, 115] := by rw [ByteArray.toList_eq]
set_option maxHeartbeats 4000000 in
set_option maxRecDepth 100000 in
theorem xml_mark_one {w : World} {L R c p many : Nat} {A : Option Addr} {bs r r' nm : List UInt8} {a : List UInt8 × List UInt8} {closed : Bool} (d : Nat) (hd0 : 0 < d) (hd : d ≤ 1000) (hm : many < 4000) (h : RS w L R A c bs p many) (hr : Rest bs p r) (hM : Xe.Mark r nm [a] closed r') :
    Calls Tryd.prog 51 #[.pointer (some ⟨R, 0, none⟩), .int .i64 d] w (MarkG w L R A c bs many ⟨nm.toArray⟩ [a] closed r') := by
  obtain ⟨N, hN⟩ : ∃ N : ByteArray, (⟨nm.toArray⟩ : ByteArray) = N := ⟨_, rfl⟩
  have hN2 : str nm = .string N := by rw [← hN]; rfl
  rw [hN]
  obtain ⟨an, av⟩ := a
  obtain ⟨NA, hNA⟩ : ∃ N : ByteArray, (⟨an.toArray⟩ : ByteArray) = N := ⟨_, rfl⟩
  have hNA2 : str an = .string NA := by rw [← hNA]; rfl
  obtain ⟨VA, hVA⟩ : ∃ N : ByteArray, (⟨av.toArray⟩ : ByteArray) = N := ⟨_, rfl⟩
  have hVA2 : str av = .string VA := by rw [← hVA]; rfl
  have hb0 : Below w.heap.size w (w.alloc (.cells #[.string ⟨#[]⟩, .string ⟨#[]⟩, .string ⟨#[]⟩, .slice none 0 0, .slice none 0 0] 27)) := (Below.refl _ _).alloc (Nat.le_refl _) _
  have h0 := h.below hb0
  have hnew := Blk.new w 27 #[.string ⟨#[]⟩, .string ⟨#[]⟩, .string ⟨#[]⟩, .slice none 0 0, .slice none 0 0]
  have c0 := h0.rdr.cell 0
  have hRlt := h.rdr.lt
  have hLlt := h.cur.L_lt
  have hAlt := Lib.hid h.A_lt
  have hdz : ((d : Int) == 0) = false := by simp; omega
  have hmm : ¬ (4000 : Int) < (many : Int) + 1 := by omega
  cases hM with
  | «open» r0 _ _ r1 r2 hn hne hdr hno hA =>
    have m1 : Calls Tryd.prog 54 #[.pointer (some ⟨L, 0, none⟩), .string ⟨#[60]⟩] _ fun e w' => e = .returned (.bool true) ∧ RS w' L R A c bs (p + 1) many ∧ Fr L R _ w' := rs_yes h0 ⟨#[60]⟩ r0 (by decide) (by decide) hr.eq
    have hr1 : Rest bs (p + 1) r0 := hr.app (s := [60])
    have cf := fun w1 (h1 : RS w1 L R A c bs (p + 1) many) => xml_full h1 hr1 hn hne (by rw [hdr]; exact hno)
    simp only [hdr, hN2] at cf
    have ca := fun w2 q (h2 : RS w2 L R A c bs q (many + 1)) (hq : Rest bs q r1) => xml_attrs_one h2 hq hA
    simp only [hNA2, hVA2] at ca
    have hax := atts_ne hA
    have haxB : (NA.toList == [120, 109, 108, 110, 115]) = false := by
      have := str_ne (a := NA) (b := ⟨#[120, 109, 108, 110, 115]⟩) (by rw [← hNA]; simpa using hax)
      rw [ba_toList] at this
      exact this
    have m2 : ∀ w3 q, RS w3 L R A c bs q (many + 1) → Rest bs q (62 :: r') → Calls Tryd.prog 54 #[.pointer (some ⟨L, 0, none⟩), .string ⟨#[47]⟩] w3 fun e w' => e = .returned (.bool false) ∧ RS w' L R A c bs q (many + 1) ∧ Fr L R w3 w' := fun w3 q h3 hq => rs_no h3 ⟨#[47]⟩ (by decide) (by decide) (by rw [hq.eq]; simp [List.cons_prefix_cons])
    have m3 : ∀ w3 q, RS w3 L R A c bs q (many + 1) → Rest bs q (62 :: r') → Calls Tryd.prog 54 #[.pointer (some ⟨L, 0, none⟩), .string ⟨#[62]⟩] w3 fun e w' => e = .returned (.bool true) ∧ RS w' L R A c bs (q + 1) (many + 1) ∧ Fr L R w3 w' := fun w3 q h3 hq => rs_yes h3 ⟨#[62]⟩ r' (by decide) (by decide) hq.eq
    have cn : ∀ w5 q, RS w5 L R A c bs q (many + 1) → ∀ ga cpa, 1 ≤ cpa → w5.cell? ⟨ga, 0, none⟩ = some (.string ⟨#[]⟩) → w5.cell? ⟨ga, 1, none⟩ = some (.string NA) → w5.cell? ⟨ga, 2, none⟩ = some (.string VA) → Calls Tryd.prog 62 #[.pointer (some ⟨R, 0, none⟩), .string ⟨#[]⟩, .string N, .slice (some ⟨ga, 0, none⟩) 1 cpa] w5 fun e w' => ∃ g2 cap2, e = .returned (.tuple #[.agg #[.string ⟨#[]⟩, .string N, .string ⟨#[]⟩, .slice (some ⟨g2, 0, none⟩) 1 cap2, .slice none 0 0], .int .i64 0]) ∧
      w5.heap.size ≤ g2 ∧ g2 < w'.heap.size ∧ w'.ownsRow 0 34 3 (.slice (some ⟨g2, 0, none⟩) 1 cap2) 1 [.string ⟨#[]⟩, .string NA, .string VA] ∧ Below w5.heap.size w5 w' := fun w5 q h5 ga cpa hcp t0 t1 t2 => xml_node_one N ga cpa NA VA h5 haxB hcp t0 t1 t2
    replace cf := Lib.hid cf
    replace ca := Lib.hid ca
    replace m2 := Lib.hid m2
    replace m3 := Lib.hid m3
    replace cn := Lib.hid cn
    have h0f := Lib.hid (Fr.refl L R (w.alloc (.cells #[.string ⟨#[]⟩, .string ⟨#[]⟩, .string ⟨#[]⟩, .slice none 0 0, .slice none 0 0] 27)))
    replace h0 := Lib.hid h0
    replace hnew := Lib.hid hnew
    replace hb0 := Lib.hid hb0
    clear hn hne hdr hno hA h hr hr1 hN hN2 hax haxB
    replace hNA := Lib.hid hNA
    replace hVA := Lib.hid hVA
    replace hNA2 := Lib.hid hNA2
    replace hVA2 := Lib.hid hVA2
    go_enter Tryd.func51, Tryd.ntmps51
    go_wp2_with (first
      | (go_at_call 54; (with_reducible refine m1.mono ?_); rintro e w1 ⟨rfl, h1, f1⟩; have k2 := cf.out w1 h1; replace f1 := Lib.hid f1; replace h1 := Lib.hid h1; clear m1)
      | (go_at_call 53; (with_reducible refine k2.mono ?_); rintro e w2 ⟨rfl, ⟨⟨q, h2, hq⟩, f2⟩⟩; have c21 := h2.rdr.cell 1; have f21 := h2.rdr.frozen 1; have h2b := h2.bump; have k3 := ca.out _ q h2b hq; replace f2 := Lib.hid f2; replace h2 := Lib.hid h2; replace h2b := Lib.hid h2b; replace hq := Lib.hid hq)
      | (go_at_call 61; (with_reducible refine k3.mono ?_); rintro e w3 ⟨ga, cpa, rfl, hcp, hga, t30, t31, t32, ⟨⟨q3, h3, hq3⟩, f3⟩⟩; have hgaB : w.heap.size ≤ ga := Nat.le_trans (Nat.le_trans (by rw [World.size_alloc]; exact Nat.le_succ _) (f1.out.trans f2.out).size) (Nat.le_trans (Fr.bump (L := L) (R := R) w2 (.int .i64 ((many : Int) + 1))).size hga); have hgl := cell_lt t30; have c3 := h3.rdr.cell 0; have k4 := m2.out w3 q3 h3 hq3; replace f3 := Lib.hid f3; replace h3 := Lib.hid h3; replace hq3 := Lib.hid hq3)
      | (go_at_call 54; (with_reducible refine k4.mono ?_); rintro e w4 ⟨rfl, h4, f4⟩; have c4 := h4.rdr.cell 0; have k5 := m3.out w4 q3 h4 hq3.out; replace f4 := Lib.hid f4; replace h4 := Lib.hid h4; clear k4)
      | (go_at_call 54; (with_reducible refine k5.mono ?_); rintro e w5 ⟨rfl, h5, f5⟩; have f45 := f4.out.trans f5; have hb45 := f45.block ga hgl (by omega) (by omega); have t50 : w5.cell? ⟨ga, 0, none⟩ = some (.string ⟨#[]⟩) := (World.cell?_of_block hb45).trans t30; have t51 : w5.cell? ⟨ga, 1, none⟩ = some (.string NA) := (World.cell?_of_block hb45).trans t31; have t52 : w5.cell? ⟨ga, 2, none⟩ = some (.string VA) := (World.cell?_of_block hb45).trans t32; have k6 := cn.out w5 _ h5 ga cpa hcp t50 t51 t52; have hw5 : w.heap.size < w5.heap.size := Nat.lt_of_le_of_lt hgaB (Nat.lt_of_lt_of_le hgl f45.size); replace f45 := Lib.hid f45; replace hb45 := Lib.hid hb45; replace f5 := Lib.hid f5; replace h5 := Lib.hid h5)
      | (go_at_call 62; (with_reducible refine k6.mono ?_); rintro e w6 ⟨g2, cap2, rfl, hg2, hg2l, hown2, b6⟩; replace hown2 := Lib.hid hown2; replace b6 := Lib.hid b6))
    have F : Fr L R _ w6 := ((((h0f.out.trans (f1.out.trans f2.out)).trans (Fr.bump w2 (.int .i64 ((many : Int) + 1)))).trans f3.out).trans (f4.out.trans f5.out)).trans (Fr.of_below b6.out)
    have hz7 : Blk w6 w.heap.size 27 #[.string ⟨#[]⟩, .string ⟨#[]⟩, .string ⟨#[]⟩, .slice none 0 0, .slice none 0 0] := (F.block w.heap.size (by simp) (by omega) (by omega)).trans hnew.out
    have hz7 := hz7.alloc (.cells #[.string ⟨#[]⟩, .string N, .string ⟨#[]⟩, .slice (some ⟨g2, 0, none⟩) 1 cap2, .slice none 0 0] 27)
    have hz8 := Blk.new w6 27 #[.string ⟨#[]⟩, .string N, .string ⟨#[]⟩, .slice (some ⟨g2, 0, none⟩) 1 cap2, .slice none 0 0]
    have hw67 : Below w6.heap.size w6 (w6.alloc (.cells #[.string ⟨#[]⟩, .string N, .string ⟨#[]⟩, .slice (some ⟨g2, 0, none⟩) 1 cap2, .slice none 0 0] 27)) := (Below.refl _ _).alloc (Nat.le_refl _) _
    obtain ⟨W, hW⟩ : ∃ W, W = w6.alloc (.cells #[.string ⟨#[]⟩, .string N, .string ⟨#[]⟩, .slice (some ⟨g2, 0, none⟩) 1 cap2, .slice none 0 0] 27) := ⟨_, rfl⟩
    rw [← hW] at hz7 hz8 hw67 ⊢
    obtain ⟨g8, hg8⟩ : ∃ g, g = w6.heap.size := ⟨_, rfl⟩
    obtain ⟨g7, hg7⟩ : ∃ g, g = w.heap.size := ⟨_, rfl⟩
    rw [← hg8] at hz8 ⊢
    rw [← hg7] at hz7 ⊢
    have a0 := hz7.cell 0
    have a1 := hz7.cell 1
    have a2 := hz7.cell 2
    have a3 := hz7.cell 3
    have a4 := hz7.cell 4
    have e0 := hz8.cell 0
    have e1 := hz8.cell 1
    have e2 := hz8.cell 2
    have e3 := hz8.cell 3
    have e4 := hz8.cell 4
    have z0 := hz7.frozen 0
    have z1 := hz7.frozen 1
    have z2 := hz7.frozen 2
    have z3 := hz7.frozen 3
    have z4 := hz7.frozen 4
    replace hz7 := Lib.hid hz7
    replace hz8 := Lib.hid hz8
    replace hW := Lib.hid hW
    replace hw67 := Lib.hid hw67
    replace hg7 := Lib.hid hg7
    replace hg8 := Lib.hid hg8
    replace F := Lib.hid F
    go_region
    have hBV := Lib.hid (((((((Below.refl w.heap.size W).setCell (p := ⟨g7, 0, none⟩) (Nat.le_of_eq hg7.out.symm) (.string ⟨#[]⟩)).setCell (p := ⟨g7, 1, none⟩) (Nat.le_of_eq hg7.out.symm) (.string N)).setCell (p := ⟨g7, 2, none⟩) (Nat.le_of_eq hg7.out.symm) (.string ⟨#[]⟩)).setCell (p := ⟨g7, 3, none⟩) (Nat.le_of_eq hg7.out.symm) (.slice (some ⟨g2, 0, none⟩) 1 cap2)).setCell (p := ⟨g7, 4, none⟩) (Nat.le_of_eq hg7.out.symm) (.slice none 0 0)).drew)
    have hV := (((((hz7.out.set_ 0 (.string ⟨#[]⟩)).set_ 1 (.string N)).set_ 2 (.string ⟨#[]⟩)).set_ 3 (.slice (some ⟨g2, 0, none⟩) 1 cap2)).set_ 4 (.slice none 0 0)).drew
    have hSV0 : Save g7 W ((((((W.setCell ⟨g7, 0, none⟩ (.string ⟨#[]⟩)).setCell ⟨g7, 1, none⟩ (.string N)).setCell ⟨g7, 2, none⟩ (.string ⟨#[]⟩)).setCell ⟨g7, 3, none⟩ (.slice (some ⟨g2, 0, none⟩) 1 cap2)).setCell ⟨g7, 4, none⟩ (.slice none 0 0)).drew) := (put5_save W g7 (.string ⟨#[]⟩) (.string N) (.string ⟨#[]⟩) (.slice (some ⟨g2, 0, none⟩) 1 cap2) (.slice none 0 0)).drawn 1
    have hSV := Lib.hid hSV0
    clear hSV0
    have hWs : W.heap.size = g8 + 1 := by rw [hW.out, hg8.out, World.size_alloc]
    replace hWs := Lib.hid hWs
    generalize ((((((W.setCell ⟨g7, 0, none⟩ (.string ⟨#[]⟩)).setCell ⟨g7, 1, none⟩ (.string N)).setCell ⟨g7, 2, none⟩ (.string ⟨#[]⟩)).setCell ⟨g7, 3, none⟩ (.slice (some ⟨g2, 0, none⟩) 1 cap2)).setCell ⟨g7, 4, none⟩ (.slice none 0 0)).drew) = V at *
    have r0 := hV.cell 0
    have r1 := hV.cell 1
    have r2 := hV.cell 2
    have r3 := hV.cell 3
    have r4 := hV.cell 4
    clear a0 a1 a2 a3 a4 e0 e1 e2 e3 e4 z0 z1 z2 z3 z4 hV
    go_wp2
    refine bodyPost_ret (v := .tuple #[.string ⟨#[]⟩, .string N, .bool false, .agg #[.string ⟨#[]⟩, .string N, .string ⟨#[]⟩, .slice (some ⟨g2, 0, none⟩) 1 cap2, .slice none 0 0], .int .i64 0]) (by simp [results, Tryd.results51, go_sem, r0, r1, r2, r3, r4]) rfl ⟨some ⟨g2, 0, none⟩, 1, cap2, [g2], rfl, ?_, ?_, ⟨q3 + 1, ?_, hq3.out.app (s := [62])⟩, ?_⟩
    · refine .inr ⟨g2, cap2, rfl, ?_, rfl⟩
      have e1 : atV [(an, av)] = [.string ⟨#[]⟩, .string NA, .string VA] := by show [str [], str an, str av] = _; rw [hNA2.out, hVA2.out]; rfl
      rw [e1]
      have hk : V.heap[g2]? = w6.heap[g2]? := (hSV.out.block g2 (by rw [hWs.out, hg8.out]; omega) (by rw [hg7.out]; omega)).trans (hw67.out.block g2 hg2l)
      exact own_same hown2.out hk
    · intro k hk
      simp at hk
      subst hk
      have := hSV.out.size
      have e2 := hWs.out
      have e3 := hg8.out
      omega
    · exact ((h5.out.below b6.out).below hw67.out).belowB hBV.out hLlt hRlt hAlt.out
    · exact ((Fr.of_below hb0.out).trans (F.out.trans (Fr.of_below hw67.out))).tail hBV.out
  | shut r0 _ _ r1 r2 hn hne hdr hno hA =>
    have m1 : Calls Tryd.prog 54 #[.pointer (some ⟨L, 0, none⟩), .string ⟨#[60]⟩] _ fun e w' => e = .returned (.bool true) ∧ RS w' L R A c bs (p + 1) many ∧ Fr L R _ w' := rs_yes h0 ⟨#[60]⟩ r0 (by decide) (by decide) hr.eq
    have hr1 : Rest bs (p + 1) r0 := hr.app (s := [60])
    have cf := fun w1 (h1 : RS w1 L R A c bs (p + 1) many) => xml_full h1 hr1 hn hne (by rw [hdr]; exact hno)
    simp only [hdr, hN2] at cf
    have ca := fun w2 q (h2 : RS w2 L R A c bs q (many + 1)) (hq : Rest bs q r1) => xml_attrs_one h2 hq hA
    simp only [hNA2, hVA2] at ca
    have hax := atts_ne hA
    have haxB : (NA.toList == [120, 109, 108, 110, 115]) = false := by
      have := str_ne (a := NA) (b := ⟨#[120, 109, 108, 110, 115]⟩) (by rw [← hNA]; simpa using hax)
      rw [ba_toList] at this
      exact this
    have m2 : ∀ w3 q, RS w3 L R A c bs q (many + 1) → Rest bs q (47 :: 62 :: r') → Calls Tryd.prog 54 #[.pointer (some ⟨L, 0, none⟩), .string ⟨#[47]⟩] w3 fun e w' => e = .returned (.bool true) ∧ RS w' L R A c bs (q + 1) (many + 1) ∧ Fr L R w3 w' := fun w3 q h3 hq => rs_yes h3 ⟨#[47]⟩ (62 :: r') (by decide) (by decide) hq.eq
    have m3 : ∀ w3 q, RS w3 L R A c bs q (many + 1) → Rest bs q (62 :: r') → Calls Tryd.prog 54 #[.pointer (some ⟨L, 0, none⟩), .string ⟨#[62]⟩] w3 fun e w' => e = .returned (.bool true) ∧ RS w' L R A c bs (q + 1) (many + 1) ∧ Fr L R w3 w' := fun w3 q h3 hq => rs_yes h3 ⟨#[62]⟩ r' (by decide) (by decide) hq.eq
    have cn : ∀ w5 q, RS w5 L R A c bs q (many + 1) → ∀ ga cpa, 1 ≤ cpa → w5.cell? ⟨ga, 0, none⟩ = some (.string ⟨#[]⟩) → w5.cell? ⟨ga, 1, none⟩ = some (.string NA) → w5.cell? ⟨ga, 2, none⟩ = some (.string VA) → Calls Tryd.prog 62 #[.pointer (some ⟨R, 0, none⟩), .string ⟨#[]⟩, .string N, .slice (some ⟨ga, 0, none⟩) 1 cpa] w5 fun e w' => ∃ g2 cap2, e = .returned (.tuple #[.agg #[.string ⟨#[]⟩, .string N, .string ⟨#[]⟩, .slice (some ⟨g2, 0, none⟩) 1 cap2, .slice none 0 0], .int .i64 0]) ∧
      w5.heap.size ≤ g2 ∧ g2 < w'.heap.size ∧ w'.ownsRow 0 34 3 (.slice (some ⟨g2, 0, none⟩) 1 cap2) 1 [.string ⟨#[]⟩, .string NA, .string VA] ∧ Below w5.heap.size w5 w' := fun w5 q h5 ga cpa hcp t0 t1 t2 => xml_node_one N ga cpa NA VA h5 haxB hcp t0 t1 t2
    replace cf := Lib.hid cf
    replace ca := Lib.hid ca
    replace m2 := Lib.hid m2
    replace m3 := Lib.hid m3
    replace cn := Lib.hid cn
    have h0f := Lib.hid (Fr.refl L R (w.alloc (.cells #[.string ⟨#[]⟩, .string ⟨#[]⟩, .string ⟨#[]⟩, .slice none 0 0, .slice none 0 0] 27)))
    replace h0 := Lib.hid h0
    replace hnew := Lib.hid hnew
    replace hb0 := Lib.hid hb0
    clear hn hne hdr hno hA h hr hr1 hN hN2 hax haxB
    replace hNA := Lib.hid hNA
    replace hVA := Lib.hid hVA
    replace hNA2 := Lib.hid hNA2
    replace hVA2 := Lib.hid hVA2
    go_enter Tryd.func51, Tryd.ntmps51
    go_wp2_with (first
      | (go_at_call 54; (with_reducible refine m1.mono ?_); rintro e w1 ⟨rfl, h1, f1⟩; have k2 := cf.out w1 h1; replace f1 := Lib.hid f1; replace h1 := Lib.hid h1; clear m1)
      | (go_at_call 53; (with_reducible refine k2.mono ?_); rintro e w2 ⟨rfl, ⟨⟨q, h2, hq⟩, f2⟩⟩; have c21 := h2.rdr.cell 1; have f21 := h2.rdr.frozen 1; have h2b := h2.bump; have k3 := ca.out _ q h2b hq; replace f2 := Lib.hid f2; replace h2 := Lib.hid h2; replace h2b := Lib.hid h2b; replace hq := Lib.hid hq)
      | (go_at_call 61; (with_reducible refine k3.mono ?_); rintro e w3 ⟨ga, cpa, rfl, hcp, hga, t30, t31, t32, ⟨⟨q3, h3, hq3⟩, f3⟩⟩; have hgaB : w.heap.size ≤ ga := Nat.le_trans (Nat.le_trans (by rw [World.size_alloc]; exact Nat.le_succ _) (f1.out.trans f2.out).size) (Nat.le_trans (Fr.bump (L := L) (R := R) w2 (.int .i64 ((many : Int) + 1))).size hga); have hgl := cell_lt t30; have c3 := h3.rdr.cell 0; have k4 := m2.out w3 q3 h3 hq3; replace f3 := Lib.hid f3; replace h3 := Lib.hid h3; replace hq3 := Lib.hid hq3)
      | (go_at_call 54; (with_reducible refine k4.mono ?_); rintro e w4 ⟨rfl, h4, f4⟩; have c4 := h4.rdr.cell 0; have hq4 := hq3.out.app (s := [47]); have k5 := m3.out w4 (q3 + 1) h4 hq4; replace hq4 := Lib.hid hq4; replace f4 := Lib.hid f4; replace h4 := Lib.hid h4; clear k4)
      | (go_at_call 54; (with_reducible refine k5.mono ?_); rintro e w5 ⟨rfl, h5, f5⟩; have f45 := f4.out.trans f5; have hb45 := f45.block ga hgl (by omega) (by omega); have t50 : w5.cell? ⟨ga, 0, none⟩ = some (.string ⟨#[]⟩) := (World.cell?_of_block hb45).trans t30; have t51 : w5.cell? ⟨ga, 1, none⟩ = some (.string NA) := (World.cell?_of_block hb45).trans t31; have t52 : w5.cell? ⟨ga, 2, none⟩ = some (.string VA) := (World.cell?_of_block hb45).trans t32; have k6 := cn.out w5 _ h5 ga cpa hcp t50 t51 t52; have hw5 : w.heap.size < w5.heap.size := Nat.lt_of_le_of_lt hgaB (Nat.lt_of_lt_of_le hgl f45.size); replace f45 := Lib.hid f45; replace hb45 := Lib.hid hb45; replace f5 := Lib.hid f5; replace h5 := Lib.hid h5)
      | (go_at_call 62; (with_reducible refine k6.mono ?_); rintro e w6 ⟨g2, cap2, rfl, hg2, hg2l, hown2, b6⟩; replace hown2 := Lib.hid hown2; replace b6 := Lib.hid b6))
    have F : Fr L R _ w6 := ((((h0f.out.trans (f1.out.trans f2.out)).trans (Fr.bump w2 (.int .i64 ((many : Int) + 1)))).trans f3.out).trans (f4.out.trans f5.out)).trans (Fr.of_below b6.out)
    have hz7 : Blk w6 w.heap.size 27 #[.string ⟨#[]⟩, .string ⟨#[]⟩, .string ⟨#[]⟩, .slice none 0 0, .slice none 0 0] := (F.block w.heap.size (by simp) (by omega) (by omega)).trans hnew.out
    have hz7 := hz7.alloc (.cells #[.string ⟨#[]⟩, .string N, .string ⟨#[]⟩, .slice (some ⟨g2, 0, none⟩) 1 cap2, .slice none 0 0] 27)
    have hz8 := Blk.new w6 27 #[.string ⟨#[]⟩, .string N, .string ⟨#[]⟩, .slice (some ⟨g2, 0, none⟩) 1 cap2, .slice none 0 0]
    have hw67 : Below w6.heap.size w6 (w6.alloc (.cells #[.string ⟨#[]⟩, .string N, .string ⟨#[]⟩, .slice (some ⟨g2, 0, none⟩) 1 cap2, .slice none 0 0] 27)) := (Below.refl _ _).alloc (Nat.le_refl _) _
    obtain ⟨W, hW⟩ : ∃ W, W = w6.alloc (.cells #[.string ⟨#[]⟩, .string N, .string ⟨#[]⟩, .slice (some ⟨g2, 0, none⟩) 1 cap2, .slice none 0 0] 27) := ⟨_, rfl⟩
    rw [← hW] at hz7 hz8 hw67 ⊢
    obtain ⟨g8, hg8⟩ : ∃ g, g = w6.heap.size := ⟨_, rfl⟩
    obtain ⟨g7, hg7⟩ : ∃ g, g = w.heap.size := ⟨_, rfl⟩
    rw [← hg8] at hz8 ⊢
    rw [← hg7] at hz7 ⊢
    have a0 := hz7.cell 0
    have a1 := hz7.cell 1
    have a2 := hz7.cell 2
    have a3 := hz7.cell 3
    have a4 := hz7.cell 4
    have e0 := hz8.cell 0
    have e1 := hz8.cell 1
    have e2 := hz8.cell 2
    have e3 := hz8.cell 3
    have e4 := hz8.cell 4
    have z0 := hz7.frozen 0
    have z1 := hz7.frozen 1
    have z2 := hz7.frozen 2
    have z3 := hz7.frozen 3
    have z4 := hz7.frozen 4
    replace hz7 := Lib.hid hz7
    replace hz8 := Lib.hid hz8
    replace hW := Lib.hid hW
    replace hw67 := Lib.hid hw67
    replace hg7 := Lib.hid hg7
    replace hg8 := Lib.hid hg8
    replace F := Lib.hid F
    go_region
    have hBV := Lib.hid (((((((Below.refl w.heap.size W).setCell (p := ⟨g7, 0, none⟩) (Nat.le_of_eq hg7.out.symm) (.string ⟨#[]⟩)).setCell (p := ⟨g7, 1, none⟩) (Nat.le_of_eq hg7.out.symm) (.string N)).setCell (p := ⟨g7, 2, none⟩) (Nat.le_of_eq hg7.out.symm) (.string ⟨#[]⟩)).setCell (p := ⟨g7, 3, none⟩) (Nat.le_of_eq hg7.out.symm) (.slice (some ⟨g2, 0, none⟩) 1 cap2)).setCell (p := ⟨g7, 4, none⟩) (Nat.le_of_eq hg7.out.symm) (.slice none 0 0)).drew)
    have hV := (((((hz7.out.set_ 0 (.string ⟨#[]⟩)).set_ 1 (.string N)).set_ 2 (.string ⟨#[]⟩)).set_ 3 (.slice (some ⟨g2, 0, none⟩) 1 cap2)).set_ 4 (.slice none 0 0)).drew
    have hSV0 : Save g7 W ((((((W.setCell ⟨g7, 0, none⟩ (.string ⟨#[]⟩)).setCell ⟨g7, 1, none⟩ (.string N)).setCell ⟨g7, 2, none⟩ (.string ⟨#[]⟩)).setCell ⟨g7, 3, none⟩ (.slice (some ⟨g2, 0, none⟩) 1 cap2)).setCell ⟨g7, 4, none⟩ (.slice none 0 0)).drew) := (put5_save W g7 (.string ⟨#[]⟩) (.string N) (.string ⟨#[]⟩) (.slice (some ⟨g2, 0, none⟩) 1 cap2) (.slice none 0 0)).drawn 1
    have hSV := Lib.hid hSV0
    clear hSV0
    have hWs : W.heap.size = g8 + 1 := by rw [hW.out, hg8.out, World.size_alloc]
    replace hWs := Lib.hid hWs
    generalize ((((((W.setCell ⟨g7, 0, none⟩ (.string ⟨#[]⟩)).setCell ⟨g7, 1, none⟩ (.string N)).setCell ⟨g7, 2, none⟩ (.string ⟨#[]⟩)).setCell ⟨g7, 3, none⟩ (.slice (some ⟨g2, 0, none⟩) 1 cap2)).setCell ⟨g7, 4, none⟩ (.slice none 0 0)).drew) = V at *
    have r0 := hV.cell 0
    have r1 := hV.cell 1
    have r2 := hV.cell 2
    have r3 := hV.cell 3
    have r4 := hV.cell 4
    clear a0 a1 a2 a3 a4 e0 e1 e2 e3 e4 z0 z1 z2 z3 z4 hV
    go_wp2
    refine bodyPost_ret (v := .tuple #[.string ⟨#[]⟩, .string N, .bool true, .agg #[.string ⟨#[]⟩, .string N, .string ⟨#[]⟩, .slice (some ⟨g2, 0, none⟩) 1 cap2, .slice none 0 0], .int .i64 0]) (by simp [results, Tryd.results51, go_sem, r0, r1, r2, r3, r4]) rfl ⟨some ⟨g2, 0, none⟩, 1, cap2, [g2], rfl, ?_, ?_, ⟨q3 + 1 + 1, ?_, hq4.out.app (s := [62])⟩, ?_⟩
    · refine .inr ⟨g2, cap2, rfl, ?_, rfl⟩
      have e1 : atV [(an, av)] = [.string ⟨#[]⟩, .string NA, .string VA] := by show [str [], str an, str av] = _; rw [hNA2.out, hVA2.out]; rfl
      rw [e1]
      have hk : V.heap[g2]? = w6.heap[g2]? := (hSV.out.block g2 (by rw [hWs.out, hg8.out]; omega) (by rw [hg7.out]; omega)).trans (hw67.out.block g2 hg2l)
      exact own_same hown2.out hk
    · intro k hk
      simp at hk
      subst hk
      have := hSV.out.size
      have e2 := hWs.out
      have e3 := hg8.out
      omega
    · exact ((h5.out.below b6.out).below hw67.out).belowB hBV.out hLlt hRlt hAlt.out
    · exact ((Fr.of_below hb0.out).trans (F.out.trans (Fr.of_below hw67.out))).tail hBV.out
end Go.Proofs.YtgomlebemefdcaaDoor

/- The beginning's mark, with one attribute or none. No condition. -/
namespace Go.Proofs.YtgomlebemefdcaaDoor
open Go Go.RowKit Go.Wk Go.Xt Go.Xe
theorem xml_mark {w : World} {L R c p many : Nat} {A : Option Addr} {bs r r' nm : List UInt8} {l : List (List UInt8 × List UInt8)} {closed : Bool} (d : Nat) (hd0 : 0 < d) (hd : d ≤ 1000) (hm : many < 4000) (h : RS w L R A c bs p many) (hr : Rest bs p r) (hM : Xe.Mark r nm l closed r') :
    Calls Tryd.prog 51 #[.pointer (some ⟨R, 0, none⟩), .int .i64 d] w (MarkG w L R A c bs many ⟨nm.toArray⟩ l closed r') := by
  match l, hM with
  | [], hM =>
    refine (xml_mark_nil d hd0 hd hm h hr hM).mono ?_
    rintro e w' ⟨rfl, hE⟩
    exact ⟨none, 0, 0, [], rfl, .inl ⟨rfl, rfl, rfl⟩, by simp, hE⟩
  | [a], hM => exact xml_mark_one d hd0 hd hm h hr hM
  | a :: b :: l, hM =>
    exfalso
    cases hM with
    | «open» _ _ _ _ _ _ _ _ _ hA => cases hA
    | shut _ _ _ _ _ _ _ _ _ hA => cases hA
end Go.Proofs.YtgomlebemefdcaaDoor

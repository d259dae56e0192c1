/- slices.Sort of a few bytes, walked. No condition. -/
import Derived.Test.YtmgpjhpeglkeeaaGreatDoorKyS
import Derived.Sort.WalkA
import Derived.Ground.So_math_bits_Len
import Derived.KernelRfl
import Derived.Lib.Hide
import Derived.Test.YtmgpjhpeglkeeaaGreatDoorProg
set_option linter.unusedVariables false
namespace Go.Proofs.YtmgpjhpeglkeeaaGreatDoor
open Go Go.Proofs Go.RowKit Go.Sort
set_option maxHeartbeats 4000000
set_option maxRecDepth 100000
theorem nan_u (x : Int) (w : World) : Calls Tryz.prog 248 #[.int .u8 x] w fun e w' => e = .returned (.bool false) ∧ w' = w := by
  go_enter Tryz.func248, Tryz.ntmps248
  go_wp2
  go_ret
  exact ⟨by simp, rfl⟩
theorem less_u (x y : Int) (w : World) : Calls Tryz.prog 217 #[.int .u8 x, .int .u8 y] w fun e w' => e = .returned (.bool (Sort.ltInt x y)) ∧ w' = w := by
  go_enter Tryz.func217, Tryz.ntmps217
  go_wp2_with (go_at_call 248; refine (nan_u _ _).mono ?_; rintro e w' ⟨rfl, rfl⟩)
  go_ret
  exact ⟨rfl, rfl⟩
theorem ins_u (blk off cap a b : Nat) (d : Array Int) (w : World) (hH : Holds (Value.int .u8) w blk off d) (hab : a ≤ b) (hb : b ≤ d.size) (hsz : d.size < 4611686018427387904) :
    Calls Tryz.prog 211 #[.slice (some ⟨blk, off, none⟩) d.size cap, .int .i64 a, .int .i64 b] w fun e w' =>
      e = .returned (.tuple #[]) ∧ ∃ n, w' = putRow (Value.int .u8) (Sort.ahead w n) blk off (Sort.insertionSort ltInt d a b) := by
  go_enter Tryz.func211, Tryz.ntmps211
  go_wp2
  go_loopw [6] (fun vi wr => ∃ (i n : Nat) (dk : Array Int), vi = .int .i64 i ∧ a < i ∧ i ≤ b + 1 ∧ dk.size = d.size ∧ wr = putRow (Value.int .u8) (Sort.ahead w n) blk off dk ∧
      insOuter ltInt a b i dk = insOuter ltInt a b (a + 1) d) (fun vi _ => b + 1 - (RowKit.intOf vi).toNat)
  case atStart => exact ⟨a + 1, 0, d, by go_num, by omega, by omega, rfl, (putRow_self _ _ _ _ _ hH).symm, rfl⟩
  case round =>
    obtain ⟨i, n, dk, rfl, hai, hib, hsk, hwr, hO⟩ := hrel
    have HO : Hid (insOuter ltInt a b i dk = insOuter ltInt a b (a + 1) d) := hO
    clear hO
    go_wp2
    · go_loopw [7] (fun vj wr2 => ∃ (j m : Nat) (dj : Array Int), vj = .int .i64 j ∧ a ≤ j ∧ j ≤ i ∧ dj.size = d.size ∧ wr2 = putRow (Value.int .u8) (Sort.ahead w m) blk off dj ∧
          insInner ltInt a j dj = insInner ltInt a i dk) (fun vj _ => (RowKit.intOf vj).toNat)
      case atStart => exact ⟨i, n, dk, rfl, by omega, Nat.le_refl _, hsk, rfl, rfl⟩
      case round =>
        obtain ⟨j, m, dj, rfl, haj, hji, hsj, hw2, hI⟩ := hrel
        have hlt : i < b := by assumption
        obtain ⟨G, hG⟩ : ∃ G : Nat → Int, ∀ t, G t = dj[t]! := ⟨fun t => dj[t]!, fun _ => rfl⟩
        have hcw : ∀ t, t < d.size → wr.cell? ⟨blk, off + t, none⟩ = some (.int .u8 (G t)) := fun t ht => by
          rw [hw2, hG]; exact cell?_putRow _ _ _ _ d dj (holds_ahead _ _ _ _ _ _ hH) hsj t (by omega)
        have hfw : ∀ t, t < d.size → wr.frozen? ⟨blk, off + t, none⟩ = false := fun t ht => by
          rw [hw2, frozen?_putRow]; exact ((holds_ahead _ _ m _ _ _ hH) t ht).2
        have HW : Hid (wr = putRow (Value.int .u8) (Sort.ahead w m) blk off dj) := hw2
        have HG : Hid (∀ t, G t = dj[t]!) := hG
        have HI : Hid (insInner ltInt a j dj = insInner ltInt a i dk) := hI
        clear hw2 hG hI hH
        have out : (j ≤ a ∨ ltInt dj[j]! dj[j - 1]! = false) → ∀ q, ∃ i' n' dk', Value.int .i64 ((i : Int) + 1) = .int .i64 (i' : Nat) ∧ a < i' ∧ i' ≤ b + 1 ∧ dk'.size = d.size ∧
            wr.drewN q = putRow (Value.int .u8) (Sort.ahead w n') blk off dk' ∧ insOuter ltInt a b i' dk' = insOuter ltInt a b (a + 1) d := fun hs q =>
          ⟨i + 1, m + q, dj, by go_num, by omega, by omega, hsj, by rw [HW.out]; exact putRow_drewN _ _ _ _ _ _ _,
            by rw [← HO.out, insOuter_go _ _ _ _ _ hlt, ← HI.out, insInner_stop _ _ _ _ hs]⟩
        have OUT : Hid _ := out
        clear out
        go_wp2
        by_cases hja : a < j
        · go_quiet (first | (go_at_call 217; refine Calls.quiet_of_same (less_u _ _ _)))
          go_wp2
          · have hl : ltInt (G j) (G (j - 1)) = true := by assumption
            go_region
            all_goals go_wp2
            go_roundw
            case rel =>
              refine ⟨j - 1, m + (nq + 1), swp dj j (j - 1), by congr 1; omega, by omega, by omega, by rw [size_swp]; exact hsj, ?_, ?_⟩
              · rw [HW.out, HG.out, HG.out]
                exact swap_worldA _ w m (nq + 1) blk off dj j (j - 1) (by omega) (by omega)
              · rw [← HI.out, insInner_go ltInt a j dj hja (by rw [← HG.out, ← HG.out]; exact hl)]
            case measure => simp [RowKit.intOf]; omega
          · have hl : ltInt (G j) (G (j - 1)) = false := by assumption
            go_roundw
            case rel => exact OUT.out (Or.inr (by rw [← HG.out, ← HG.out]; exact hl)) nq
            case measure => simp [RowKit.intOf]; omega
        · go_quiet (first | (go_at_call 217; refine Calls.quiet_of_same (less_u _ _ _)))
          go_wp2
          go_roundw
          case rel => exact OUT.out (Or.inl (by omega)) nq
          case measure => simp [RowKit.intOf]; omega
    · have hge : ¬ i < b := by assumption
      go_end0
      exact ⟨rfl, n, by unfold Sort.insertionSort; rw [← HO.out, insOuter_stop _ _ _ _ _ hge]⟩
theorem pdq_u (blk off cap limit : Nat) (d : Array Int) (w : World) (hH : Holds (Value.int .u8) w blk off d) (h12 : d.size ≤ 12) :
    Calls Tryz.prog 158 #[.slice (some ⟨blk, off, none⟩) d.size cap, .int .i64 0, .int .i64 d.size, .int .i64 limit] w fun e w' =>
      e = .returned (.tuple #[]) ∧ ∃ n, w' = putRow (Value.int .u8) (Sort.ahead w n) blk off (Sort.insertionSort ltInt d 0 d.size) := by
  have ci : ∀ W, W = w → Calls Tryz.prog 211 #[.slice (some ⟨blk, off, none⟩) d.size cap, .int .i64 0, .int .i64 d.size] W fun e w' => e = .returned (.tuple #[]) ∧ ∃ n, w' = putRow (Value.int .u8) (Sort.ahead w n) blk off (Sort.insertionSort ltInt d 0 d.size) := fun W h => by
    rw [h]; exact ins_u blk off cap 0 d.size d w hH (Nat.zero_le _) (Nat.le_refl _) (by omega)
  have ci2 := ci w rfl
  clear ci hH
  obtain ⟨m, hm⟩ : ∃ m, m = d.size := ⟨_, rfl⟩
  rw [← hm] at ci2 h12 ⊢
  replace hm := Lib.hid hm
  go_enter Tryz.func158, Tryz.ntmps158
  go_wp2
  refine wp_loop_rounds 1 ?_
  rw [rounds_succ]
  go_wp2_with (first | (go_at_call 211; refine ci2.mono ?_; rintro e w' ⟨rfl, n, rfl⟩))
  refine bodyPost_ret (results_none rfl _ _ _) rfl ?_
  exact ⟨rfl, n, rfl⟩
theorem len64 (n : Nat) (h : n ≤ 12) (w : World) : ∃ k : Nat, Calls Tryz.prog 210 #[.int .u64 (n : Int)] w fun e w' => e = .returned (.int .i64 k) ∧ w' = w := by
  have hn : n = 0 ∨ n = 1 ∨ n = 2 ∨ n = 3 ∨ n = 4 ∨ n = 5 ∨ n = 6 ∨ n = 7 ∨ n = 8 ∨ n = 9 ∨ n = 10 ∨ n = 11 ∨ n = 12 := by omega
  refine ⟨if n = 0 then 0 else if n = 1 then 1 else if n < 4 then 2 else if n < 8 then 3 else 4, ?_⟩
  rcases hn with rfl | rfl | rfl | rfl | rfl | rfl | rfl | rfl | rfl | rfl | rfl | rfl | rfl
  all_goals
    go_enter Tryz.func210, Tryz.ntmps210
    go_wp2
    go_ret
    exact ⟨by kernel_rfl, rfl⟩
theorem len_few (n : Nat) (h : n ≤ 12) (w : World) : ∃ k : Nat, Calls Tryz.prog 156 #[.int .u64 (n : Int)] w fun e w' => e = .returned (.int .i64 k) ∧ w' = w := by
  obtain ⟨k, ck⟩ := len64 n h w
  refine ⟨k, ?_⟩
  obtain ⟨m, hm⟩ : ∃ m : Int, m = (n : Int) := ⟨_, rfl⟩
  have h1 : 0 ≤ m ∧ m ≤ 12 := by omega
  rw [← hm] at ck ⊢
  clear hm
  go_enter Tryz.func156, Tryz.ntmps156
  go_wp2_with (go_at_call 210; refine ck.mono ?_; rintro e w' ⟨rfl, rfl⟩)
  go_ret
  exact ⟨rfl, rfl⟩
theorem sort_u (blk off cap : Nat) (d : Array Int) (w : World) (hH : Holds (Value.int .u8) w blk off d) (h12 : d.size ≤ 12) :
    Calls Tryz.prog 109 #[.slice (some ⟨blk, off, none⟩) d.size cap] w fun e w' => e = .returned (.tuple #[]) ∧ ∃ n, w' = putRow (Value.int .u8) (Sort.ahead w n) blk off (Sort.insertionSort ltInt d 0 d.size) := by
  obtain ⟨k, ck⟩ := len_few d.size h12 w
  have cq := fun limit => pdq_u blk off cap limit d w hH h12
  clear hH
  obtain ⟨m, hm⟩ : ∃ m, m = d.size := ⟨_, rfl⟩
  rw [← hm] at ck cq h12 ⊢
  replace hm := Lib.hid hm
  go_enter Tryz.func109, Tryz.ntmps109
  go_wp2_with (first
    | (go_at_call 156; refine ck.mono ?_; rintro e w' ⟨rfl, rfl⟩)
    | (go_at_call 158; refine (cq k).mono ?_; rintro e w' ⟨rfl, n, rfl⟩))
  go_end0
  exact ⟨rfl, n, rfl⟩
theorem ins_nil (p : Option Addr) (cap : Nat) (w : World) : Calls Tryz.prog 211 #[.slice p 0 cap, .int .i64 0, .int .i64 0] w fun e w' => e = .returned (.tuple #[]) ∧ w' = w := by
  go_enter Tryz.func211, Tryz.ntmps211
  go_wp2
  refine wp_loop_rounds 1 ?_
  rw [rounds_succ]
  go_wp2
  go_end0
  exact ⟨rfl, rfl⟩
theorem pdq_nil (p : Option Addr) (cap limit : Nat) (w : World) : Calls Tryz.prog 158 #[.slice p 0 cap, .int .i64 0, .int .i64 0, .int .i64 limit] w fun e w' => e = .returned (.tuple #[]) ∧ w' = w := by
  go_enter Tryz.func158, Tryz.ntmps158
  go_wp2
  refine wp_loop_rounds 1 ?_
  rw [rounds_succ]
  go_wp2_with (first | (go_at_call 211; refine (ins_nil p cap _).mono ?_; rintro e w' ⟨rfl, rfl⟩))
  refine bodyPost_ret (results_none rfl _ _ _) rfl ?_
  exact ⟨rfl, rfl⟩
theorem sort_nil (p : Option Addr) (cap : Nat) (w : World) : Calls Tryz.prog 109 #[.slice p 0 cap] w fun e w' => e = .returned (.tuple #[]) ∧ w' = w := by
  obtain ⟨k, ck⟩ := len_few 0 (by omega) w
  have cq := pdq_nil p cap k w
  go_enter Tryz.func109, Tryz.ntmps109
  go_wp2_with (first
    | (go_at_call 156; refine ck.mono ?_; rintro e w' ⟨rfl, rfl⟩)
    | (go_at_call 158; refine cq.mono ?_; rintro e w' ⟨rfl, rfl⟩))
  go_end0
  exact ⟨rfl, rfl⟩
end Go.Proofs.YtmgpjhpeglkeeaaGreatDoor

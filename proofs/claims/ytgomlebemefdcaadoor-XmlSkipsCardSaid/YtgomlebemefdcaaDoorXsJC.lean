/- Walks and laws, joined: part C. No condition. -/
import Derived.Test.YtgomlebemefdcaaDoorXsJB
import Derived.Deep.DeepCutAuto
import Derived.Orders
import Derived.Tactics2
import Derived.ProofKit
set_option linter.unusedSimpArgs false
set_option linter.unusedVariables false
/- What attributes say of prefixes: one attribute that says nothing. No condition. -/
namespace Go.Proofs.YtgomlebemefdcaaDoor
open Go Go.RowKit Go.Wk Go.Xt Go.Xe
abbrev z5 : Array Value := #[.string ⟨#[]⟩, .string ⟨#[]⟩, .string ⟨#[]⟩, .slice none 0 0, .slice none 0 0]
def put5 (W : World) (g : Nat) (v0 v1 v2 v3 v4 : Value) : World := ((((W.setCell ⟨g, 0, none⟩ v0).setCell ⟨g, 1, none⟩ v1).setCell ⟨g, 2, none⟩ v2).setCell ⟨g, 3, none⟩ v3).setCell ⟨g, 4, none⟩ v4
theorem put5_save (W : World) (g : Nat) (v0 v1 v2 v3 v4 : Value) : Save g W (put5 W g v0 v1 v2 v3 v4) := (((((Save.refl g W).store 0 v0).store 1 v1).store 2 v2).store 3 v3).store 4 v4
theorem put5_blk {W : World} {g : Nat} {t : TypeId} {u0 u1 u2 u3 u4 : Value} (h : Blk W g t #[u0, u1, u2, u3, u4]) (v0 v1 v2 v3 v4 : Value) : Blk (put5 W g v0 v1 v2 v3 v4) g t #[v0, v1, v2, v3, v4] := ((((h.set_ 0 v0).set_ 1 v1).set_ 2 v2).set_ 3 v3).set_ 4 v4
set_option maxHeartbeats 1000000 in
set_option maxRecDepth 100000 in
theorem idx_nil {w : World} (A : Option Addr) (c : Nat) (f : Value) :
    Calls Tryd.prog 79 #[.slice A 0 c, f] w fun e w' => e = .returned (.int .i64 (-1)) ∧ w = w' := by
  go_enter Tryd.func79, Tryd.ntmps79
  go_wp2
  refine wp_loop_rounds 1 ?_; rw [rounds_succ]
  go_wp2
  go_ret
  exact ⟨rfl, rfl⟩
set_option maxHeartbeats 1000000 in
set_option maxRecDepth 100000 in
theorem cont_nil {w : World} (A : Option Addr) (c : Nat) (f : Value) :
    Calls Tryd.prog 75 #[.slice A 0 c, f] w fun e w' => e = .returned (.bool false) ∧ w = w' := by
  have ci := fun (w : World) => idx_nil (w := w) A c f
  go_enter Tryd.func75, Tryd.ntmps75
  go_wp2_with (go_at_call 79; (with_reducible refine (ci _).mono ?_); rintro e w1 ⟨rfl, rfl⟩)
  go_ret
  exact ⟨rfl, rfl⟩
set_option maxHeartbeats 1000000 in
set_option maxRecDepth 100000 in
theorem idx2_nil {w : World} (A : Option Addr) (c : Nat) (f : Value) :
    Calls Tryd.prog 77 #[.slice A 0 c, f] w fun e w' => e = .returned (.int .i64 (-1)) ∧ w = w' := by
  go_enter Tryd.func77, Tryd.ntmps77
  go_wp2
  refine wp_loop_rounds 1 ?_; rw [rounds_succ]
  go_wp2
  go_ret
  exact ⟨rfl, rfl⟩
set_option maxHeartbeats 1000000 in
set_option maxRecDepth 100000 in
theorem cont2_nil {w : World} (A : Option Addr) (c : Nat) (f : Value) :
    Calls Tryd.prog 69 #[.slice A 0 c, f] w fun e w' => e = .returned (.bool false) ∧ w = w' := by
  have ci := fun (w : World) => idx2_nil (w := w) A c f
  go_enter Tryd.func69, Tryd.ntmps69
  go_wp2_with (go_at_call 77; (with_reducible refine (ci _).mono ?_); rintro e w1 ⟨rfl, rfl⟩)
  go_ret
  exact ⟨rfl, rfl⟩
set_option maxHeartbeats 1000000 in
set_option maxRecDepth 100000 in
theorem xml_says {w : World} (N V : ByteArray) (hN : (N.toList == [120, 109, 108, 110, 115]) = false) :
    Calls Tryd.prog 68 #[.agg #[.string ⟨#[]⟩, .string N, .string V]] w fun e w' => e = .returned (.bool false) ∧ Below w.heap.size w w' := by
  go_enter Tryd.func68, Tryd.ntmps68
  go_wp2
  go_ret
  exact ⟨rfl, (Below.refl _ _).alloc (Nat.le_refl _) _⟩
set_option maxHeartbeats 2000000 in
set_option maxRecDepth 100000 in
theorem xml_bound_one {w : World} (R g cap : Nat) (N V : ByteArray) (hN : (N.toList == [120, 109, 108, 110, 115]) = false) (hcap : 1 ≤ cap)
    (h0 : w.cell? ⟨g, 0, none⟩ = some (.string ⟨#[]⟩)) (h1 : w.cell? ⟨g, 1, none⟩ = some (.string N)) (h2 : w.cell? ⟨g, 2, none⟩ = some (.string V)) :
    Calls Tryd.prog 66 #[.pointer (some ⟨R, 0, none⟩), .slice (some ⟨g, 0, none⟩) 1 cap] w fun e w' => e = .returned (.int .i64 0) ∧ Below w.heap.size w w' := by
  have hg := cell_lt h0
  have hb0 : Below w.heap.size w (w.alloc (.cells #[.string ⟨#[]⟩, .string N, .string V] 118)) := (Below.refl _ _).alloc (Nat.le_refl _) _
  have cc := fun (w : World) A c f => cont_nil (w := w) A c f
  have cy := fun (w : World) => xml_says (w := w) N V hN
  replace hb0 := Lib.hid hb0
  go_enter Tryd.func66, Tryd.ntmps66
  go_wp2
  refine wp_loop_rounds 2 ?_; rw [rounds_succ]
  go_wp2_with (first
    | (go_at_call 75; (with_reducible refine (cc _ _ _ _).mono ?_); rintro e w1 ⟨rfl, rfl⟩)
    | (go_at_call 68; (with_reducible refine (cy _).mono ?_); rintro e w2 ⟨rfl, b2⟩; replace b2 := Lib.hid b2))
  rw [rounds_succ]
  go_wp2
  go_ret
  exact ⟨rfl, bthen hb0.out b2.out⟩
set_option maxRecDepth 100000 in
theorem attr_info : ∃ i, Tryd.prog.info? 34 = some i ∧ i.zero = some (.agg #[.string ⟨#[]⟩, .string ⟨#[]⟩, .string ⟨#[]⟩]) ∧ i.size = 3 ∧ i.bytes = 48 := ⟨_, rfl, by kernel_rfl, by kernel_rfl, by kernel_rfl⟩
set_option maxRecDepth 100000 in
theorem at_info : ∃ i, Tryd.prog.info? 118 = some i ∧ i.zero = some (.agg #[.string ⟨#[]⟩, .string ⟨#[]⟩, .string ⟨#[]⟩]) ∧ i.size = 3 ∧ i.bytes = 48 := ⟨_, rfl, by kernel_rfl, by kernel_rfl, by kernel_rfl⟩
theorem sl_of {w : World} {B e s n : Nat} {v : Value} {xs : List Value} (h : w.ownsRow B e s v n xs) : ∃ a c, v = .slice a n c := by
  rcases h.2 with ⟨rfl, rfl⟩ | ⟨g, cap, cur, rfl, _⟩
  · exact ⟨none, 0, rfl⟩
  · exact ⟨_, _, rfl⟩
theorem own_at {w w' : World} {B e s n cap : Nat} {a : Option Addr} {xs : List Value} {k : Nat} (h : w.ownsRow B e s (.slice a n cap) n xs) (hn : 0 < n) (hat : (Value.slice a n cap).ownBlock = none ∨ (Value.slice a n cap).ownBlock = some k) : a = some ⟨k, 0, none⟩ ∧ k < w.heap.size ∧ (w'.heap[k]? = w.heap[k]? → w'.ownsRow 0 e s (.slice a n cap) n xs) := by
  rcases h.2 with ⟨e1, h0⟩ | ⟨g, cap', cur, e1, hB, hh, rest⟩
  · omega
  · cases e1
    rcases hat with h1 | h1
    · cases h1
    · cases h1
      refine ⟨rfl, ?_, fun hk => ⟨h.1, .inr ⟨_, _, cur, rfl, Nat.zero_le _, hk.trans hh, rest⟩⟩⟩
      rcases Nat.lt_or_ge g w.heap.size with h' | h'
      · exact h'
      · rw [Array.getElem?_eq_none h'] at hh; cases hh
theorem three_new (w : World) (v0 v1 v2 : Value) (t : TypeId) : ∀ j u, [v0, v1, v2][j]? = some u → (w.alloc (.cells #[v0, v1, v2] t)).cell? ((⟨w.heap.size, 0, none⟩ : Addr).add j) = some u := by
  intro j u hj
  rw [Lib.add_plain, alloc_cell, ← hj]
  match j with
  | 0 => rfl
  | 1 => rfl
  | 2 => rfl
  | _ + 3 => rfl
theorem three_one (a0 a1 a2 : ByteArray) : ∀ u ∈ [Value.string a0, .string a1, .string a2], u.oneCell' = true := by
  intro u hu
  simp at hu
  rcases hu with rfl | rfl | rfl <;> rfl
set_option maxHeartbeats 4000000 in
set_option maxRecDepth 100000 in
theorem xml_node_one {w : World} {L R c p many : Nat} {A : Option Addr} {bs : List UInt8} (M : ByteArray) (g cap : Nat) (N V : ByteArray) (h : RS w L R A c bs p many) (hN : (N.toList == [120, 109, 108, 110, 115]) = false) (hcap : 1 ≤ cap)
    (h0 : w.cell? ⟨g, 0, none⟩ = some (.string ⟨#[]⟩)) (h1 : w.cell? ⟨g, 1, none⟩ = some (.string N)) (h2 : w.cell? ⟨g, 2, none⟩ = some (.string V)) :
    Calls Tryd.prog 62 #[.pointer (some ⟨R, 0, none⟩), .string ⟨#[]⟩, .string M, .slice (some ⟨g, 0, none⟩) 1 cap] w fun e w' => ∃ g2 cap2, e = .returned (.tuple #[.agg #[.string ⟨#[]⟩, .string M, .string ⟨#[]⟩, .slice (some ⟨g2, 0, none⟩) 1 cap2, .slice none 0 0], .int .i64 0]) ∧
      w.heap.size ≤ g2 ∧ g2 < w'.heap.size ∧ w'.ownsRow 0 34 3 (.slice (some ⟨g2, 0, none⟩) 1 cap2) 1 [.string ⟨#[]⟩, .string N, .string V] ∧ Below w.heap.size w w' := by
  have hg := cell_lt h0
  have hb0 : Below w.heap.size w (w.alloc (.cells z5 27)) := (Below.refl _ _).alloc (Nat.le_refl _) _
  have hnew := Blk.new w 27 z5
  have hz0 : (w.alloc (.cells z5 27)).heap.size = w.heap.size + 1 := World.size_alloc _ _
  obtain ⟨W0, hW0⟩ : ∃ W, W = w.alloc (.cells z5 27) := ⟨_, rfl⟩
  have cbd := xml_bound_one (w := w.alloc (.cells z5 27)) R g cap N V hN hcap ((hb0.cell hg).trans h0) ((hb0.cell (p := ⟨g, 1, none⟩) hg).trans h1) ((hb0.cell (p := ⟨g, 2, none⟩) hg).trans h2)
  have csp := fun W (hb : Below w.heap.size w W) => xml_space_nil (h.below hb)
  have cc := fun (w : World) A c f => cont2_nil (w := w) A c f
  have cy := fun (w : World) => xml_says (w := w) N V hN
  obtain ⟨i0, hi0, hq0, hq1, hq2⟩ := attr_info
  replace csp := Lib.hid csp
  replace hb0 := Lib.hid hb0
  replace hnew := Lib.hid hnew
  replace hW0 := Lib.hid hW0
  replace hz0 := Lib.hid hz0
  replace hi0 := Lib.hid hi0
  replace hq0 := Lib.hid hq0
  replace hq1 := Lib.hid hq1
  replace hq2 := Lib.hid hq2
  go_enter Tryd.func62, Tryd.ntmps62
  go_wp2_with (first
    | (go_at_call 66; (with_reducible refine cbd.mono ?_); rintro e w1 ⟨rfl, b1⟩; have b1' := bthen hb0.out b1; have k1 := csp.out w1 b1'; replace b1 := Lib.hid b1; replace b1' := Lib.hid b1')
    | (go_at_call 67; (with_reducible refine k1.mono ?_); rintro e w2 ⟨rfl, rfl⟩))
  have hw1 : w.heap.size < w1.heap.size := by have := b1.out.size; have := hz0.out; omega
  have q0 : w1.cell? ⟨g, 0, none⟩ = some (.string ⟨#[]⟩) := (b1'.out.cell hg).trans h0
  have q1 : w1.cell? ⟨g, 1, none⟩ = some (.string N) := (b1'.out.cell (p := ⟨g, 1, none⟩) hg).trans h1
  have q2 : w1.cell? ⟨g, 2, none⟩ = some (.string V) := (b1'.out.cell (p := ⟨g, 2, none⟩) hg).trans h2
  have hg1 : g < w1.heap.size := by omega
  clear h0 h1 h2
  have hB1 : Blk (w1.alloc (.cells #[.string ⟨#[]⟩, .string M, .string ⟨#[]⟩, .slice none 0 0, .slice none 0 0] 27)) w1.heap.size 27 #[.string ⟨#[]⟩, .string M, .string ⟨#[]⟩, .slice none 0 0, .slice none 0 0] := Blk.new w1 27 _
  have hs1 : (w1.alloc (.cells #[.string ⟨#[]⟩, .string M, .string ⟨#[]⟩, .slice none 0 0, .slice none 0 0] 27)).heap.size = w1.heap.size + 1 := World.size_alloc _ _
  have hB2 := Blk.new (w1.alloc (.cells #[.string ⟨#[]⟩, .string M, .string ⟨#[]⟩, .slice none 0 0, .slice none 0 0] 27)) 118 #[.string ⟨#[]⟩, .string N, .string V]
  have hs2 : ((w1.alloc (.cells #[.string ⟨#[]⟩, .string M, .string ⟨#[]⟩, .slice none 0 0, .slice none 0 0] 27)).alloc (.cells #[.string ⟨#[]⟩, .string N, .string V] 118)).heap.size = w1.heap.size + 2 := by rw [World.size_alloc, hs1]
  rw [hs1] at hB2
  have hB1' := hB1.alloc (.cells #[.string ⟨#[]⟩, .string N, .string V] 118)
  have hBU : Below w1.heap.size w1 ((w1.alloc (.cells #[.string ⟨#[]⟩, .string M, .string ⟨#[]⟩, .slice none 0 0, .slice none 0 0] 27)).alloc (.cells #[.string ⟨#[]⟩, .string N, .string V] 118)) := ((Below.refl _ _).alloc (Nat.le_refl _) _).alloc (by rw [hs1]; omega) _
  have ky : Calls Tryd.prog 68 #[.agg #[.string ⟨#[]⟩, .string N, .string V]] ((w1.alloc (.cells #[.string ⟨#[]⟩, .string M, .string ⟨#[]⟩, .slice none 0 0, .slice none 0 0] 27)).alloc (.cells #[.string ⟨#[]⟩, .string N, .string V] 118)) fun e w' => e = .returned (.bool false) ∧ Blk w' w1.heap.size 27 #[.string ⟨#[]⟩, .string M, .string ⟨#[]⟩, .slice none 0 0, .slice none 0 0] ∧ Blk w' (w1.heap.size + 1) 118 #[.string ⟨#[]⟩, .string N, .string V] ∧ Below w1.heap.size w1 w' ∧ w1.heap.size + 2 ≤ w'.heap.size :=
    (cy _).mono fun e w' k => ⟨k.1, hB1'.below k.2 (by rw [hs2]; omega), hB2.below k.2 (by rw [hs2]; omega), hBU.trans (k.2.mono (by rw [hs2]; omega)), by have := k.2.size; omega⟩
  replace hB1 := Lib.hid hB1
  replace hB2 := Lib.hid hB2
  replace hB1' := Lib.hid hB1'
  replace hs1 := Lib.hid hs1
  replace hs2 := Lib.hid hs2
  replace hBU := Lib.hid hBU
  clear cy
  refine wp_loop_rounds 2 ?_; rw [rounds_succ]
  go_wp2_with (fail)
  go_at_call 68
  refine ky.mono ?_
  rintro e w3 ⟨rfl, x3, z3, b3, l3⟩
  have x30 := x3.cell 0
  have x31 := x3.cell 1
  have x32 := x3.cell 2
  have x33 := x3.cell 3
  have x34 := x3.cell 4
  have z30 := z3.cell 0
  have z31 := z3.cell 1
  have z32 := z3.cell 2
  have hl1 : w1.heap.size < w3.heap.size := by omega
  have hl2 : w1.heap.size + 1 < w3.heap.size := by omega
  replace x3 := Lib.hid x3
  replace z3 := Lib.hid z3
  replace b3 := Lib.hid b3
  clear ky
  go_wp2_with (first
    | (go_at_call 69; (with_reducible refine (cc _ _ _ _).mono ?_); rintro e w4 ⟨rfl, rfl⟩)
    | (at_builtin; refine wpList_append_own_at _ rfl (.tmp 67) (.tmp 69) 24 rfl w.heap.size 34 i0 _ 3 48 Tryd.underlying24 hi0.out hq0.out hq1.out hq2.out rfl (by decide) (.slice none 0 0) 0 [] rfl (World.ownsRow_nil _ _ _ _) ⟨w3.heap.size + 1, 0, none⟩ 1 1 [.string ⟨#[]⟩, .string N, .string V] rfl rfl (by have := three_new (w3.alloc (.cells #[.string ⟨#[]⟩, .string N, .string V] 34)) (.string ⟨#[]⟩) (.string N) (.string V) 34; rw [World.size_alloc] at this; exact this) (three_one _ _ _) (by decide) (by decide) (by simp; omega) ?_; intro v5 w5 hown5 hg5 _ hat5; generalize hstop : wpList _ _ _ _ _ _ = G))
  subst hstop
  have x5 := ((x3.out.alloc (.cells #[.string ⟨#[]⟩, .string N, .string V] 34)).alloc (.cells #[.string ⟨#[]⟩, .string N, .string V] 34)).grown hg5 (by simp [Value.ownBlock])
  have hw3 : Below w.heap.size w w3 := b1'.out.trans (b3.out.mono (by omega))
  have b5 : Below w3.heap.size w3 w5 := (((Below.refl _ _).alloc (Nat.le_refl _) _).alloc (by rw [World.size_alloc]; omega) _).grown hg5 (by rw [World.size_alloc, World.size_alloc]; omega) (fun g hg => by simp [Value.ownBlock] at hg)
  have n5 : Blk w5 w.heap.size 27 z5 := (((hnew.out.below b1.out (by have := hz0.out; omega)).below b3.out hw1).below b5 (Nat.lt_trans hw1 hl1))
  have hl5 : w3.heap.size < w5.heap.size := by have := hg5.size; simp at this; omega
  have x50 := x5.cell 0
  have x51 := x5.cell 1
  have x52 := x5.cell 2
  have x54 := x5.cell 4
  have x5f := x5.frozen 3
  have x53 := x5.cell 3
  have y50 := n5.frozen 0
  have y51 := n5.frozen 1
  have y52 := n5.frozen 2
  have y53 := n5.frozen 3
  have y54 := n5.frozen 4
  have m50 := n5.cell 0
  have m51 := n5.cell 1
  have m52 := n5.cell 2
  have m53 := n5.cell 3
  have m54 := n5.cell 4
  have hne : ¬ w.heap.size = w1.heap.size := by omega
  have hne2 : ¬ w1.heap.size = w.heap.size := by omega
  obtain ⟨a5, cp5, rfl⟩ := sl_of hown5
  replace x5 := Lib.hid x5
  replace n5 := Lib.hid n5
  replace hown5 := Lib.hid hown5
  replace hg5 := Lib.hid hg5
  replace hat5 := Lib.hid hat5
  replace b5 := Lib.hid b5
  replace hw3 := Lib.hid hw3
  clear x30 x31 x32 x33 x34 z30 z31 z32
  go_wp2
  rw [rounds_succ]
  go_wp2
  have hz2 : ((w3.alloc (.cells #[.string ⟨#[]⟩, .string N, .string V] 34)).alloc (.cells #[.string ⟨#[]⟩, .string N, .string V] 34)).heap.size = w3.heap.size + 2 := by rw [World.size_alloc, World.size_alloc]
  have hat6 := hat5.out
  rw [hz2] at hat6
  have hoa := fun w' => own_at (w' := w') hown5.out (by omega) (by simpa [Value.ownBlock] using hat6)
  obtain ⟨rfl, hk5, _⟩ := hoa w5
  have hnn := n5.out.far (p := ⟨w1.heap.size, 3, none⟩) hne (.slice (some ⟨w3.heap.size + 2, 0, none⟩) 1 cp5)
  have hV := put5_blk hnn (.string ⟨#[]⟩) (.string M) (.string ⟨#[]⟩) (.slice (some ⟨w3.heap.size + 2, 0, none⟩) 1 cp5) (.slice none 0 0)
  have hSV := put5_save (w5.setCell ⟨w1.heap.size, 3, none⟩ (.slice (some ⟨w3.heap.size + 2, 0, none⟩) 1 cp5)) w.heap.size (.string ⟨#[]⟩) (.string M) (.string ⟨#[]⟩) (.slice (some ⟨w3.heap.size + 2, 0, none⟩) 1 cp5) (.slice none 0 0)
  unfold put5 at hV hSV
  obtain ⟨U, hU⟩ : ∃ U, U = ((((((w5.setCell ⟨w1.heap.size, 3, none⟩ (.slice (some ⟨w3.heap.size + 2, 0, none⟩) 1 cp5)).setCell ⟨w.heap.size, 0, none⟩ (.string ⟨#[]⟩)).setCell ⟨w.heap.size, 1, none⟩ (.string M)).setCell ⟨w.heap.size, 2, none⟩ (.string ⟨#[]⟩)).setCell ⟨w.heap.size, 3, none⟩ (.slice (some ⟨w3.heap.size + 2, 0, none⟩) 1 cp5)).setCell ⟨w.heap.size, 4, none⟩ (.slice none 0 0)) := ⟨_, rfl⟩
  rw [← hU] at hV hSV ⊢
  have r0 := hV.cell 0
  have r1 := hV.cell 1
  have r2 := hV.cell 2
  have r3 := hV.cell 3
  have r4 := hV.cell 4
  have hs5 : (w5.setCell ⟨w1.heap.size, 3, none⟩ (.slice (some ⟨w3.heap.size + 2, 0, none⟩) 1 cp5)).heap.size = w5.heap.size := by simp [World.setCell]
  have hU5 := hSV.size
  rw [hs5] at hU5
  have hkU : U.heap[w3.heap.size + 2]? = w5.heap[w3.heap.size + 2]? := (hSV.block _ (by rw [hs5]; exact hk5) (by omega)).trans (Below.heap_setCell _ _ _ _ (by show w3.heap.size + 2 ≠ w1.heap.size; omega))
  have hB5 : Below w.heap.size w (w5.setCell ⟨w1.heap.size, 3, none⟩ (.slice (some ⟨w3.heap.size + 2, 0, none⟩) 1 cp5)) := (hw3.out.trans (b5.out.mono (by omega))).setCell (p := ⟨w1.heap.size, 3, none⟩) (by show w.heap.size ≤ w1.heap.size; omega) _
  refine bodyPost_ret (v := .tuple #[.agg #[.string ⟨#[]⟩, .string M, .string ⟨#[]⟩, .slice (some ⟨w3.heap.size + 2, 0, none⟩) 1 cp5, .slice none 0 0], .int .i64 0]) (by simp [results, Tryd.results62, go_sem, r0, r1, r2, r3, r4]) rfl ⟨_, _, rfl, by omega, by omega, (hoa U).2.2 hkU, hB5.trans (hSV.below (Nat.le_refl _) hB5.size)⟩
end Go.Proofs.YtgomlebemefdcaaDoor

/- A region that draws its order: each operation is looked at once. No condition. -/
/-! A region that draws its order, each operation looked at once -/
namespace Go.Wk
open Go
def upd (x : Nat → Value) (i : Nat) (v : Value) : Nat → Value := fun j => if j = i then v else x j
/-- what the operation waits for -/
def afters (ops : Array Oper) (i : Nat) : List Nat := match ops[i]? with
  | none => []
  | some o => (o.after.toList.filter fun e => Region.binds .any e).map (·.on)
def each (p : Nat → Prop) : Nat → Prop
  | 0 => True
  | n + 1 => each p n ∧ p n
theorem each_all {p : Nat → Prop} : ∀ {n : Nat}, each p n → ∀ i, i < n → p i
  | n + 1, h, i, hi => by
    rcases Nat.lt_or_ge i n with h' | h'
    · exact each_all h.1 i h'
    · have : i = n := by omega
      subst this; exact h.2
theorem getD_set (l : Array Bool) (i j : Nat) (b : Bool) (hi : i < l.size) : (l.setIfInBounds i true).getD j b = if j = i then true else l.getD j b := by
  simp only [Array.getD_eq_getD_getElem?, Array.getElem?_setIfInBounds]
  by_cases h : i = j
  · subst h; simp [hi]
  · simp [h, Ne.symm h]
theorem all_listed {ops : Array Oper} {listed : Array Bool} (back : ((List.range ops.size).all fun i => (afters ops i).all fun j => decide (j < i)) = true) (hs : listed.size = ops.size) (hr : Region.ready .any ops listed = []) :
    ∀ i, i < ops.size → listed.getD i false = true := by
  intro i
  induction i using Nat.strongRecOn with
  | _ i ih =>
    intro hi
    have hil : i < listed.size := by omega
    rcases hb : listed.getD i true with _ | _
    · exfalso
      have : i ∈ Region.ready .any ops listed := by
        rw [mem_ready]
        refine ⟨hb, ops[i], by simp [hi], fun e he hbd => ?_⟩
        have hm : e.on ∈ afters ops i := by
          unfold afters; rw [Array.getElem?_eq_getElem hi]
          exact List.mem_map.2 ⟨e, List.mem_filter.2 ⟨by simpa using he, hbd⟩, rfl⟩
        have h1 := List.all_eq_true.1 (List.all_eq_true.1 back i (List.mem_range.2 hi)) _ hm
        have h2 : e.on < i := of_decide_eq_true h1
        exact ih _ h2 (by omega)
      rw [hr] at this; cases this
    · simp only [Array.getD_eq_getD_getElem?, Array.getElem?_eq_getElem hil, Option.getD_some] at hb ⊢; exact hb
theorem wpAny_lin {P : Program} {ops : Array Oper} {Q : Exit → Act → World → Prop} (mk : (Nat → Value) → Act) {R : World → Prop} {Keeps : World → World → Prop} {Good : Nat → Value → World → Prop}
    (back : ((List.range ops.size).all fun i => (afters ops i).all fun j => decide (j < i)) = true)
    (mono : ∀ i v w w', Good i v w → Keeps w w' → Good i v w')
    (step : ∀ i, i < ops.size → ∀ x w, R w → (∀ j ∈ afters ops i, Good j (x j) w) → wpOp P ops Q i (fun a' w' => ∃ v, a' = mk (upd x i v) ∧ R w' ∧ Keeps w w' ∧ Good i v w') (mk x) w)
    (done : ∀ x w, R w → (∀ i, i < ops.size → Good i (x i) w) → Q .normal (mk x) w) :
    ∀ (fuel : Nat) (listed : Array Bool) (x : Nat → Value) (w : World), listed.toList.count false ≤ fuel → listed.size = ops.size → R w → (∀ i, i < ops.size → listed.getD i false = true → Good i (x i) w) →
      wpAny P .any ops Q fuel listed (mk x) w := by
  have fin : ∀ (listed : Array Bool) (x : Nat → Value) (w : World), listed.size = ops.size → R w → (∀ i, i < ops.size → listed.getD i false = true → Good i (x i) w) → Region.ready .any ops listed = [] → Q .normal (mk x) w :=
    fun listed x w hs hR hG hr => done x w hR fun i hi => hG i hi (all_listed back hs hr i hi)
  intro fuel
  induction fuel with
  | zero =>
    intro listed x w hc hs hR hG
    have hr : Region.ready .any ops listed = [] := by
      apply List.eq_nil_iff_forall_not_mem.2
      intro i hi
      obtain ⟨h1, o, ho, _⟩ := mem_ready.1 hi
      have hi' : i < ops.size := (Array.getElem?_eq_some_iff.1 ho).1
      have hil : i < listed.size := by omega
      have : false ∈ listed.toList := by
        simp only [Array.getD_eq_getD_getElem?, Array.getElem?_eq_getElem hil, Option.getD_some] at h1
        rw [← h1]; simp
      have := List.count_pos_iff.2 this
      omega
    exact ⟨hr, fin listed x w hs hR hG hr⟩
  | succ fuel ih =>
    intro listed x w hc hs hR hG
    refine ⟨fin listed x w hs hR hG, fun i hi => ?_⟩
    obtain ⟨h1, o, ho, hall⟩ := mem_ready.1 hi
    have hi' : i < ops.size := (Array.getElem?_eq_some_iff.1 ho).1
    have hil : i < listed.size := by omega
    have hdep : ∀ j ∈ afters ops i, Good j (x j) w := by
      intro j hj
      have hji : j < i := of_decide_eq_true (List.all_eq_true.1 (List.all_eq_true.1 back i (List.mem_range.2 hi')) _ hj)
      unfold afters at hj; rw [ho] at hj
      obtain ⟨e, he, rfl⟩ := List.mem_map.1 hj
      obtain ⟨he, hb⟩ := List.mem_filter.1 he
      exact hG _ (by omega) (hall e (by simpa using he) hb)
    refine wpOp_mono ?_ (step i hi' x w hR hdep)
    rintro a' w' ⟨v, rfl, hR', hK, hg⟩
    refine ih _ _ _ ?_ (by simpa using hs) hR' ?_
    · have hf : listed.toList[i]'(by simpa using hil) = false := by
        simp only [Array.getD_eq_getD_getElem?, Array.getElem?_eq_getElem hil, Option.getD_some] at h1
        simpa using h1
      rw [Array.toList_setIfInBounds, List.count_set (by simpa using hil)]
      have : 0 < listed.toList.count false := List.count_pos_iff.2 (by rw [← hf]; exact List.getElem_mem _)
      simp only [hf, beq_self_eq_true, if_true, Bool.true_beq, Bool.false_eq_true, if_false]
      omega
    · intro j hj hl
      rw [getD_set _ _ _ _ hil] at hl
      unfold upd
      by_cases hji : j = i
      · subst hji; simpa using hg
      · rw [if_neg hji] at hl ⊢
        exact mono _ _ _ _ (hG j hj hl) hK
theorem wp_region_lin {P : Program} {ops : Array Oper} {Q : Exit → Act → World → Prop} {id : Nat} {a0 : Act} {w0 : World} (hm : P.follows .mixedOrders = true) (mk : (Nat → Value) → Act) (x0 : Nat → Value) (h0 : a0 = mk x0)
    (R : World → Prop) (Keeps : World → World → Prop) (Good : Nat → Value → World → Prop)
    (back : ((List.range ops.size).all fun i => (afters ops i).all fun j => decide (j < i)) = true)
    (hR : R { w0 with drawn := w0.drawn + 1 })
    (mono : ∀ i v w w', Good i v w → Keeps w w' → Good i v w')
    (step : each (fun i => ∀ x w, R w → (∀ j ∈ afters ops i, Good j (x j) w) → wpOp P ops Q i (fun a' w' => ∃ v, a' = mk (upd x i v) ∧ R w' ∧ Keeps w w' ∧ Good i v w') (mk x) w) ops.size)
    (done : ∀ x w, R w → each (fun i => Good i (x i) w) ops.size → Q .normal (mk x) w) : (Code.region id ops true).wp P Q a0 w0 := by
  subst h0
  refine wp_region_any hm (wpAny_lin mk back mono (each_all step) (fun x w hR hG => done x w hR ?_) _ _ _ _ ?_ (by simp) hR ?_)
  · generalize ops.size = n at hG
    induction n with
    | zero => trivial
    | succ n ih => exact ⟨ih fun i hi => hG i (by omega), hG n (by omega)⟩
  · simp
  · intro i hi hl
    simp [Array.getD_eq_getD_getElem?, hi] at hl
end Go.Wk

/- A drawn region, one goal an operation, the frame said by a list. No condition. -/
/-! A drawn region, one goal an operation, the frame said by a list: which operation fills which place -/
namespace Go.Wk
open Go
/-- what is known of what was waited for -/
def All (G : Nat → Value → World → Prop) (x : Nat → Value) (w : World) : List Nat → Prop
  | [] => True
  | j :: js => G j (x j) w ∧ All G x w js
theorem all_of {G : Nat → Value → World → Prop} {x : Nat → Value} {w : World} : ∀ {js : List Nat}, (∀ j ∈ js, G j (x j) w) → All G x w js
  | [], _ => trivial
  | _ :: _, h => ⟨h _ (List.mem_cons_self ..), all_of fun j hj => h j (List.mem_cons_of_mem _ hj)⟩
/-- one operation -/
def Step (P : Program) (ops : Array Oper) (Q : Exit → Act → World → Prop) (mk : (Nat → Value) → Act) (R : World → Prop) (Keeps : World → World → Prop) (G : Nat → Value → World → Prop) (i : Nat) : Prop :=
  ∀ x w, R w → (∀ j ∈ afters ops i, G j (x j) w) → wpOp P ops Q i (fun a' w' => ∃ v, a' = mk (upd x i v) ∧ R w' ∧ Keeps w w' ∧ G i v w') (mk x) w
theorem step_of {P : Program} {ops : Array Oper} {Q : Exit → Act → World → Prop} {mk : (Nat → Value) → Act} {R : World → Prop} {Keeps : World → World → Prop} {G : Nat → Value → World → Prop} {i : Nat} {o : Oper} (js : List Nat)
    (ho : ops[i]? = some o) (hj : (js.all fun j => (afters ops i).contains j) = true)
    (h : ∀ x w, R w → All G x w js → ∀ K : Act → World → Prop, (∀ v w', R w' ∧ Keeps w w' ∧ G i v w' → K (mk (upd x i v)) w') →
      if Region.wanted o (yielded ops (mk x).tmps) = true then Oper.wp P o (mk x) w K Q else K ((mk x).put o.dst undef) w) : Step P ops Q mk R Keeps G i := by
  intro x w hR hd
  unfold wpOp
  simp only [ho]
  have h1 := h x w hR (all_of fun j hj' => hd j (List.contains_iff_mem.1 (List.all_eq_true.1 hj j hj'))) (fun a' w' => ∃ v, a' = mk (upd x i v) ∧ R w' ∧ Keeps w w' ∧ G i v w') (fun v w' h => ⟨v, rfl, h.1, h.2.1, h.2.2⟩)
  split
  · rename_i hw; rw [if_pos hw] at h1; exact .inl h1
  · rename_i hw; rw [if_neg hw] at h1; exact h1
inductive Steps (p : Nat → Prop) : Nat → Prop
  | nil : Steps p 0
  | cons (n : Nat) (h : p n) (t : Steps p n) : Steps p (n + 1)
theorem Steps.each {p : Nat → Prop} : ∀ {n : Nat}, Steps p n → Wk.each p n
  | _, .nil => trivial
  | _, .cons n h t => ⟨t.each, h⟩
/-- the frame: each place by the operation that fills it, or as it was -/
def fillL : List Value → List (Option Nat) → (Nat → Value) → List Value
  | v :: vs, some i :: ss, x => x i :: fillL vs ss x
  | v :: vs, none :: ss, x => v :: fillL vs ss x
  | vs, [], _ => vs
  | [], _, _ => []
def oldX : List Value → List (Option Nat) → Nat → Value
  | v :: vs, some i :: ss, j => if j = i then v else oldX vs ss j
  | _ :: vs, none :: ss, j => oldX vs ss j
  | _, _, _ => undef
theorem wp_lin {P : Program} {ops : Array Oper} {Q : Exit → Act → World → Prop} {id : Nat} {tm : List Value} {df : List Deferred} {w0 : World} (hm : P.follows .mixedOrders = true) (ss : List (Option Nat))
    (R : World → Prop) (Keeps : World → World → Prop) (G : Nat → Value → World → Prop)
    (h0 : fillL tm ss (oldX tm ss) = tm)
    (back : ((List.range ops.size).all fun i => (afters ops i).all fun j => decide (j < i)) = true)
    (n : Nat) (hn : ops.size = n)
    (hR : R w0.drew)
    (mono : ∀ i v w w', G i v w → Keeps w w' → G i v w')
    (step : Steps (Step P ops Q (fun x => { tmps := (fillL tm ss x).toArray, defers := df }) R Keeps G) n)
    (done : ∀ x w, R w → (∀ i, i < n → G i (x i) w) → Q .normal { tmps := (fillL tm ss x).toArray, defers := df } w) : (Code.region id ops true).wp P Q { tmps := tm.toArray, defers := df } w0 := by
  subst hn
  exact wp_region_lin hm (fun x => { tmps := (fillL tm ss x).toArray, defers := df }) (oldX tm ss) (by rw [h0]) R Keeps G back hR mono step.each fun x w hR h => done x w hR (each_all h)
end Go.Wk

/- A drawn region with one operation behind all others: each operation looked at once. No condition. -/
namespace Go.Wk
open Go
theorem wpAny_all {P : Program} {ops : Array Oper} {Q : Exit → Act → World → Prop} (listed : Array Bool) (a : Act) (w : World) (hl : ∀ i, i < ops.size → listed.getD i false = true) (hs : listed.size = ops.size) (hQ : Q .normal a w) : ∀ fuel, wpAny P .any ops Q fuel listed a w := by
  have hr : Region.ready .any ops listed = [] := by
    apply List.eq_nil_iff_forall_not_mem.2
    intro i hi
    obtain ⟨h1, o, ho, _⟩ := mem_ready.1 hi
    have hi' : i < ops.size := (Array.getElem?_eq_some_iff.1 ho).1
    have hil : i < listed.size := by omega
    have h2 := hl i hi'
    simp only [Array.getD_eq_getD_getElem?, Array.getElem?_eq_getElem hil, Option.getD_some] at h1 h2
    rw [h1] at h2; cases h2
  intro fuel
  cases fuel with
  | zero => exact ⟨hr, hQ⟩
  | succ fuel => exact ⟨fun _ => hQ, fun i hi => by rw [hr] at hi; cases hi⟩
theorem wpAny_last {P : Program} {ops : Array Oper} {Q : Exit → Act → World → Prop} (mk : (Nat → Value) → Act) {R : World → Prop} {Keeps : World → World → Prop} {Good : Nat → Value → World → Prop} (last : Nat) (hlast : last < ops.size)
    (back : ((List.range ops.size).all fun i => (afters ops i).all fun j => decide (j < i)) = true)
    (wit : List Nat) (cover : ((List.range ops.size).all fun i => i == last || (afters ops (wit.getD i 0)).contains i) = true)
    (mono : ∀ i v w w', Good i v w → Keeps w w' → Good i v w')
    (step : ∀ i, i < ops.size → i ≠ last → ∀ x w, R w → (∀ j ∈ afters ops i, Good j (x j) w) → wpOp P ops Q i (fun a' w' => ∃ v, a' = mk (upd x i v) ∧ R w' ∧ Keeps w w' ∧ Good i v w') (mk x) w)
    (fin : ∀ x w, R w → (∀ i, i < ops.size → i ≠ last → Good i (x i) w) → wpOp P ops Q last (fun a' w' => Q .normal a' w') (mk x) w) :
    ∀ (fuel : Nat) (listed : Array Bool) (x : Nat → Value) (w : World), listed.toList.count false ≤ fuel → listed.size = ops.size → R w → (∀ i, i < ops.size → listed.getD i false = true → Good i (x i) w) →
      listed.getD last false = false → (∀ i, i < ops.size → listed.getD i false = true → ∀ j ∈ afters ops i, listed.getD j false = true) → wpAny P .any ops Q fuel listed (mk x) w := by
  have gd : ∀ {listed : Array Bool} {i : Nat}, i < listed.size → listed.getD i true = listed.getD i false := fun {listed i} h => by
    simp only [Array.getD_eq_getD_getElem?, Array.getElem?_eq_getElem h, Option.getD_some]
  have ltj : ∀ i j, i < ops.size → j ∈ afters ops i → j < i := fun i j hi hj => of_decide_eq_true (List.all_eq_true.1 (List.all_eq_true.1 back i (List.mem_range.2 hi)) _ hj)
  intro fuel
  induction fuel with
  | zero =>
    intro listed x w hc hs hR hG hl hd
    exfalso
    have hil : last < listed.size := by omega
    have : false ∈ listed.toList := by
      simp only [Array.getD_eq_getD_getElem?, Array.getElem?_eq_getElem hil, Option.getD_some] at hl
      rw [← hl]; simp
    have := List.count_pos_iff.2 this
    omega
  | succ fuel ih =>
    intro listed x w hc hs hR hG hl hd
    refine ⟨fun hr => absurd (all_listed back hs hr last hlast) (by rw [hl]; simp), fun i hi => ?_⟩
    obtain ⟨h1, o, ho, hall⟩ := mem_ready.1 hi
    have hi' : i < ops.size := (Array.getElem?_eq_some_iff.1 ho).1
    have hil : i < listed.size := by omega
    have haft : ∀ j ∈ afters ops i, listed.getD j false = true := by
      intro j hj
      unfold afters at hj; rw [ho] at hj
      obtain ⟨e, he, rfl⟩ := List.mem_map.1 hj
      obtain ⟨he, hb⟩ := List.mem_filter.1 he
      exact hall e (by simpa using he) hb
    by_cases hil2 : i = last
    · subst hil2
      have hothers : ∀ n k, k < ops.size → ops.size ≤ k + n → k ≠ i → listed.getD k false = true := by
        intro n
        induction n with
        | zero => intro k hk hn; omega
        | succ n ihn =>
          intro k hk hn hki
          have hcv := List.all_eq_true.1 cover k (List.mem_range.2 hk)
          rw [Bool.or_eq_true, beq_iff_eq] at hcv
          rcases hcv with hcv | hcv
          · exact absurd hcv hki
          · obtain ⟨j, hjj⟩ : ∃ j, j = wit.getD k 0 := ⟨_, rfl⟩
            rw [← hjj] at hcv
            have hjk := List.contains_iff_mem.1 hcv
            have hj : j < ops.size := by
              rcases Nat.lt_or_ge j ops.size with h | h
              · exact h
              · unfold afters at hjk; rw [Array.getElem?_eq_none h] at hjk; cases hjk
            have hlt := ltj j k hj hjk
            by_cases hji : j = i
            · subst hji; exact haft k hjk
            · exact hd j hj (ihn j hj (by omega) hji) k hjk
      have hG' : ∀ k, k < ops.size → k ≠ i → Good k (x k) w := fun k hk hki => hG k hk (hothers ops.size k hk (by omega) hki)
      refine wpOp_mono ?_ (fin x w hR hG')
      intro a' w' hQ
      refine wpAny_all _ _ _ (fun k hk => ?_) (by simpa using hs) hQ fuel
      rw [getD_set _ _ _ _ hil]
      by_cases hki : k = i
      · rw [if_pos hki]
      · rw [if_neg hki]; exact hothers ops.size k hk (by omega) hki
    · refine wpOp_mono ?_ (step i hi' hil2 x w hR fun j hj => hG j (by have := ltj i j hi' hj; omega) (haft j hj))
      rintro a' w' ⟨v, rfl, hR', hK, hg⟩
      refine ih _ _ _ ?_ (by simpa using hs) hR' ?_ ?_ ?_
      · have hf : listed.toList[i]'(by simpa using hil) = false := by
          simp only [Array.getD_eq_getD_getElem?, Array.getElem?_eq_getElem hil, Option.getD_some] at h1
          simpa using h1
        rw [Array.toList_setIfInBounds, List.count_set (by simpa using hil)]
        have : 0 < listed.toList.count false := List.count_pos_iff.2 (by rw [← hf]; exact List.getElem_mem _)
        simp only [hf, beq_self_eq_true, if_true, Bool.true_beq, Bool.false_eq_true, if_false]
        omega
      · intro j hj hl
        rw [getD_set _ _ _ _ hil] at hl
        unfold upd
        by_cases hji : j = i
        · subst hji; simpa using hg
        · rw [if_neg hji] at hl ⊢
          exact mono _ _ _ _ (hG j hj hl) hK
      · rw [getD_set _ _ _ _ hil, if_neg (fun e => hil2 e.symm)]; exact hl
      · intro k hk hkl j hj
        rw [getD_set _ _ _ _ hil] at hkl ⊢
        by_cases hji : j = i
        · rw [if_pos hji]
        · rw [if_neg hji]
          by_cases hki : k = i
          · subst hki; exact haft j hj
          · rw [if_neg hki] at hkl; exact hd k hk hkl j hj
theorem wp_lin_last {P : Program} {ops : Array Oper} {Q : Exit → Act → World → Prop} {id : Nat} {tm : List Value} {df : List Deferred} {w0 : World} (hm : P.follows .mixedOrders = true) (ss : List (Option Nat))
    (R : World → Prop) (Keeps : World → World → Prop) (G : Nat → Value → World → Prop) (o : Oper)
    (h0 : fillL tm ss (oldX tm ss) = tm)
    (back : ((List.range ops.size).all fun i => (afters ops i).all fun j => decide (j < i)) = true)
    (n : Nat) (hn : ops.size = n + 1) (ho : ops[n]? = some o)
    (hgd : o.guard = none) (wit : List Nat) (cover : ((List.range ops.size).all fun i => i == n || (afters ops (wit.getD i 0)).contains i) = true)
    (hR : R w0.drew)
    (mono : ∀ i v w w', G i v w → Keeps w w' → G i v w')
    (step : Steps (Step P ops Q (fun x => { tmps := (fillL tm ss x).toArray, defers := df }) R Keeps G) n)
    (done : ∀ x w, R w → (∀ i, i < n → G i (x i) w) →
      ∀ fr, fr = fillL tm ss x → Oper.wp P o { tmps := fr.toArray, defers := df } w (fun a' w' => Q .normal a' w') Q) :
    (Code.region id ops true).wp P Q { tmps := tm.toArray, defers := df } w0 := by
  have e0 : ({ tmps := tm.toArray, defers := df } : Act) = (fun x => ({ tmps := (fillL tm ss x).toArray, defers := df } : Act)) (oldX tm ss) := by simp only [h0]
  rw [e0]
  refine wp_region_any hm (wpAny_last (fun x => { tmps := (fillL tm ss x).toArray, defers := df }) n (by omega) back wit cover mono (fun i hi hne => each_all step.each i (by omega)) (fun x w hR hG => ?_) _ _ _ _ ?_ (by simp) hR ?_ ?_ ?_)
  · have h1 := done x w hR (fun i hi => hG i (by omega) (by omega)) _ rfl
    unfold wpOp
    have hw : Region.wanted o (yielded ops (fillL tm ss x).toArray) = true := by simp [Region.wanted, hgd]
    simp only [ho, hw, if_true]
    exact .inl h1
  · simp
  · intro i hi hl
    simp [Array.getD_eq_getD_getElem?, hi] at hl
  · simp [Array.getD_eq_getD_getElem?, hn]
  · intro i hi hl
    simp [Array.getD_eq_getD_getElem?, hi] at hl
end Go.Wk

/- A drawn region: operations in whatever order, each looked at once, and a tail that is forced. No condition. -/
namespace Go.Wk
open Go
section
variable {P : Program} {ops : Array Oper} {Q : Exit → Act → World → Prop}
theorem afters_lt {n : Nat} (back : ((List.range ops.size).all fun i => (afters ops i).all fun j => decide (j < i)) = true) (i j : Nat) (hi : i < ops.size) (hj : j ∈ afters ops i) : j < i :=
  of_decide_eq_true (List.all_eq_true.1 (List.all_eq_true.1 back i (List.mem_range.2 hi)) _ hj)
theorem count_up {listed : Array Bool} {i fuel : Nat} (hil : i < listed.size) (h1 : listed.getD i true = false) (hc : listed.toList.count false ≤ fuel + 1) : (listed.setIfInBounds i true).toList.count false ≤ fuel := by
  have hf : listed.toList[i]'(by simpa using hil) = false := by
    simp only [Array.getD_eq_getD_getElem?, Array.getElem?_eq_getElem hil, Option.getD_some] at h1
    simpa using h1
  rw [Array.toList_setIfInBounds, List.count_set (by simpa using hil)]
  have : 0 < listed.toList.count false := List.count_pos_iff.2 (by rw [← hf]; exact List.getElem_mem _)
  simp only [hf, beq_self_eq_true, if_true, Bool.true_beq, Bool.false_eq_true, if_false]
  omega
theorem count_none {listed : Array Bool} {i : Nat} (hil : i < listed.size) (hl : listed.getD i false = false) (hc : listed.toList.count false ≤ 0) : False := by
  have : false ∈ listed.toList := by
    simp only [Array.getD_eq_getD_getElem?, Array.getElem?_eq_getElem hil, Option.getD_some] at hl
    rw [← hl]; simp
  have := List.count_pos_iff.2 this
  omega
theorem ready_after {listed : Array Bool} {i : Nat} (hi : i ∈ Region.ready .any ops listed) : i < ops.size ∧ listed.getD i true = false ∧ ∀ j ∈ afters ops i, listed.getD j false = true := by
  obtain ⟨h1, o, ho, hall⟩ := mem_ready.1 hi
  refine ⟨(Array.getElem?_eq_some_iff.1 ho).1, h1, fun j hj => ?_⟩
  unfold afters at hj; rw [ho] at hj
  obtain ⟨e, he, rfl⟩ := List.mem_map.1 hj
  obtain ⟨he, hb⟩ := List.mem_filter.1 he
  exact hall e (by simpa using he) hb
theorem wpAny_tail (n : Nat) (back : ((List.range ops.size).all fun i => (afters ops i).all fun j => decide (j < i)) = true)
    (chain : ((List.range ops.size).all fun j => Nat.ble j n || (afters ops j).contains (j - 1)) = true) :
    ∀ (l : List Oper) (k fuel : Nat) (listed : Array Bool) (a : Act) (w : World), n ≤ k → k + l.length = ops.size → (∀ j, l[j]? = ops[k + j]?) → listed.size = ops.size → listed.toList.count false ≤ fuel →
      (∀ i, i < ops.size → (listed.getD i false = true ↔ i < k)) → wpList P ops Q l a w → wpAny P .any ops Q fuel listed a w := by
  intro l
  induction l with
  | nil =>
    intro k fuel listed a w hn hk hl hs hc hL hw
    exact wpAny_all listed a w (fun i hi => (hL i hi).2 (by simp at hk; omega)) hs hw fuel
  | cons o l ih =>
    intro k fuel listed a w hn hk hl hs hc hL hw
    simp only [List.length_cons] at hk
    have hkn : k < ops.size := by omega
    have hkf : listed.getD k false = false := by
      cases h : listed.getD k false with
      | false => rfl
      | true => have := (hL k hkn).1 h; omega
    have ho : ops[k]? = some o := by have := hl 0; simpa using this.symm
    cases fuel with
    | zero => exact (count_none (by omega) hkf hc).elim
    | succ fuel =>
      refine ⟨fun hr => absurd (all_listed back hs hr k hkn) (by rw [hkf]; simp), fun i hi => ?_⟩
      obtain ⟨hi', h1, haft⟩ := ready_after hi
      have hif : listed.getD i false = false := by
        have hil : i < listed.size := by omega
        simp only [Array.getD_eq_getD_getElem?, Array.getElem?_eq_getElem hil, Option.getD_some] at h1 ⊢
        exact h1
      have hik : i = k := by
        have h2 : ¬ i < k := fun h => by rw [(hL i hi').2 h] at hif; cases hif
        rcases Nat.lt_or_ge k i with h3 | h3
        · exfalso
          have hch := List.all_eq_true.1 chain i (List.mem_range.2 hi')
          rw [Bool.or_eq_true] at hch
          rcases hch with hch | hch
          · have := Nat.le_of_ble_eq_true hch; omega
          · have := haft _ (List.contains_iff_mem.1 hch)
            have := (hL (i - 1) (by omega)).1 this
            omega
        · omega
      subst hik
      have hnext : ∀ a' w', wpList P ops Q l a' w' → wpAny P .any ops Q fuel (listed.setIfInBounds i true) a' w' := fun a' w' h =>
        ih (i + 1) fuel _ a' w' (by omega) (by omega) (fun j => by have := hl (j + 1); rw [List.getElem?_cons_succ] at this; rw [this]; congr 1; omega) (by simpa using hs) (count_up (by omega) h1 hc)
          (fun q hq => by
            rw [getD_set _ _ _ _ (by omega)]
            by_cases hqi : q = i
            · subst hqi; simp
            · rw [if_neg hqi, hL q hq]; omega) h
      unfold wpOp
      simp only [ho]
      unfold wpList at hw
      split
      · rename_i hwt
        rw [if_pos hwt] at hw
        rcases hw with hw | hw
        · exact .inl (Oper.wp_mono hnext hw)
        · exact .inr hw
      · rename_i hwt
        rw [if_neg hwt] at hw
        exact hnext _ _ hw
theorem wpAny_free (mk : (Nat → Value) → Act) {R : World → Prop} {Keeps : World → World → Prop} {Good : Nat → Value → World → Prop} (n : Nat) (hn : n < ops.size) (l : List Oper) (hln : n + l.length = ops.size) (hl : ∀ j, l[j]? = ops[n + j]?)
    (back : ((List.range ops.size).all fun i => (afters ops i).all fun j => decide (j < i)) = true)
    (chain : ((List.range ops.size).all fun j => Nat.ble j n || (afters ops j).contains (j - 1)) = true)
    (wit : List Nat) (cover : ((List.range n).all fun i => (afters ops (wit.getD i 0)).contains i && Nat.ble (wit.getD i 0) n) = true)
    (mono : ∀ i v w w', Good i v w → Keeps w w' → Good i v w')
    (step : ∀ i, i < n → ∀ x w, R w → (∀ j ∈ afters ops i, Good j (x j) w) → wpOp P ops Q i (fun a' w' => ∃ v, a' = mk (upd x i v) ∧ R w' ∧ Keeps w w' ∧ Good i v w') (mk x) w)
    (fin : ∀ x w, R w → (∀ i, i < n → Good i (x i) w) → wpList P ops Q l (mk x) w) :
    ∀ (fuel : Nat) (listed : Array Bool) (x : Nat → Value) (w : World), listed.toList.count false ≤ fuel → listed.size = ops.size → R w → (∀ i, i < n → listed.getD i false = true → Good i (x i) w) →
      (∀ i, n ≤ i → i < ops.size → listed.getD i false = false) → (∀ i, i < ops.size → listed.getD i false = true → ∀ j ∈ afters ops i, listed.getD j false = true) → wpAny P .any ops Q fuel listed (mk x) w := by
  intro fuel
  induction fuel with
  | zero =>
    intro listed x w hc hs hR hG hl0 hd
    exact (count_none (i := n) (by omega) (hl0 n (Nat.le_refl _) hn) hc).elim
  | succ fuel ih =>
    intro listed x w hc hs hR hG hl0 hd
    refine ⟨fun hr => absurd (all_listed back hs hr n hn) (by rw [hl0 n (Nat.le_refl _) hn]; simp), fun i hi => ?_⟩
    have hi0 := hi
    obtain ⟨hi', h1, haft⟩ := ready_after hi
    rcases Nat.lt_or_ge i n with hin | hin
    · refine wpOp_mono ?_ (step i hin x w hR fun j hj => hG j (by have := afters_lt (n := 0) back i j hi' hj; omega) (haft j hj))
      rintro a' w' ⟨v, rfl, hR', hK, hg⟩
      refine ih _ _ _ (count_up (by omega) h1 hc) (by simpa using hs) hR' ?_ ?_ ?_
      · intro j hj hlj
        rw [getD_set _ _ _ _ (by omega)] at hlj
        unfold upd
        by_cases hji : j = i
        · subst hji; simpa using hg
        · rw [if_neg hji] at hlj ⊢
          exact mono _ _ _ _ (hG j hj hlj) hK
      · intro j hj hj2
        rw [getD_set _ _ _ _ (by omega), if_neg (by omega)]; exact hl0 j hj hj2
      · intro k hk hkl j hj
        rw [getD_set _ _ _ _ (by omega)] at hkl ⊢
        by_cases hji : j = i
        · rw [if_pos hji]
        · rw [if_neg hji]
          by_cases hki : k = i
          · subst hki; exact haft j hj
          · rw [if_neg hki] at hkl; exact hd k hk hkl j hj
    · have hi2 : i = n := by
        rcases Nat.lt_or_ge n i with h3 | h3
        · exfalso
          have hch := List.all_eq_true.1 chain i (List.mem_range.2 hi')
          rw [Bool.or_eq_true] at hch
          rcases hch with hch | hch
          · have := Nat.le_of_ble_eq_true hch; omega
          · have := haft _ (List.contains_iff_mem.1 hch)
            rw [hl0 (i - 1) (by omega) (by omega)] at this; cases this
        · omega
      subst hi2
      have hothers : ∀ m k, k < i → i ≤ k + m → listed.getD k false = true := by
        intro m
        induction m with
        | zero => intro k hk hm; omega
        | succ m ihm =>
          intro k hk hm
          have hcv := List.all_eq_true.1 cover k (List.mem_range.2 hk)
          rw [Bool.and_eq_true] at hcv
          obtain ⟨j, hjj⟩ : ∃ j, j = wit.getD k 0 := ⟨_, rfl⟩
          rw [← hjj] at hcv
          have hjk := List.contains_iff_mem.1 hcv.1
          have hjn := Nat.le_of_ble_eq_true hcv.2
          have hlt := afters_lt (n := 0) back j k (by omega) hjk
          by_cases hji : j = i
          · subst hji; exact haft k hjk
          · exact hd j (by omega) (ihm j (by omega) (by omega)) k hjk
      have htail := fin x w hR fun k hk => hG k hk (hothers i k hk (by omega))
      have hfin := wpAny_tail (P := P) (Q := Q) i back chain l i (fuel + 1) listed (mk x) w (Nat.le_refl _) hln hl hs hc (fun q hq => ⟨fun h => by
          rcases Nat.lt_or_ge q i with h' | h'
          · exact h'
          · have h2 := hl0 q h' hq; rw [h2] at h; exact absurd h (by simp)
        , fun h => hothers i q h (by omega)⟩) htail
      exact hfin.2 i hi0
end
theorem wp_lin_tail {P : Program} {ops : Array Oper} {Q : Exit → Act → World → Prop} {id : Nat} {tm : List Value} {df : List Deferred} {w0 : World} (hm : P.follows .mixedOrders = true) (ss : List (Option Nat))
    (R : World → Prop) (Keeps : World → World → Prop) (G : Nat → Value → World → Prop)
    (h0 : fillL tm ss (oldX tm ss) = tm)
    (back : ((List.range ops.size).all fun i => (afters ops i).all fun j => decide (j < i)) = true)
    (n : Nat) (l : List Oper) (hdr : ops.toList.drop n = l) (hn : n < ops.size)
    (chain : ((List.range ops.size).all fun j => Nat.ble j n || (afters ops j).contains (j - 1)) = true)
    (wit : List Nat) (cover : ((List.range n).all fun i => (afters ops (wit.getD i 0)).contains i && Nat.ble (wit.getD i 0) n) = true)
    (hR : R w0.drew)
    (mono : ∀ i v w w', G i v w → Keeps w w' → G i v w')
    (step : Steps (Step P ops Q (fun x => { tmps := (fillL tm ss x).toArray, defers := df }) R Keeps G) n)
    (done : ∀ x w, R w → (∀ i, i < n → G i (x i) w) → ∀ fr, fr = fillL tm ss x → wpList P ops Q l { tmps := fr.toArray, defers := df } w) :
    (Code.region id ops true).wp P Q { tmps := tm.toArray, defers := df } w0 := by
  have e0 : ({ tmps := tm.toArray, defers := df } : Act) = (fun x => ({ tmps := (fillL tm ss x).toArray, defers := df } : Act)) (oldX tm ss) := by simp only [h0]
  rw [e0]
  refine wp_region_any hm (wpAny_free (fun x => { tmps := (fillL tm ss x).toArray, defers := df }) n hn l (by rw [← hdr]; simp; omega) (fun j => by rw [← hdr, List.getElem?_drop]; simp) back chain wit cover mono (fun i hi => each_all step.each i hi) (fun x w hR hG => done x w hR hG _ rfl) _ _ _ _ ?_ (by simp) hR ?_ ?_ ?_)
  · simp
  · intro i hi hl
    have : i < ops.size := by omega
    simp [Array.getD_eq_getD_getElem?, this] at hl
  · intro i hi hi2
    simp [Array.getD_eq_getD_getElem?, hi2]
  · intro i hi hl
    simp [Array.getD_eq_getD_getElem?, hi] at hl
end Go.Wk

/- The law's node: a node of the reader turned into one of the document. No condition. -/
namespace Go.Proofs.YtgomlebemefdcaaDoor
open Go Go.RowKit Go.Wk Go.Xt Go.Xe
set_option maxRecDepth 100000 in
theorem rattr_info : ∃ i, Tryd.prog.info? 49 = some i ∧ i.zero = some (.agg #[.string ⟨#[]⟩, .string ⟨#[]⟩, .string ⟨#[]⟩]) ∧ i.size = 3 ∧ i.bytes = 48 := ⟨_, rfl, by kernel_rfl, by kernel_rfl, by kernel_rfl⟩
set_option maxRecDepth 100000 in
theorem rnode_info : ∃ i, Tryd.prog.info? 40 = some i ∧ i.zero = some (.agg #[.string ⟨#[]⟩, .string ⟨#[]⟩, .string ⟨#[]⟩, .slice none 0 0, .slice none 0 0]) ∧ i.size = 5 ∧ i.bytes = 96 := ⟨_, rfl, by kernel_rfl, by kernel_rfl, by kernel_rfl⟩
/-- what the operations of an attribute's region yield -/
def GA (H B1 B3 g cap : Nat) (A0 A1 A2 : ByteArray) : Nat → Value → World → Prop := fun i v w => match i with
  | 0 => v = .pointer (some ⟨B3, 3, none⟩)
  | 1 => v = .slice none 0 0
  | 2 | 8 | 14 => v = .pointer (some ⟨B1, 3, none⟩)
  | 3 | 9 | 15 => v = .slice (some ⟨g, 0, none⟩) 1 cap
  | 4 | 10 | 16 => v = .int .i64 0
  | 5 | 6 | 11 | 17 => v = .pointer (some ⟨g, 0, none⟩)
  | 12 => v = .pointer (some ⟨g, 1, none⟩)
  | 18 => v = .pointer (some ⟨g, 2, none⟩)
  | 7 => v = .string A0
  | 13 => v = .string A1
  | 19 => v = .string A2
  | 20 => v = .agg #[.string A0, .string A1, .string A2]
  | 21 => ∃ h, v = .slice (some ⟨h, 0, none⟩) 1 1 ∧ H ≤ h ∧ Blk w h 49 #[.string A0, .string A1, .string A2]
  | _ => True
theorem GA_mono {H B1 B3 g cap : Nat} {A0 A1 A2 : ByteArray} (i : Nat) (v : Value) (w w' : World) (h : GA H B1 B3 g cap A0 A1 A2 i v w) (hk : Below w.heap.size w w') : GA H B1 B3 g cap A0 A1 A2 i v w' := by
  unfold GA at h ⊢
  split at h <;> first
    | exact h
    | (obtain ⟨h, e, h1, h2⟩ := h; exact ⟨h, e, h1, h2.below hk h2.lt⟩)
/-- .. of a kid's region -/
def GK (H B1 B3 g2 n2 c2 i : Nat) (VK : Value) (k : Nd) (K0 K1 K2 : ByteArray) (a3 : Option Addr) (n3 c3 : Nat) (a4 : Option Addr) (n4 c4 : Nat) : Nat → Value → World → Prop := fun j v w => match j with
  | 0 => v = .pointer (some ⟨B3, 4, none⟩)
  | 1 => v = VK
  | 2 => v = .pointer (some ⟨B1, 4, none⟩)
  | 3 => v = .slice (some ⟨g2, 0, none⟩) n2 c2
  | 4 => v = .int .i64 i
  | 5 => v = .pointer (some ⟨g2, 5 * i, none⟩)
  | 6 => v = .agg #[.string K0, .string K1, .string K2, .slice a3 n3 c3, .slice a4 n4 c4]
  | 7 => ∃ (U0 U1 U2 : ByteArray) (a3 : Option Addr) (n3 c3 : Nat) (a4 : Option Addr) (n4 c4 : Nat) (b : List Nat), v = .agg #[.string U0, .string U1, .string U2, .slice a3 n3 c3, .slice a4 n4 c4] ∧ RnAt w k [.string U0, .string U1, .string U2, .slice a3 n3 c3, .slice a4 n4 c4] b ∧ (∀ j ∈ b, H ≤ j ∧ j < w.heap.size)
  | 8 => ∃ (U0 U1 U2 : ByteArray) (a3 : Option Addr) (n3 c3 : Nat) (a4 : Option Addr) (n4 c4 : Nat) (b : List Nat) (h : Nat), v = .slice (some ⟨h, 0, none⟩) 1 1 ∧ Blk w h 40 #[.string U0, .string U1, .string U2, .slice a3 n3 c3, .slice a4 n4 c4] ∧ RnAt w k [.string U0, .string U1, .string U2, .slice a3 n3 c3, .slice a4 n4 c4] b ∧ (∀ j ∈ b, H ≤ j ∧ j < w.heap.size)
  | _ => True
theorem GK_mono {H B1 B3 g2 n2 c2 i : Nat} {VK : Value} {k : Nd} {K0 K1 K2 : ByteArray} {a3 : Option Addr} {n3 c3 : Nat} {a4 : Option Addr} {n4 c4 : Nat} (j : Nat) (v : Value) (w w' : World) (h : GK H B1 B3 g2 n2 c2 i VK k K0 K1 K2 a3 n3 c3 a4 n4 c4 j v w) (hk : Below w.heap.size w w') : GK H B1 B3 g2 n2 c2 i VK k K0 K1 K2 a3 n3 c3 a4 n4 c4 j v w' := by
  have hs := hk.size
  unfold GK at h ⊢
  split at h <;> first
    | exact h
    | (obtain ⟨U0, U1, U2, a3, n3, c3, a4, n4, c4, b, e, h1, h2⟩ := h; exact ⟨U0, U1, U2, a3, n3, c3, a4, n4, c4, b, e, h1.keep fun j hj => hk.block j (h2 j hj).2, fun j hj => ⟨(h2 j hj).1, Nat.lt_of_lt_of_le (h2 j hj).2 hs⟩⟩)
    | (obtain ⟨U0, U1, U2, a3, n3, c3, a4, n4, c4, b, x, e, h0, h1, h2⟩ := h; exact ⟨U0, U1, U2, a3, n3, c3, a4, n4, c4, b, x, e, h0.below hk h0.lt, h1.keep fun j hj => hk.block j (h2 j hj).2, fun j hj => ⟨(h2 j hj).1, Nat.lt_of_lt_of_le (h2 j hj).2 hs⟩⟩)
theorem three_at {w : World} {h t : Nat} {v0 v1 v2 : Value} (hb : Blk w h t #[v0, v1, v2]) : ∀ j u, [v0, v1, v2][j]? = some u → w.cell? ((⟨h, 0, none⟩ : Addr).add j) = some u := by
  intro j u hj
  rw [Lib.add_plain, Nat.zero_add, hb.cell j, ← hj]
  match j with
  | 0 => rfl
  | 1 => rfl
  | 2 => rfl
  | _ + 3 => rfl
theorem five_at {w : World} {h t : Nat} {v0 v1 v2 v3 v4 : Value} (hb : Blk w h t #[v0, v1, v2, v3, v4]) : ∀ j u, [v0, v1, v2, v3, v4][j]? = some u → w.cell? ((⟨h, 0, none⟩ : Addr).add j) = some u := by
  intro j u hj
  rw [Lib.add_plain, Nat.zero_add, hb.cell j, ← hj]
  match j with
  | 0 => rfl
  | 1 => rfl
  | 2 => rfl
  | 3 => rfl
  | 4 => rfl
  | _ + 5 => rfl
theorem ra_one {w : World} {B c : Nat} {a : Option Addr} {A0 A1 A2 : ByteArray} {l : List (List UInt8 × List UInt8)} (h : w.ownsRow B 49 3 (.slice a 1 c) (0 + 1) ([] ++ [.string A0, .string A1, .string A2])) (hl : l.length = 1) (hla : atV l = [.string A0, .string A1, .string A2]) : ∃ b, RaAt w l (.slice a 1 c) b ∧ ∀ k ∈ b, B ≤ k ∧ k < w.heap.size := by
  rcases h.2 with ⟨e, _⟩ | ⟨g, cap, cur, e, hB, hh, rest⟩
  · cases e
  · cases e
    refine ⟨[g], .inr ⟨g, c, by rw [hl], ⟨by rw [hla, hl]; rfl, .inr ⟨g, c, cur, by rw [hl], Nat.zero_le _, hh, ?_⟩⟩, rfl⟩, fun k hk => ?_⟩
    · rw [hl, hla]; exact rest
    · simp at hk; subst hk
      exact ⟨hB, by
        rcases Nat.lt_or_ge k w.heap.size with h' | h'
        · exact h'
        · rw [Array.getElem?_eq_none h'] at hh; cases hh⟩
set_option maxHeartbeats 2000000 in
set_option maxRecDepth 100000 in
theorem node_tx {w : World} (t : List UInt8) : Calls Tryd.prog 11 #[.agg #[str [], str [], str t, .slice none 0 0, .slice none 0 0]] w (NodeOf w (.tx t)) := by
  obtain ⟨T, hT⟩ : ∃ T : ByteArray, T = ⟨t.toArray⟩ := ⟨_, rfl⟩
  have hTs : str t = .string T := by rw [hT]; rfl
  have hE : str [] = .string ⟨#[]⟩ := rfl
  rw [hTs, hE]
  replace hT := Lib.hid hT
  replace hTs := Lib.hid hTs
  replace hE := Lib.hid hE
  go_enter Tryd.func11, Tryd.ntmps11
  go_wp2
  refine wp_loop_rounds 1 ?_; rw [rounds_succ]
  go_wp2
  refine wp_loop_rounds 1 ?_; rw [rounds_succ]
  go_wp2
  refine bodyPost_ret (v := .agg #[.string ⟨#[]⟩, .string ⟨#[]⟩, .string T, .slice none 0 0, .slice none 0 0]) (by simp [results, Tryd.results11, go_sem]) rfl ⟨_, _, _, _, _, _, _, _, _, [], rfl, ?_, by simp, ?_⟩
  · have := RnAt.tx (w := ((w.alloc (.cells #[.string ⟨#[]⟩, .string ⟨#[]⟩, .string T, .slice none 0 0, .slice none 0 0] 27)).alloc (.cells #[.string ⟨#[]⟩, .string ⟨#[]⟩, .string T, .slice none 0 0, .slice none 0 0] 40)).alloc (.cells #[.string ⟨#[]⟩, .string ⟨#[]⟩, .string T, .slice none 0 0, .slice none 0 0] 40)) t
    rw [hTs.out, hE.out] at this
    exact this
  · exact (((Below.refl _ _).alloc (Nat.le_refl _) _).alloc (by simp) _).alloc (by simp; omega) _
set_option maxHeartbeats 4000000 in
set_option maxRecDepth 100000 in
theorem node_zero {w : World} (N : ByteArray) (nm : List UInt8) (hnm : str nm = .string N) (a2 : Option Addr) (n2 c2 : Nat) (ks : List Nd) (hn2 : n2 = ks.length) (hsm : ks.length ≤ 200000)
    (kid : ∀ i k, ks[i]? = some k → ∃ (g2 : Nat) (K0 K1 K2 : ByteArray) (a3 : Option Addr) (n3 c3 : Nat) (a4 : Option Addr) (n4 c4 : Nat), a2 = some ⟨g2, 0, none⟩ ∧ w.cell? ⟨g2, 5 * i, none⟩ = some (.string K0) ∧ w.cell? ⟨g2, 5 * i + 1, none⟩ = some (.string K1) ∧ w.cell? ⟨g2, 5 * i + 2, none⟩ = some (.string K2) ∧ w.cell? ⟨g2, 5 * i + 3, none⟩ = some (.slice a3 n3 c3) ∧ w.cell? ⟨g2, 5 * i + 4, none⟩ = some (.slice a4 n4 c4) ∧
      ∀ w', Below w.heap.size w w' → Calls Tryd.prog 11 #[.agg #[.string K0, .string K1, .string K2, .slice a3 n3 c3, .slice a4 n4 c4]] w' (NodeOf w' k))
    (aa : Option Addr) (ca : Nat) (l : List (List UInt8 × List UInt8)) (hl : l = []) :
    Calls Tryd.prog 11 #[.agg #[.string ⟨#[]⟩, .string N, .string ⟨#[]⟩, .slice aa 0 ca, .slice a2 n2 c2]] w (NodeOf w (.el nm l ks)) := by
  obtain ⟨i1, hi1, hy0, hy1, hy2⟩ := rnode_info
  replace hi1 := Lib.hid hi1
  replace hy0 := Lib.hid hy0
  replace hy1 := Lib.hid hy1
  replace hy2 := Lib.hid hy2
  replace hnm := Lib.hid hnm
  replace kid := Lib.hid kid
  have x1 : Blk (((w.alloc (.cells #[.string ⟨#[]⟩, .string N, .string ⟨#[]⟩, .slice aa 0 ca, .slice a2 n2 c2] 27)).alloc (.cells z5 40)).alloc (.cells #[.string ⟨#[]⟩, .string N, .string ⟨#[]⟩, .slice none 0 0, .slice none 0 0] 40)) w.heap.size 27 #[.string ⟨#[]⟩, .string N, .string ⟨#[]⟩, .slice aa 0 ca, .slice a2 n2 c2] := ((Blk.new w 27 _).alloc _).alloc _
  have x2 : Blk (((w.alloc (.cells #[.string ⟨#[]⟩, .string N, .string ⟨#[]⟩, .slice aa 0 ca, .slice a2 n2 c2] 27)).alloc (.cells z5 40)).alloc (.cells #[.string ⟨#[]⟩, .string N, .string ⟨#[]⟩, .slice none 0 0, .slice none 0 0] 40)) (w.heap.size + 1) 40 z5 := by
    have := Blk.new (w.alloc (.cells #[.string ⟨#[]⟩, .string N, .string ⟨#[]⟩, .slice aa 0 ca, .slice a2 n2 c2] 27)) 40 z5
    rw [World.size_alloc] at this
    exact this.alloc _
  have x3 : Blk (((w.alloc (.cells #[.string ⟨#[]⟩, .string N, .string ⟨#[]⟩, .slice aa 0 ca, .slice a2 n2 c2] 27)).alloc (.cells z5 40)).alloc (.cells #[.string ⟨#[]⟩, .string N, .string ⟨#[]⟩, .slice none 0 0, .slice none 0 0] 40)) (w.heap.size + 1 + 1) 40 #[.string ⟨#[]⟩, .string N, .string ⟨#[]⟩, .slice none 0 0, .slice none 0 0] := by
    have := Blk.new ((w.alloc (.cells #[.string ⟨#[]⟩, .string N, .string ⟨#[]⟩, .slice aa 0 ca, .slice a2 n2 c2] 27)).alloc (.cells z5 40)) 40 #[.string ⟨#[]⟩, .string N, .string ⟨#[]⟩, .slice none 0 0, .slice none 0 0]
    rw [World.size_alloc, World.size_alloc] at this
    exact this
  have b0 : Below w.heap.size w (((w.alloc (.cells #[.string ⟨#[]⟩, .string N, .string ⟨#[]⟩, .slice aa 0 ca, .slice a2 n2 c2] 27)).alloc (.cells z5 40)).alloc (.cells #[.string ⟨#[]⟩, .string N, .string ⟨#[]⟩, .slice none 0 0, .slice none 0 0] 40)) := (((Below.refl _ _).alloc (Nat.le_refl _) _).alloc (by simp) _).alloc (by simp; omega) _
  have s0 : (((w.alloc (.cells #[.string ⟨#[]⟩, .string N, .string ⟨#[]⟩, .slice aa 0 ca, .slice a2 n2 c2] 27)).alloc (.cells z5 40)).alloc (.cells #[.string ⟨#[]⟩, .string N, .string ⟨#[]⟩, .slice none 0 0, .slice none 0 0] 40)).heap.size = w.heap.size + 3 := by simp [World.size_alloc]
  replace x1 := Lib.hid x1
  replace x2 := Lib.hid x2
  replace x3 := Lib.hid x3
  replace b0 := Lib.hid b0
  replace s0 := Lib.hid s0
  replace hl := Lib.hid hl
  replace hn2 := Lib.hid hn2
  go_enter Tryd.func11, Tryd.ntmps11
  go_wp2
  refine wp_loop_rounds 1 ?_; rw [rounds_succ]
  go_wp2_with (fail)
  obtain ⟨W, hW⟩ : ∃ W, W = (((w.alloc (.cells #[.string ⟨#[]⟩, .string N, .string ⟨#[]⟩, .slice aa 0 ca, .slice a2 n2 c2] 27)).alloc (.cells z5 40)).alloc (.cells #[.string ⟨#[]⟩, .string N, .string ⟨#[]⟩, .slice none 0 0, .slice none 0 0] 40)) := ⟨_, rfl⟩
  have x1 := x1.out
  have x2 := x2.out
  have x3 := x3.out
  have b0 := b0.out
  have s0 := s0.out
  unfold z5 at hW x1 x2 x3 b0 s0
  rw [← hW] at x1 x2 x3 b0 s0 ⊢
  replace hW := Lib.hid hW
  have l1 : w.heap.size < W.heap.size := by omega
  have l2 : w.heap.size + 1 < W.heap.size := by omega
  have l3 : w.heap.size + 1 + 1 < W.heap.size := by omega
  replace s0 := Lib.hid s0
  obtain ⟨V, hV⟩ : ∃ V, V = W := ⟨_, rfl⟩
  have v1 := x1
  have v2 := x2
  have v3 := x3
  have bV := b0
  have sV : w.heap.size + 3 ≤ V.heap.size := by have := s0.out; rw [hV]; omega
  have hra : RaAt V l (.slice none 0 0) [] := .inl ⟨hl.out, rfl, rfl⟩
  have hba : ∀ k ∈ ([] : List Nat), w.heap.size + 3 ≤ k ∧ k < V.heap.size := by simp
  obtain ⟨ba, hbae⟩ : ∃ b : List Nat, b = [] := ⟨_, rfl⟩
  rw [← hbae] at hra hba
  rw [← hV] at v1 v2 v3 bV ⊢
  replace hV := Lib.hid hV
  clear x1 x2 x3 b0 hbae
  have v13 : V.cell? ⟨w.heap.size, 3, none⟩ = some (.slice aa 0 ca) := v1.cell 3
  replace v1 := Lib.hid v1
  replace v2 := Lib.hid v2
  replace v3 := Lib.hid v3
  replace hra := Lib.hid hra
  replace hba := Lib.hid hba
  replace bV := Lib.hid bV
  go_wp2
  clear v13
  go_loopw [5] (fun s5 wr => ∃ (i : Nat) (ak : Option Addr) (ck : Nat) (us : List Value) (b : List Nat), i ≤ ks.length ∧ s5 = .int .i64 i ∧ Blk wr w.heap.size 27 #[.string ⟨#[]⟩, .string N, .string ⟨#[]⟩, .slice aa 0 ca, .slice a2 n2 c2] ∧ Blk wr (w.heap.size + 1) 40 #[.string ⟨#[]⟩, .string ⟨#[]⟩, .string ⟨#[]⟩, .slice none 0 0, .slice none 0 0] ∧ Blk wr (w.heap.size + 1 + 1) 40 #[.string ⟨#[]⟩, .string N, .string ⟨#[]⟩, .slice none 0 0, .slice ak i ck] ∧ RKids (w.heap.size + 3) wr (.slice ak i ck) (ks.take i) us b ∧ RaAt wr l (.slice none 0 0) ba ∧ (∀ j ∈ ba, (Value.slice ak i ck).ownBlock ≠ some j) ∧ Below w.heap.size w wr ∧ V.heap.size ≤ wr.heap.size) (fun s5 _ => ks.length - (RowKit.intOf s5).toNat)
  case atStart => exact ⟨0, none, 0, [], [], Nat.zero_le _, rfl, v1.out, v2.out, v3.out, RKids.nil _ _, hra.out, fun j _ h => by simp [Value.ownBlock] at h, bV.out, Nat.le_refl _⟩
  case round =>
    obtain ⟨i, ak, ck, us, b, hi, rfl, y1, y2, y3, hrk, hra2, hbaV, hbr, hVr⟩ := hrel
    have y14 : wr.cell? ⟨w.heap.size, 4, none⟩ = some (.slice a2 n2 c2) := y1.cell 4
    by_cases hik : i < ks.length
    · obtain ⟨k, hk⟩ : ∃ k, k = ks[i] := ⟨_, rfl⟩
      have hki : ks[i]? = some k := by rw [hk]; exact List.getElem?_eq_getElem hik
      obtain ⟨g2, K0, K1, K2, a3, n3, c3, a4, n4, c4, rfl, k0, k1, k2, k3, k4, hkid⟩ := kid.out i k hki
      have lg2 : g2 < w.heap.size := cell_lt k0
      have hlt : decide ((i : Int) < (n2 : Int)) = true := by have := hn2.out; simp; omega
      have hn2i : i < n2 := by have := hn2.out; omega
      have e0 := (hbr.cell lg2).trans k0
      have e1 := (hbr.cell (p := ⟨g2, 5 * i + 1, none⟩) lg2).trans k1
      have e2 := (hbr.cell (p := ⟨g2, 5 * i + 2, none⟩) lg2).trans k2
      have e3 := (hbr.cell (p := ⟨g2, 5 * i + 3, none⟩) lg2).trans k3
      have e4 := (hbr.cell (p := ⟨g2, 5 * i + 4, none⟩) lg2).trans k4
      have lgr : g2 < wr.heap.size := by have := hbr.size; omega
      have r1 : w.heap.size < wr.heap.size := y1.lt
      have r2 : w.heap.size + 1 < wr.heap.size := y2.lt
      have r3 : w.heap.size + 1 + 1 < wr.heap.size := y3.lt
      clear k0 k1 k2 k3 k4
      replace y1 := Lib.hid y1
      replace y2 := Lib.hid y2
      replace y3 := Lib.hid y3
      replace hrk := Lib.hid hrk
      replace hra2 := Lib.hid hra2
      replace hbr := Lib.hid hbr
      replace hbaV := Lib.hid hbaV
      replace hkid := Lib.hid hkid
      replace hk := Lib.hid hk
      replace hki := Lib.hid hki
      replace e0 := Lib.hid e0
      replace e1 := Lib.hid e1
      replace e2 := Lib.hid e2
      replace e3 := Lib.hid e3
      replace e4 := Lib.hid e4
      go_wp2_with (fail)
      rename_i K0' hK0'
      refine wp_lin_tail (by kernel_rfl) [none, none, none, none, none, none, none, none, none, none, none, none, none, none, none, none, none, none, none, none, none, none, none, none, none, none, none, none, none, none, none, none, none, none, none, none, none, none, none, none, none, none, none, none, none, none, none, none, none, none, none, some 0, some 1, some 2, some 3, some 4, some 5, some 6, some 7, some 8, none, none, none] (fun w' => Below wr.heap.size wr w') (fun w' w'' => Below w'.heap.size w' w'') (GK wr.heap.size w.heap.size (w.heap.size + 1 + 1) g2 n2 c2 i (.slice ak i ck) k K0 K1 K2 a3 n3 c3 a4 n4 c4) (by rfl) (by kernel_rfl) 9 _ rfl (by decide) (by kernel_rfl) [1, 9, 3, 5, 5, 6, 7, 9, 9, 0] (by kernel_rfl) ?khR ?kmono (.cons 8 (step_of [7] rfl (by kernel_rfl) ?k8) (.cons 7 (step_of [6] rfl (by kernel_rfl) ?k7) (.cons 6 (step_of [5] rfl (by kernel_rfl) ?k6) (.cons 5 (step_of [3, 4] rfl (by kernel_rfl) ?k5) (.cons 4 (step_of [] rfl (by kernel_rfl) ?k4) (.cons 3 (step_of [2] rfl (by kernel_rfl) ?k3) (.cons 2 (step_of [] rfl (by kernel_rfl) ?k2) (.cons 1 (step_of [0] rfl (by kernel_rfl) ?k1) (.cons 0 (step_of [] rfl (by kernel_rfl) ?k0) (.nil)))))))))) ?kdone
      case khR => exact (Below.refl _ _).drew
      case kmono => exact GK_mono
      case kdone =>
        intro x w' hR hG fr hfr
        have g1 := hG 1 (by omega)
        have g8 := hG 8 (by omega)
        simp only [GK] at g1 g8
        clear hG
        obtain ⟨U0, U1, U2, d3, m3, f3, d4, m4, f4, bk, h, e8, hblk, hRn, hbk⟩ := g8
        simp only [fillL] at hfr
        rw [g1, e8] at hfr
        subst hfr
        have hlen : (ks.take i).length = i := by rw [List.length_take]; omega
        have hown := hrk.out.own
        rw [hlen] at hown
        have hs3 : w.heap.size + 3 ≤ w'.heap.size := by have := hR.size; omega
        have hmx : i + 1 ≤ maxLen := by unfold maxLen; omega
        have hby : (i + 1) * 96 ≤ 140737488355328 := by omega
        have nl1 : some w.heap.size ≠ (Value.slice ak i ck).ownBlock := fun e => by have := (hown.lt _ e.symm).1; omega
        have nl2 : some (w.heap.size + 1) ≠ (Value.slice ak i ck).ownBlock := fun e => by have := (hown.lt _ e.symm).1; omega
        have nl3 : some (w.heap.size + 1 + 1) ≠ (Value.slice ak i ck).ownBlock := fun e => by have := (hown.lt _ e.symm).1; omega
        have z1 := y1.out.below hR r1
        have z2 := y2.out.below hR r2
        have z3 := y3.out.below hR r3
        have hbw := hbr.out.trans (hR.mono hbr.out.size)
        have hrw : RaAt w' l (.slice none 0 0) ba := hra2.out.keep fun j hj => hR.block j (by have := (hba.out j hj).2; omega)
        have hVw : V.heap.size ≤ w'.heap.size := by have := hR.size; omega
        refine wpList_append_own_at _ rfl (.tmp 52) (.tmp 59) 38 rfl (w.heap.size + 3) 40 i1 _ 5 96 Tryd.underlying38 hi1.out hy0.out hy1.out hy2.out rfl (by decide) (.slice ak i ck) i us rfl (own_below hown hR) ⟨h, 0, none⟩ 1 1 [.string U0, .string U1, .string U2, .slice d3 m3 f3, .slice d4 m4 f4] rfl rfl (five_at hblk) (five_one _ _ _ _ _ rfl rfl) hmx hby hs3 ?_
        intro v5 w5k hown5k hg5k _ hat5k
        obtain ⟨a5k, cp5k, rfl⟩ := sl_of hown5k
        have hadd := hrk.out.add (u := .slice a5k (i + 1) cp5k) (p := ⟨w.heap.size + 1 + 1, 4, none⟩) hR hRn hbk (by omega) (by rw [hlen]; exact hown5k) hg5k hat5k (by show w.heap.size + 1 + 1 < w.heap.size + 3; omega)
        have z15 := z1.grown hg5k nl1
        have z25 := z2.grown hg5k nl2
        have z35 := z3.grown hg5k nl3
        have y35 := z35.frozen 4
        have y354 : w5k.cell? ⟨w.heap.size + 1 + 1, 4, none⟩ = some (.slice ak i ck) := z35.cell 4
        have hb5 := hbw.grown hg5k (by omega) (fun q hq => by have := (hown.lt _ hq).1; omega)
        have hrw5 : RaAt w5k l (.slice none 0 0) ba := hrw.keep fun j hj => hg5k.block j (by have := (hba.out j hj).2; omega) (fun e => by
          have h1 := (hown.lt _ e.symm).2
          exact hbaV.out j hj e.symm)
        have hs5 := hg5k.size
        have y1h := z15.far (p := ⟨w.heap.size + 1 + 1, 4, none⟩) (by show w.heap.size ≠ w.heap.size + 1 + 1; omega) (.slice a5k (i + 1) cp5k)
        have y2h := z25.far (p := ⟨w.heap.size + 1 + 1, 4, none⟩) (by show w.heap.size + 1 ≠ w.heap.size + 1 + 1; omega) (.slice a5k (i + 1) cp5k)
        have y3h := z35.set_ 4 (.slice a5k (i + 1) cp5k)
        have hrh := hrw5.far (p := ⟨w.heap.size + 1 + 1, 4, none⟩) (u := .slice a5k (i + 1) cp5k) (fun j hj => by have := (hba.out j hj).1; show j ≠ w.heap.size + 1 + 1; omega)
        have hbh := hb5.setCell (p := ⟨w.heap.size + 1 + 1, 4, none⟩) (by show w.heap.size ≤ w.heap.size + 1 + 1; omega) (.slice a5k (i + 1) cp5k)
        have hzh : (w5k.setCell ⟨w.heap.size + 1 + 1, 4, none⟩ (.slice a5k (i + 1) cp5k)).heap.size = w5k.heap.size := by simp [World.setCell]
        have hnh : ∀ j ∈ ba, (Value.slice a5k (i + 1) cp5k).ownBlock ≠ some j := fun j hj e => by
          rcases hat5k with h1 | h1
          · exact hbaV.out j hj (h1.symm.trans e)
          · rw [h1] at e; injection e with e; have := (hba.out j hj).2; omega
        have htk : ks.take i ++ [k] = ks.take (i + 1) := by rw [List.take_succ_eq_append_getElem hik, hk.out]
        rw [htk] at hadd
        have hVh : V.heap.size ≤ (w5k.setCell ⟨w.heap.size + 1 + 1, 4, none⟩ (.slice a5k (i + 1) cp5k)).heap.size := by rw [hzh]; omega
        clear hzh hs5 hrw5 hb5 hrw hbw hR hown hmx hby nl1 nl2 nl3 hVw hs3 z1 z2 z3 z15 z25 z35
        replace hadd := Lib.hid hadd
        replace y1h := Lib.hid y1h
        replace y2h := Lib.hid y2h
        replace y3h := Lib.hid y3h
        replace hrh := Lib.hid hrh
        replace hbh := Lib.hid hbh
        replace hnh := Lib.hid hnh
        replace hVh := Lib.hid hVh
        replace hown5k := Lib.hid hown5k
        replace hg5k := Lib.hid hg5k
        replace hat5k := Lib.hid hat5k
        replace hRn := Lib.hid hRn
        replace hbk := Lib.hid hbk
        replace hblk := Lib.hid hblk
        replace htk := Lib.hid htk
        go_wp2
        go_roundw
        case rel => exact ⟨i + 1, a5k, cp5k, _, _, by omega, by go_num, y1h.out, y2h.out, y3h.out, hadd.out, hrh.out, hnh.out, hbh.out, hVh.out⟩
        case measure => simp [RowKit.intOf]; omega
      case k7 =>
        intro x w' hR hd K hK
        simp only [All, GK] at hd
        obtain ⟨e6, _⟩ := hd
        simp (config := {decide := true}) only [upd, GK, fillL, if_true, if_false] at hK ⊢
        simp only [e6] at hK ⊢
        go_simp
        refine (hkid.out w' (hbr.out.trans (hR.mono hbr.out.size))).mono ?_
        rintro e w3 ⟨U0, U1, U2, d3, m3, f3, d4, m4, f4, bk, rfl, hRn, hb, hB⟩
        have hK2 := hK _ _ ⟨hR.trans (hB.mono hR.size), hB, U0, U1, U2, d3, m3, f3, d4, m4, f4, bk, rfl, hRn, fun j hj => ⟨Nat.le_trans hR.size (hb j hj).1, (hb j hj).2⟩⟩
        exact hK2
      case k8 =>
        intro x w' hR hd K hK
        simp only [All, GK] at hd
        obtain ⟨⟨U0, U1, U2, d3, m3, f3, d4, m4, f4, bk, e7, hRn, hb⟩, _⟩ := hd
        simp (config := {decide := true}) only [upd, GK, fillL, if_true, if_false] at hK ⊢
        simp only [e7] at hK ⊢
        go_simp
        have hK2 := hK _ _ ⟨hR.alloc hR.size _, (Below.refl _ _).alloc (Nat.le_refl _) _, U0, U1, U2, d3, m3, f3, d4, m4, f4, bk, w'.heap.size, rfl, Blk.new w' 40 _, hRn.keep fun j hj => Below.heap_alloc _ _ _ (hb j hj).2, fun j hj => ⟨(hb j hj).1, by rw [World.size_alloc]; have := (hb j hj).2; omega⟩⟩
        exact hK2
      all_goals
        intro x w' hR hd K hK
        simp only [All, GK] at hd
        have z1 := y1.out.below hR r1
        have z3 := y3.out.below hR r3
        have z14 := z1.cell 4
        have z34 := z3.cell 4
        have u0 := (hR.cell (p := ⟨g2, 5 * i, none⟩) lgr).trans e0.out
        have u1 := (hR.cell (p := ⟨g2, 5 * i + 1, none⟩) lgr).trans e1.out
        have u2 := (hR.cell (p := ⟨g2, 5 * i + 2, none⟩) lgr).trans e2.out
        have u3 := (hR.cell (p := ⟨g2, 5 * i + 3, none⟩) lgr).trans e3.out
        have u4 := (hR.cell (p := ⟨g2, 5 * i + 4, none⟩) lgr).trans e4.out
        simp (config := {decide := true}) only [upd, GK, fillL, if_true, if_false] at hK ⊢
        repeat (obtain ⟨_, hd⟩ := hd)
        (try simp only [*] at hK ⊢)
        go_simp
        first
          | (have hK2 := hK _ _ ⟨hR, Below.refl _ _, rfl⟩; exact hK2)
          | (rw [Nat.mul_comm i 5]; have hK2 := hK _ _ ⟨hR, Below.refl _ _, rfl⟩; exact hK2)
          | (simp only [Nat.zero_add, Nat.mul_comm i 5]; have hK2 := hK _ _ ⟨hR, Below.refl _ _, rfl⟩; exact hK2)
          | skip
    · have hie : i = ks.length := by omega
      have hlt : decide ((i : Int) < (n2 : Int)) = false := by have := hn2.out; simp; omega
      have hge : n2 ≤ i := by have := hn2.out; omega
      have hge2 : ¬ i < n2 := by omega
      replace hie := Lib.hid hie
      clear hik
      have t0 := y3.cell 0
      have t1 := y3.cell 1
      have t2 := y3.cell 2
      have t3 := y3.cell 3
      have t4 := y3.cell 4
      have s0 := y2.cell 0
      have s1 := y2.cell 1
      have s2 := y2.cell 2
      have s3 := y2.cell 3
      have s4 := y2.cell 4
      have f0 := y2.frozen 0
      have f1 := y2.frozen 1
      have f2 := y2.frozen 2
      have f3 := y2.frozen 3
      have f4 := y2.frozen 4
      have r2 := y2.lt
      replace y1 := Lib.hid y1
      replace y2 := Lib.hid y2
      replace y3 := Lib.hid y3
      replace hrk := Lib.hid hrk
      replace hra2 := Lib.hid hra2
      replace hbr := Lib.hid hbr
      replace hbaV := Lib.hid hbaV
      go_wp2
      have hV2 := put5_blk y2.out (.string ⟨#[]⟩) (.string N) (.string ⟨#[]⟩) (.slice none 0 0) (.slice ak i ck)
      have hS2 := put5_save wr (w.heap.size + 1) (.string ⟨#[]⟩) (.string N) (.string ⟨#[]⟩) (.slice none 0 0) (.slice ak i ck)
      unfold put5 at hV2 hS2
      obtain ⟨U, hU⟩ : ∃ U, U = (((((wr.setCell ⟨w.heap.size + 1, 0, none⟩ (.string ⟨#[]⟩)).setCell ⟨w.heap.size + 1, 1, none⟩ (.string N)).setCell ⟨w.heap.size + 1, 2, none⟩ (.string ⟨#[]⟩)).setCell ⟨w.heap.size + 1, 3, none⟩ (.slice none 0 0)).setCell ⟨w.heap.size + 1, 4, none⟩ (.slice ak i ck)) := ⟨_, rfl⟩
      rw [← hU] at hV2 hS2 ⊢
      have q0 := hV2.cell 0
      have q1 := hV2.cell 1
      have q2 := hV2.cell 2
      have q3 := hV2.cell 3
      have q4 := hV2.cell 4
      obtain ⟨bk, hks, hbk⟩ := hrk.out.ks
      have htl : ks.take i = ks := by rw [hie.out]; exact List.take_length
      rw [htl] at hks
      have hkeep : ∀ j, w.heap.size + 3 ≤ j → j < wr.heap.size → U.heap[j]? = wr.heap[j]? := fun j h1 h2 => hS2.block j h2 (by omega)
      have hsz := hS2.size
      refine bodyPost_ret (v := .agg #[.string ⟨#[]⟩, .string N, .string ⟨#[]⟩, .slice none 0 0, .slice ak i ck]) (by simp [results, Tryd.results11, go_sem, q0, q1, q2, q3, q4]) rfl ⟨_, _, _, _, _, _, _, _, _, ba ++ bk, rfl, ?_, ?_, ?_⟩
      · have := RnAt.el (w := U) nm l ks _ _ ba bk (hra2.out.keep fun j hj => hkeep j (hba.out j hj).1 (Nat.lt_of_lt_of_le (hba.out j hj).2 hVr)) (hks.keep fun j hj => hkeep j (hbk j hj).1 (hbk j hj).2)
        rw [hnm.out] at this
        exact this
      · intro j hj
        rcases List.mem_append.1 hj with h1 | h1
        · have := hba.out j h1; omega
        · have := hbk j h1; omega
      · exact hbr.out.trans (hS2.below (by omega) hbr.out.size)
set_option maxHeartbeats 4000000 in
set_option maxRecDepth 100000 in
theorem node_one {w : World} (N : ByteArray) (nm : List UInt8) (hnm : str nm = .string N) (a2 : Option Addr) (n2 c2 : Nat) (ks : List Nd) (hn2 : n2 = ks.length) (hsm : ks.length ≤ 200000)
    (kid : ∀ i k, ks[i]? = some k → ∃ (g2 : Nat) (K0 K1 K2 : ByteArray) (a3 : Option Addr) (n3 c3 : Nat) (a4 : Option Addr) (n4 c4 : Nat), a2 = some ⟨g2, 0, none⟩ ∧ w.cell? ⟨g2, 5 * i, none⟩ = some (.string K0) ∧ w.cell? ⟨g2, 5 * i + 1, none⟩ = some (.string K1) ∧ w.cell? ⟨g2, 5 * i + 2, none⟩ = some (.string K2) ∧ w.cell? ⟨g2, 5 * i + 3, none⟩ = some (.slice a3 n3 c3) ∧ w.cell? ⟨g2, 5 * i + 4, none⟩ = some (.slice a4 n4 c4) ∧
      ∀ w', Below w.heap.size w w' → Calls Tryd.prog 11 #[.agg #[.string K0, .string K1, .string K2, .slice a3 n3 c3, .slice a4 n4 c4]] w' (NodeOf w' k))
    (A0 A1 A2 : ByteArray) (g cap : Nat) (hcap : 1 ≤ cap) (h0 : w.cell? ⟨g, 0, none⟩ = some (.string A0)) (h1 : w.cell? ⟨g, 1, none⟩ = some (.string A1)) (h2 : w.cell? ⟨g, 2, none⟩ = some (.string A2)) (l : List (List UInt8 × List UInt8)) (hl : l.length = 1) (hla : atV l = [.string A0, .string A1, .string A2]) :
    Calls Tryd.prog 11 #[.agg #[.string ⟨#[]⟩, .string N, .string ⟨#[]⟩, .slice (some ⟨g, 0, none⟩) 1 cap, .slice a2 n2 c2]] w (NodeOf w (.el nm l ks)) := by
  obtain ⟨i1, hi1, hy0, hy1, hy2⟩ := rnode_info
  replace hi1 := Lib.hid hi1
  replace hy0 := Lib.hid hy0
  replace hy1 := Lib.hid hy1
  replace hy2 := Lib.hid hy2
  replace hnm := Lib.hid hnm
  replace kid := Lib.hid kid
  have x1 : Blk (((w.alloc (.cells #[.string ⟨#[]⟩, .string N, .string ⟨#[]⟩, .slice (some ⟨g, 0, none⟩) 1 cap, .slice a2 n2 c2] 27)).alloc (.cells z5 40)).alloc (.cells #[.string ⟨#[]⟩, .string N, .string ⟨#[]⟩, .slice none 0 0, .slice none 0 0] 40)) w.heap.size 27 #[.string ⟨#[]⟩, .string N, .string ⟨#[]⟩, .slice (some ⟨g, 0, none⟩) 1 cap, .slice a2 n2 c2] := ((Blk.new w 27 _).alloc _).alloc _
  have x2 : Blk (((w.alloc (.cells #[.string ⟨#[]⟩, .string N, .string ⟨#[]⟩, .slice (some ⟨g, 0, none⟩) 1 cap, .slice a2 n2 c2] 27)).alloc (.cells z5 40)).alloc (.cells #[.string ⟨#[]⟩, .string N, .string ⟨#[]⟩, .slice none 0 0, .slice none 0 0] 40)) (w.heap.size + 1) 40 z5 := by
    have := Blk.new (w.alloc (.cells #[.string ⟨#[]⟩, .string N, .string ⟨#[]⟩, .slice (some ⟨g, 0, none⟩) 1 cap, .slice a2 n2 c2] 27)) 40 z5
    rw [World.size_alloc] at this
    exact this.alloc _
  have x3 : Blk (((w.alloc (.cells #[.string ⟨#[]⟩, .string N, .string ⟨#[]⟩, .slice (some ⟨g, 0, none⟩) 1 cap, .slice a2 n2 c2] 27)).alloc (.cells z5 40)).alloc (.cells #[.string ⟨#[]⟩, .string N, .string ⟨#[]⟩, .slice none 0 0, .slice none 0 0] 40)) (w.heap.size + 1 + 1) 40 #[.string ⟨#[]⟩, .string N, .string ⟨#[]⟩, .slice none 0 0, .slice none 0 0] := by
    have := Blk.new ((w.alloc (.cells #[.string ⟨#[]⟩, .string N, .string ⟨#[]⟩, .slice (some ⟨g, 0, none⟩) 1 cap, .slice a2 n2 c2] 27)).alloc (.cells z5 40)) 40 #[.string ⟨#[]⟩, .string N, .string ⟨#[]⟩, .slice none 0 0, .slice none 0 0]
    rw [World.size_alloc, World.size_alloc] at this
    exact this
  have b0 : Below w.heap.size w (((w.alloc (.cells #[.string ⟨#[]⟩, .string N, .string ⟨#[]⟩, .slice (some ⟨g, 0, none⟩) 1 cap, .slice a2 n2 c2] 27)).alloc (.cells z5 40)).alloc (.cells #[.string ⟨#[]⟩, .string N, .string ⟨#[]⟩, .slice none 0 0, .slice none 0 0] 40)) := (((Below.refl _ _).alloc (Nat.le_refl _) _).alloc (by simp) _).alloc (by simp; omega) _
  have s0 : (((w.alloc (.cells #[.string ⟨#[]⟩, .string N, .string ⟨#[]⟩, .slice (some ⟨g, 0, none⟩) 1 cap, .slice a2 n2 c2] 27)).alloc (.cells z5 40)).alloc (.cells #[.string ⟨#[]⟩, .string N, .string ⟨#[]⟩, .slice none 0 0, .slice none 0 0] 40)).heap.size = w.heap.size + 3 := by simp [World.size_alloc]
  replace x1 := Lib.hid x1
  replace x2 := Lib.hid x2
  replace x3 := Lib.hid x3
  replace b0 := Lib.hid b0
  replace s0 := Lib.hid s0
  have hg := cell_lt h0
  obtain ⟨i0, hi0, hz0, hz1, hz2⟩ := rattr_info
  replace hi0 := Lib.hid hi0
  replace hz0 := Lib.hid hz0
  replace hz1 := Lib.hid hz1
  replace hz2 := Lib.hid hz2
  replace hl := Lib.hid hl
  replace hla := Lib.hid hla
  replace hn2 := Lib.hid hn2
  go_enter Tryd.func11, Tryd.ntmps11
  go_wp2
  refine wp_loop_rounds 2 ?_; rw [rounds_succ]
  go_wp2_with (fail)
  obtain ⟨W, hW⟩ : ∃ W, W = (((w.alloc (.cells #[.string ⟨#[]⟩, .string N, .string ⟨#[]⟩, .slice (some ⟨g, 0, none⟩) 1 cap, .slice a2 n2 c2] 27)).alloc (.cells z5 40)).alloc (.cells #[.string ⟨#[]⟩, .string N, .string ⟨#[]⟩, .slice none 0 0, .slice none 0 0] 40)) := ⟨_, rfl⟩
  have x1 := x1.out
  have x2 := x2.out
  have x3 := x3.out
  have b0 := b0.out
  have s0 := s0.out
  unfold z5 at hW x1 x2 x3 b0 s0
  rw [← hW] at x1 x2 x3 b0 s0 ⊢
  replace hW := Lib.hid hW
  have l1 : w.heap.size < W.heap.size := by omega
  have l2 : w.heap.size + 1 < W.heap.size := by omega
  have l3 : w.heap.size + 1 + 1 < W.heap.size := by omega
  replace s0 := Lib.hid s0
  have q0 : W.cell? ⟨g, 0, none⟩ = some (.string A0) := (b0.cell (p := ⟨g, 0, none⟩) hg).trans h0
  have q1 : W.cell? ⟨g, 1, none⟩ = some (.string A1) := (b0.cell (p := ⟨g, 1, none⟩) hg).trans h1
  have q2 : W.cell? ⟨g, 2, none⟩ = some (.string A2) := (b0.cell (p := ⟨g, 2, none⟩) hg).trans h2
  have lg : g < W.heap.size := by omega
  rename_i K0 hK0
  refine wp_lin_tail (by kernel_rfl) [none, none, none, none, none, none, none, none, none, none, none, none, none, none, none, none, none, none, none, none, some 0, some 1, some 2, some 3, some 4, some 5, some 6, some 7, some 8, some 9, some 10, some 11, some 12, some 13, some 14, some 15, some 16, some 17, some 18, some 19, some 20, some 21, none, none, none, none, none, none, none, none, none, none, none, none, none, none, none, none, none, none, none, none, none] (fun w' => Below W.heap.size W w') (fun w' w'' => Below w'.heap.size w' w'') (GA W.heap.size w.heap.size (w.heap.size + 1 + 1) g cap A0 A1 A2) (by rfl) (by kernel_rfl) 22 _ rfl (by decide) (by kernel_rfl) [1, 22, 3, 5, 5, 6, 7, 20, 9, 11, 11, 12, 13, 20, 15, 17, 17, 18, 19, 20, 21, 22, 0] (by kernel_rfl) ?hR ?mono (.cons 21 (step_of [20] rfl (by kernel_rfl) ?s21) (.cons 20 (step_of [7, 13, 19] rfl (by kernel_rfl) ?s20) (.cons 19 (step_of [18] rfl (by kernel_rfl) ?s19) (.cons 18 (step_of [17] rfl (by kernel_rfl) ?s18) (.cons 17 (step_of [15, 16] rfl (by kernel_rfl) ?s17) (.cons 16 (step_of [] rfl (by kernel_rfl) ?s16) (.cons 15 (step_of [14] rfl (by kernel_rfl) ?s15) (.cons 14 (step_of [] rfl (by kernel_rfl) ?s14) (.cons 13 (step_of [12] rfl (by kernel_rfl) ?s13) (.cons 12 (step_of [11] rfl (by kernel_rfl) ?s12) (.cons 11 (step_of [9, 10] rfl (by kernel_rfl) ?s11) (.cons 10 (step_of [] rfl (by kernel_rfl) ?s10) (.cons 9 (step_of [8] rfl (by kernel_rfl) ?s9) (.cons 8 (step_of [] rfl (by kernel_rfl) ?s8) (.cons 7 (step_of [6] rfl (by kernel_rfl) ?s7) (.cons 6 (step_of [5] rfl (by kernel_rfl) ?s6) (.cons 5 (step_of [3, 4] rfl (by kernel_rfl) ?s5) (.cons 4 (step_of [] rfl (by kernel_rfl) ?s4) (.cons 3 (step_of [2] rfl (by kernel_rfl) ?s3) (.cons 2 (step_of [] rfl (by kernel_rfl) ?s2) (.cons 1 (step_of [0] rfl (by kernel_rfl) ?s1) (.cons 0 (step_of [] rfl (by kernel_rfl) ?s0) (.nil))))))))))))))))))))))) ?done
  case hR => exact (Below.refl _ _).drew
  case mono => exact GA_mono
  case done =>
    intro x w' hR hG fr hfr
    have h1 := hG 1 (by omega)
    have h21 := hG 21 (by omega)
    simp only [GA] at h1 h21
    clear hG
    obtain ⟨h, e21, hh1, hblk⟩ := h21
    simp only [fillL] at hfr
    rw [h1, e21] at hfr
    subst hfr
    have z1 := Lib.hid (x1.below hR l1)
    have z2 := Lib.hid (x2.below hR l2)
    have z3 := Lib.hid (x3.below hR l3)
    have hs3 : w.heap.size + 3 ≤ w'.heap.size := by have := s0.out; have := hR.size; omega
    have hbw := Lib.hid (b0.trans (hR.mono b0.size))
    replace hR := Lib.hid hR
    replace x1 := Lib.hid x1
    replace x2 := Lib.hid x2
    replace x3 := Lib.hid x3
    replace b0 := Lib.hid b0
    clear q0 q1 q2
    refine wpList_append_own_at _ rfl (.tmp 21) (.tmp 41) 37 rfl (w.heap.size + 3) 49 i0 _ 3 48 Tryd.underlying37 hi0.out hz0.out hz1.out hz2.out rfl (by decide) (.slice none 0 0) 0 [] rfl (World.ownsRow_nil _ _ _ _) ⟨h, 0, none⟩ 1 1 [.string A0, .string A1, .string A2] rfl rfl (three_at hblk) (three_one _ _ _) (by decide) (by decide) hs3 ?_
    intro v5 w5 hown5 hg5 _ hat5
    obtain ⟨a5, cp5, rfl⟩ := sl_of hown5
    have z15 := Lib.hid (z1.out.grown hg5 (by simp [Value.ownBlock])); have z25 := Lib.hid (z2.out.grown hg5 (by simp [Value.ownBlock])); have z35 := z3.out.grown hg5 (by simp [Value.ownBlock]); have y35 := z35.frozen 3; have y353 : w5.cell? ⟨w.heap.size + 1 + 1, 3, none⟩ = some (.slice none 0 0) := z35.cell 3; have hb5 := Lib.hid (hbw.out.grown hg5 (by omega) (fun g hg => by simp [Value.ownBlock] at hg)); have hg5s := hg5.size; replace hown5 := Lib.hid hown5; replace hg5 := Lib.hid hg5; replace hat5 := Lib.hid hat5; replace z35 := Lib.hid z35
    go_wp2
    have hra0 := ra_one hown5.out hl.out hla.out
    obtain ⟨ba, hra1, hba1⟩ := hra0
    obtain ⟨V, hV⟩ : ∃ V, V = w5.setCell ⟨w.heap.size + 1 + 1, 3, none⟩ (.slice a5 1 cp5) := ⟨_, rfl⟩
    have zV : V.heap.size = w5.heap.size := by rw [hV]; simp [World.setCell]
    have v1 : Blk V w.heap.size 27 #[.string ⟨#[]⟩, .string N, .string ⟨#[]⟩, .slice (some ⟨g, 0, none⟩) 1 cap, .slice a2 n2 c2] := by rw [hV]; exact z15.out.far (by show w.heap.size ≠ w.heap.size + 1 + 1; omega) _
    have v2 : Blk V (w.heap.size + 1) 40 #[.string ⟨#[]⟩, .string ⟨#[]⟩, .string ⟨#[]⟩, .slice none 0 0, .slice none 0 0] := by rw [hV]; exact z25.out.far (by show w.heap.size + 1 ≠ w.heap.size + 1 + 1; omega) _
    have v3 : Blk V (w.heap.size + 1 + 1) 40 #[.string ⟨#[]⟩, .string N, .string ⟨#[]⟩, .slice a5 1 cp5, .slice none 0 0] := by rw [hV]; exact z35.out.set_ 3 _
    have hra : RaAt V l (.slice a5 1 cp5) ba := by rw [hV]; exact hra1.far fun k hk => by have := (hba1 k hk).1; show k ≠ w.heap.size + 1 + 1; omega
    have hba : ∀ k ∈ ba, w.heap.size + 3 ≤ k ∧ k < V.heap.size := fun k hk => by rw [zV]; exact hba1 k hk
    have bV : Below w.heap.size w V := by rw [hV]; exact hb5.out.setCell (by show w.heap.size ≤ w.heap.size + 1 + 1; omega) _
    have sV : w.heap.size + 3 ≤ V.heap.size := by rw [zV]; omega
    rw [← hV]
    replace hV := Lib.hid hV
    have v13 : V.cell? ⟨w.heap.size, 3, none⟩ = some (.slice (some ⟨g, 0, none⟩) 1 cap) := v1.cell 3
    replace v1 := Lib.hid v1
    replace v2 := Lib.hid v2
    replace v3 := Lib.hid v3
    replace hra := Lib.hid hra
    replace hba := Lib.hid hba
    replace bV := Lib.hid bV
    rw [rounds_succ]
    go_wp2
    clear v13
    go_loopw [5] (fun s5 wr => ∃ (i : Nat) (ak : Option Addr) (ck : Nat) (us : List Value) (b : List Nat), i ≤ ks.length ∧ s5 = .int .i64 i ∧ Blk wr w.heap.size 27 #[.string ⟨#[]⟩, .string N, .string ⟨#[]⟩, .slice (some ⟨g, 0, none⟩) 1 cap, .slice a2 n2 c2] ∧ Blk wr (w.heap.size + 1) 40 #[.string ⟨#[]⟩, .string ⟨#[]⟩, .string ⟨#[]⟩, .slice none 0 0, .slice none 0 0] ∧ Blk wr (w.heap.size + 1 + 1) 40 #[.string ⟨#[]⟩, .string N, .string ⟨#[]⟩, .slice a5 1 cp5, .slice ak i ck] ∧ RKids (w.heap.size + 3) wr (.slice ak i ck) (ks.take i) us b ∧ RaAt wr l (.slice a5 1 cp5) ba ∧ (∀ j ∈ ba, (Value.slice ak i ck).ownBlock ≠ some j) ∧ Below w.heap.size w wr ∧ V.heap.size ≤ wr.heap.size) (fun s5 _ => ks.length - (RowKit.intOf s5).toNat)
    case atStart => exact ⟨0, none, 0, [], [], Nat.zero_le _, rfl, v1.out, v2.out, v3.out, RKids.nil _ _, hra.out, fun j _ h => by simp [Value.ownBlock] at h, bV.out, Nat.le_refl _⟩
    case round =>
      obtain ⟨i, ak, ck, us, b, hi, rfl, y1, y2, y3, hrk, hra2, hbaV, hbr, hVr⟩ := hrel
      have y14 : wr.cell? ⟨w.heap.size, 4, none⟩ = some (.slice a2 n2 c2) := y1.cell 4
      by_cases hik : i < ks.length
      · obtain ⟨k, hk⟩ : ∃ k, k = ks[i] := ⟨_, rfl⟩
        have hki : ks[i]? = some k := by rw [hk]; exact List.getElem?_eq_getElem hik
        obtain ⟨g2, K0, K1, K2, a3, n3, c3, a4, n4, c4, rfl, k0, k1, k2, k3, k4, hkid⟩ := kid.out i k hki
        have lg2 : g2 < w.heap.size := cell_lt k0
        have hlt : decide ((i : Int) < (n2 : Int)) = true := by have := hn2.out; simp; omega
        have hn2i : i < n2 := by have := hn2.out; omega
        have e0 := (hbr.cell lg2).trans k0
        have e1 := (hbr.cell (p := ⟨g2, 5 * i + 1, none⟩) lg2).trans k1
        have e2 := (hbr.cell (p := ⟨g2, 5 * i + 2, none⟩) lg2).trans k2
        have e3 := (hbr.cell (p := ⟨g2, 5 * i + 3, none⟩) lg2).trans k3
        have e4 := (hbr.cell (p := ⟨g2, 5 * i + 4, none⟩) lg2).trans k4
        have lgr : g2 < wr.heap.size := by have := hbr.size; omega
        have r1 : w.heap.size < wr.heap.size := y1.lt
        have r2 : w.heap.size + 1 < wr.heap.size := y2.lt
        have r3 : w.heap.size + 1 + 1 < wr.heap.size := y3.lt
        clear k0 k1 k2 k3 k4
        replace y1 := Lib.hid y1
        replace y2 := Lib.hid y2
        replace y3 := Lib.hid y3
        replace hrk := Lib.hid hrk
        replace hra2 := Lib.hid hra2
        replace hbr := Lib.hid hbr
        replace hbaV := Lib.hid hbaV
        replace hkid := Lib.hid hkid
        replace hk := Lib.hid hk
        replace hki := Lib.hid hki
        replace e0 := Lib.hid e0
        replace e1 := Lib.hid e1
        replace e2 := Lib.hid e2
        replace e3 := Lib.hid e3
        replace e4 := Lib.hid e4
        go_wp2_with (fail)
        rename_i K0' hK0'
        refine wp_lin_tail (by kernel_rfl) [none, none, none, none, none, none, none, none, none, none, none, none, none, none, none, none, none, none, none, none, none, none, none, none, none, none, none, none, none, none, none, none, none, none, none, none, none, none, none, none, none, none, none, none, none, none, none, none, none, none, none, some 0, some 1, some 2, some 3, some 4, some 5, some 6, some 7, some 8, none, none, none] (fun w' => Below wr.heap.size wr w') (fun w' w'' => Below w'.heap.size w' w'') (GK wr.heap.size w.heap.size (w.heap.size + 1 + 1) g2 n2 c2 i (.slice ak i ck) k K0 K1 K2 a3 n3 c3 a4 n4 c4) (by rfl) (by kernel_rfl) 9 _ rfl (by decide) (by kernel_rfl) [1, 9, 3, 5, 5, 6, 7, 9, 9, 0] (by kernel_rfl) ?khR ?kmono (.cons 8 (step_of [7] rfl (by kernel_rfl) ?k8) (.cons 7 (step_of [6] rfl (by kernel_rfl) ?k7) (.cons 6 (step_of [5] rfl (by kernel_rfl) ?k6) (.cons 5 (step_of [3, 4] rfl (by kernel_rfl) ?k5) (.cons 4 (step_of [] rfl (by kernel_rfl) ?k4) (.cons 3 (step_of [2] rfl (by kernel_rfl) ?k3) (.cons 2 (step_of [] rfl (by kernel_rfl) ?k2) (.cons 1 (step_of [0] rfl (by kernel_rfl) ?k1) (.cons 0 (step_of [] rfl (by kernel_rfl) ?k0) (.nil)))))))))) ?kdone
        case khR => exact (Below.refl _ _).drew
        case kmono => exact GK_mono
        case kdone =>
          intro x w' hR hG fr hfr
          have g1 := hG 1 (by omega)
          have g8 := hG 8 (by omega)
          simp only [GK] at g1 g8
          clear hG
          obtain ⟨U0, U1, U2, d3, m3, f3, d4, m4, f4, bk, h, e8, hblk, hRn, hbk⟩ := g8
          simp only [fillL] at hfr
          rw [g1, e8] at hfr
          subst hfr
          have hlen : (ks.take i).length = i := by rw [List.length_take]; omega
          have hown := hrk.out.own
          rw [hlen] at hown
          have hs3 : w.heap.size + 3 ≤ w'.heap.size := by have := hR.size; omega
          have hmx : i + 1 ≤ maxLen := by unfold maxLen; omega
          have hby : (i + 1) * 96 ≤ 140737488355328 := by omega
          have nl1 : some w.heap.size ≠ (Value.slice ak i ck).ownBlock := fun e => by have := (hown.lt _ e.symm).1; omega
          have nl2 : some (w.heap.size + 1) ≠ (Value.slice ak i ck).ownBlock := fun e => by have := (hown.lt _ e.symm).1; omega
          have nl3 : some (w.heap.size + 1 + 1) ≠ (Value.slice ak i ck).ownBlock := fun e => by have := (hown.lt _ e.symm).1; omega
          have z1 := y1.out.below hR r1
          have z2 := y2.out.below hR r2
          have z3 := y3.out.below hR r3
          have hbw := hbr.out.trans (hR.mono hbr.out.size)
          have hrw : RaAt w' l (.slice a5 1 cp5) ba := hra2.out.keep fun j hj => hR.block j (by have := (hba.out j hj).2; omega)
          have hVw : V.heap.size ≤ w'.heap.size := by have := hR.size; omega
          refine wpList_append_own_at _ rfl (.tmp 52) (.tmp 59) 38 rfl (w.heap.size + 3) 40 i1 _ 5 96 Tryd.underlying38 hi1.out hy0.out hy1.out hy2.out rfl (by decide) (.slice ak i ck) i us rfl (own_below hown hR) ⟨h, 0, none⟩ 1 1 [.string U0, .string U1, .string U2, .slice d3 m3 f3, .slice d4 m4 f4] rfl rfl (five_at hblk) (five_one _ _ _ _ _ rfl rfl) hmx hby hs3 ?_
          intro v5 w5k hown5k hg5k _ hat5k
          obtain ⟨a5k, cp5k, rfl⟩ := sl_of hown5k
          have hadd := hrk.out.add (u := .slice a5k (i + 1) cp5k) (p := ⟨w.heap.size + 1 + 1, 4, none⟩) hR hRn hbk (by omega) (by rw [hlen]; exact hown5k) hg5k hat5k (by show w.heap.size + 1 + 1 < w.heap.size + 3; omega)
          have z15 := z1.grown hg5k nl1
          have z25 := z2.grown hg5k nl2
          have z35 := z3.grown hg5k nl3
          have y35 := z35.frozen 4
          have y354 : w5k.cell? ⟨w.heap.size + 1 + 1, 4, none⟩ = some (.slice ak i ck) := z35.cell 4
          have hb5 := hbw.grown hg5k (by omega) (fun q hq => by have := (hown.lt _ hq).1; omega)
          have hrw5 : RaAt w5k l (.slice a5 1 cp5) ba := hrw.keep fun j hj => hg5k.block j (by have := (hba.out j hj).2; omega) (fun e => by
            have h1 := (hown.lt _ e.symm).2
            exact hbaV.out j hj e.symm)
          have hs5 := hg5k.size
          have y1h := z15.far (p := ⟨w.heap.size + 1 + 1, 4, none⟩) (by show w.heap.size ≠ w.heap.size + 1 + 1; omega) (.slice a5k (i + 1) cp5k)
          have y2h := z25.far (p := ⟨w.heap.size + 1 + 1, 4, none⟩) (by show w.heap.size + 1 ≠ w.heap.size + 1 + 1; omega) (.slice a5k (i + 1) cp5k)
          have y3h := z35.set_ 4 (.slice a5k (i + 1) cp5k)
          have hrh := hrw5.far (p := ⟨w.heap.size + 1 + 1, 4, none⟩) (u := .slice a5k (i + 1) cp5k) (fun j hj => by have := (hba.out j hj).1; show j ≠ w.heap.size + 1 + 1; omega)
          have hbh := hb5.setCell (p := ⟨w.heap.size + 1 + 1, 4, none⟩) (by show w.heap.size ≤ w.heap.size + 1 + 1; omega) (.slice a5k (i + 1) cp5k)
          have hzh : (w5k.setCell ⟨w.heap.size + 1 + 1, 4, none⟩ (.slice a5k (i + 1) cp5k)).heap.size = w5k.heap.size := by simp [World.setCell]
          have hnh : ∀ j ∈ ba, (Value.slice a5k (i + 1) cp5k).ownBlock ≠ some j := fun j hj e => by
            rcases hat5k with h1 | h1
            · exact hbaV.out j hj (h1.symm.trans e)
            · rw [h1] at e; injection e with e; have := (hba.out j hj).2; omega
          have htk : ks.take i ++ [k] = ks.take (i + 1) := by rw [List.take_succ_eq_append_getElem hik, hk.out]
          rw [htk] at hadd
          have hVh : V.heap.size ≤ (w5k.setCell ⟨w.heap.size + 1 + 1, 4, none⟩ (.slice a5k (i + 1) cp5k)).heap.size := by rw [hzh]; omega
          clear hzh hs5 hrw5 hb5 hrw hbw hR hown hmx hby nl1 nl2 nl3 hVw hs3 z1 z2 z3 z15 z25 z35
          replace hadd := Lib.hid hadd
          replace y1h := Lib.hid y1h
          replace y2h := Lib.hid y2h
          replace y3h := Lib.hid y3h
          replace hrh := Lib.hid hrh
          replace hbh := Lib.hid hbh
          replace hnh := Lib.hid hnh
          replace hVh := Lib.hid hVh
          replace hown5k := Lib.hid hown5k
          replace hg5k := Lib.hid hg5k
          replace hat5k := Lib.hid hat5k
          replace hRn := Lib.hid hRn
          replace hbk := Lib.hid hbk
          replace hblk := Lib.hid hblk
          replace htk := Lib.hid htk
          go_wp2
          go_roundw
          case rel => exact ⟨i + 1, a5k, cp5k, _, _, by omega, by go_num, y1h.out, y2h.out, y3h.out, hadd.out, hrh.out, hnh.out, hbh.out, hVh.out⟩
          case measure => simp [RowKit.intOf]; omega
        case k7 =>
          intro x w' hR hd K hK
          simp only [All, GK] at hd
          obtain ⟨e6, _⟩ := hd
          simp (config := {decide := true}) only [upd, GK, fillL, if_true, if_false] at hK ⊢
          simp only [e6] at hK ⊢
          go_simp
          refine (hkid.out w' (hbr.out.trans (hR.mono hbr.out.size))).mono ?_
          rintro e w3 ⟨U0, U1, U2, d3, m3, f3, d4, m4, f4, bk, rfl, hRn, hb, hB⟩
          have hK2 := hK _ _ ⟨hR.trans (hB.mono hR.size), hB, U0, U1, U2, d3, m3, f3, d4, m4, f4, bk, rfl, hRn, fun j hj => ⟨Nat.le_trans hR.size (hb j hj).1, (hb j hj).2⟩⟩
          exact hK2
        case k8 =>
          intro x w' hR hd K hK
          simp only [All, GK] at hd
          obtain ⟨⟨U0, U1, U2, d3, m3, f3, d4, m4, f4, bk, e7, hRn, hb⟩, _⟩ := hd
          simp (config := {decide := true}) only [upd, GK, fillL, if_true, if_false] at hK ⊢
          simp only [e7] at hK ⊢
          go_simp
          have hK2 := hK _ _ ⟨hR.alloc hR.size _, (Below.refl _ _).alloc (Nat.le_refl _) _, U0, U1, U2, d3, m3, f3, d4, m4, f4, bk, w'.heap.size, rfl, Blk.new w' 40 _, hRn.keep fun j hj => Below.heap_alloc _ _ _ (hb j hj).2, fun j hj => ⟨(hb j hj).1, by rw [World.size_alloc]; have := (hb j hj).2; omega⟩⟩
          exact hK2
        all_goals
          intro x w' hR hd K hK
          simp only [All, GK] at hd
          have z1 := y1.out.below hR r1
          have z3 := y3.out.below hR r3
          have z14 := z1.cell 4
          have z34 := z3.cell 4
          have u0 := (hR.cell (p := ⟨g2, 5 * i, none⟩) lgr).trans e0.out
          have u1 := (hR.cell (p := ⟨g2, 5 * i + 1, none⟩) lgr).trans e1.out
          have u2 := (hR.cell (p := ⟨g2, 5 * i + 2, none⟩) lgr).trans e2.out
          have u3 := (hR.cell (p := ⟨g2, 5 * i + 3, none⟩) lgr).trans e3.out
          have u4 := (hR.cell (p := ⟨g2, 5 * i + 4, none⟩) lgr).trans e4.out
          simp (config := {decide := true}) only [upd, GK, fillL, if_true, if_false] at hK ⊢
          repeat (obtain ⟨_, hd⟩ := hd)
          (try simp only [*] at hK ⊢)
          go_simp
          first
            | (have hK2 := hK _ _ ⟨hR, Below.refl _ _, rfl⟩; exact hK2)
            | (rw [Nat.mul_comm i 5]; have hK2 := hK _ _ ⟨hR, Below.refl _ _, rfl⟩; exact hK2)
            | (simp only [Nat.zero_add, Nat.mul_comm i 5]; have hK2 := hK _ _ ⟨hR, Below.refl _ _, rfl⟩; exact hK2)
            | skip
      · have hie : i = ks.length := by omega
        have hlt : decide ((i : Int) < (n2 : Int)) = false := by have := hn2.out; simp; omega
        have hge : n2 ≤ i := by have := hn2.out; omega
        have hge2 : ¬ i < n2 := by omega
        replace hie := Lib.hid hie
        clear hik
        have t0 := y3.cell 0
        have t1 := y3.cell 1
        have t2 := y3.cell 2
        have t3 := y3.cell 3
        have t4 := y3.cell 4
        have s0 := y2.cell 0
        have s1 := y2.cell 1
        have s2 := y2.cell 2
        have s3 := y2.cell 3
        have s4 := y2.cell 4
        have f0 := y2.frozen 0
        have f1 := y2.frozen 1
        have f2 := y2.frozen 2
        have f3 := y2.frozen 3
        have f4 := y2.frozen 4
        have r2 := y2.lt
        replace y1 := Lib.hid y1
        replace y2 := Lib.hid y2
        replace y3 := Lib.hid y3
        replace hrk := Lib.hid hrk
        replace hra2 := Lib.hid hra2
        replace hbr := Lib.hid hbr
        replace hbaV := Lib.hid hbaV
        go_wp2
        have hV2 := put5_blk y2.out (.string ⟨#[]⟩) (.string N) (.string ⟨#[]⟩) (.slice a5 1 cp5) (.slice ak i ck)
        have hS2 := put5_save wr (w.heap.size + 1) (.string ⟨#[]⟩) (.string N) (.string ⟨#[]⟩) (.slice a5 1 cp5) (.slice ak i ck)
        unfold put5 at hV2 hS2
        obtain ⟨U, hU⟩ : ∃ U, U = (((((wr.setCell ⟨w.heap.size + 1, 0, none⟩ (.string ⟨#[]⟩)).setCell ⟨w.heap.size + 1, 1, none⟩ (.string N)).setCell ⟨w.heap.size + 1, 2, none⟩ (.string ⟨#[]⟩)).setCell ⟨w.heap.size + 1, 3, none⟩ (.slice a5 1 cp5)).setCell ⟨w.heap.size + 1, 4, none⟩ (.slice ak i ck)) := ⟨_, rfl⟩
        rw [← hU] at hV2 hS2 ⊢
        have q0 := hV2.cell 0
        have q1 := hV2.cell 1
        have q2 := hV2.cell 2
        have q3 := hV2.cell 3
        have q4 := hV2.cell 4
        obtain ⟨bk, hks, hbk⟩ := hrk.out.ks
        have htl : ks.take i = ks := by rw [hie.out]; exact List.take_length
        rw [htl] at hks
        have hkeep : ∀ j, w.heap.size + 3 ≤ j → j < wr.heap.size → U.heap[j]? = wr.heap[j]? := fun j h1 h2 => hS2.block j h2 (by omega)
        have hsz := hS2.size
        refine bodyPost_ret (v := .agg #[.string ⟨#[]⟩, .string N, .string ⟨#[]⟩, .slice a5 1 cp5, .slice ak i ck]) (by simp [results, Tryd.results11, go_sem, q0, q1, q2, q3, q4]) rfl ⟨_, _, _, _, _, _, _, _, _, ba ++ bk, rfl, ?_, ?_, ?_⟩
        · have := RnAt.el (w := U) nm l ks _ _ ba bk (hra2.out.keep fun j hj => hkeep j (hba.out j hj).1 (Nat.lt_of_lt_of_le (hba.out j hj).2 hVr)) (hks.keep fun j hj => hkeep j (hbk j hj).1 (hbk j hj).2)
          rw [hnm.out] at this
          exact this
        · intro j hj
          rcases List.mem_append.1 hj with h1 | h1
          · have := hba.out j h1; omega
          · have := hbk j h1; omega
        · exact hbr.out.trans (hS2.below (by omega) hbr.out.size)
  case s21 =>
    intro x w' hR hd K hK
    simp only [All, GA] at hd
    obtain ⟨e20, _⟩ := hd
    simp (config := {decide := true}) only [upd, GA, fillL, if_true, if_false] at hK ⊢
    simp only [e20] at hK ⊢
    go_simp
    have hK2 := hK _ _ ⟨hR.alloc hR.size _, (Below.refl _ _).alloc (Nat.le_refl _) _, _, rfl, hR.size, Blk.new w' 49 _⟩
    exact hK2
  all_goals
    intro x w' hR hd K hK
    simp only [All, GA] at hd
    have z1 := x1.below hR l1
    have z3 := x3.below hR l3
    have z13 := z1.cell 3
    have z33 := z3.cell 3
    have u0 := (hR.cell (p := ⟨g, 0, none⟩) lg).trans q0
    have u1 := (hR.cell (p := ⟨g, 1, none⟩) lg).trans q1
    have u2 := (hR.cell (p := ⟨g, 2, none⟩) lg).trans q2
    simp (config := {decide := true}) only [upd, GA, fillL, if_true, if_false] at hK ⊢
    repeat (obtain ⟨_, hd⟩ := hd)
    (try simp only [*] at hK ⊢)
    go_simp
    have hK2 := hK _ _ ⟨hR, Below.refl _ _, rfl⟩
    exact hK2
end Go.Proofs.YtgomlebemefdcaaDoor

/- The law's node at any node that is not too wide. No condition. -/
namespace Go.Proofs.YtgomlebemefdcaaDoor
open Go Go.RowKit Go.Wk Go.Xt Go.Xe
theorem ks_len {w : World} {ks : List Nd} {a : Option Addr} {n c : Nat} {b : List Nat} (h : KsAt w ks (.slice a n c) b) : n = ks.length := by
  cases h with
  | nil => rfl
  | row ks g cap vs b h1 h2 => rfl
theorem ks_get {w : World} {ks : List Nd} {a : Option Addr} {n c : Nat} {b : List Nat} (h : KsAt w ks (.slice a n c) b) (i : Nat) (k : Nd) (hk : ks[i]? = some k) :
    ∃ (g : Nat) (K0 K1 K2 : ByteArray) (a3 : Option Addr) (n3 c3 : Nat) (a4 : Option Addr) (n4 c4 : Nat) (bk : List Nat), a = some ⟨g, 0, none⟩ ∧ NdAt w k [.string K0, .string K1, .string K2, .slice a3 n3 c3, .slice a4 n4 c4] bk ∧ (∀ j ∈ bk, j ∈ b) ∧ w.cell? ⟨g, 5 * i, none⟩ = some (.string K0) ∧ w.cell? ⟨g, 5 * i + 1, none⟩ = some (.string K1) ∧ w.cell? ⟨g, 5 * i + 2, none⟩ = some (.string K2) ∧ w.cell? ⟨g, 5 * i + 3, none⟩ = some (.slice a3 n3 c3) ∧ w.cell? ⟨g, 5 * i + 4, none⟩ = some (.slice a4 n4 c4) := by
  cases h with
  | nil => simp at hk
  | row ks g cap vs b h1 h2 =>
    have hi : i < ks.length := by
      rcases Nat.lt_or_ge i ks.length with h' | h'
      · exact h'
      · rw [List.getElem?_eq_none h'] at hk; cases hk
    obtain ⟨us, bk, hn, hb, hv⟩ := h2.get i k hk
    obtain ⟨U0, U1, U2, a3, n3, c3, a4, n4, c4, rfl⟩ := hn.shape
    have hc := fun j (hj : j < 5) => (own_cells h1 (5 * i + j) (by omega)).trans (hv j hj)
    exact ⟨g, U0, U1, U2, a3, n3, c3, a4, n4, c4, bk, rfl, hn, fun j hj => by simp [hb j hj], hc 0 (by omega), hc 1 (by omega), hc 2 (by omega), hc 3 (by omega), hc 4 (by omega)⟩
theorem node_any {n : Nd} (h : Sm n) : ∀ {w : World} {vs : List Value} {b : List Nat}, NdAt w n vs b → (∀ k ∈ b, k < w.heap.size) → Calls Tryd.prog 11 #[.agg vs.toArray] w (NodeOf w n) := by
  induction h with
  | tx t =>
    intro w vs b hn hb
    cases hn
    exact node_tx t
  | el nm l ks hl hks hsm ih =>
    intro w vs b hn hb
    cases hn with
    | el nm' l' ks' va vk ba bk ha hk =>
      have hvk : ∃ a n c, vk = .slice a n c := by
        cases hk with
        | nil => exact ⟨_, _, _, rfl⟩
        | row ks g cap vs b _ _ => exact ⟨_, _, _, rfl⟩
      obtain ⟨a2, n2, c2, rfl⟩ := hvk
      have hn2 := ks_len hk
      have kid : ∀ i k, ks[i]? = some k → ∃ (g2 : Nat) (K0 K1 K2 : ByteArray) (a3 : Option Addr) (n3 c3 : Nat) (a4 : Option Addr) (n4 c4 : Nat), a2 = some ⟨g2, 0, none⟩ ∧ w.cell? ⟨g2, 5 * i, none⟩ = some (.string K0) ∧ w.cell? ⟨g2, 5 * i + 1, none⟩ = some (.string K1) ∧ w.cell? ⟨g2, 5 * i + 2, none⟩ = some (.string K2) ∧ w.cell? ⟨g2, 5 * i + 3, none⟩ = some (.slice a3 n3 c3) ∧ w.cell? ⟨g2, 5 * i + 4, none⟩ = some (.slice a4 n4 c4) ∧
          ∀ w', Below w.heap.size w w' → Calls Tryd.prog 11 #[.agg #[.string K0, .string K1, .string K2, .slice a3 n3 c3, .slice a4 n4 c4]] w' (NodeOf w' k) := by
        intro i k hik
        obtain ⟨g, K0, K1, K2, a3, n3, c3, a4, n4, c4, bk', rfl, hn, hbk, h0, h1, h2, h3, h4⟩ := ks_get hk i k hik
        refine ⟨g, K0, K1, K2, a3, n3, c3, a4, n4, c4, rfl, h0, h1, h2, h3, h4, fun w' hB => ?_⟩
        have hlt : ∀ j ∈ bk', j < w.heap.size := fun j hj => hb j (by simp [hbk j hj])
        exact ih k (List.mem_of_getElem? hik) (hn.keep fun j hj => hB.block j (hlt j hj)) fun j hj => Nat.lt_of_lt_of_le (hlt j hj) hB.size
      rcases ha with ⟨rfl, rfl, rfl⟩ | ⟨g, cap, rfl, ho, rfl⟩
      · exact node_zero ⟨nm.toArray⟩ nm rfl a2 n2 c2 ks hn2 hks kid _ _ [] rfl
      · match l, hl with
        | [], _ =>
          exact node_zero ⟨nm.toArray⟩ nm rfl a2 n2 c2 ks hn2 hks kid _ _ [] rfl
        | [a], _ =>
          have hcap : 1 ≤ cap := by
            rcases ho.2 with ⟨e, _⟩ | ⟨g', cap', cur, e, _, hh, hcap, _⟩
            · cases e
            · cases e; exact hcap
          have hc := fun j (hj : j < 3) => own_cells ho j (by simpa using hj)
          exact node_one ⟨nm.toArray⟩ nm rfl a2 n2 c2 ks hn2 hks kid ⟨#[]⟩ ⟨a.1.toArray⟩ ⟨a.2.toArray⟩ g cap hcap (hc 0 (by omega)) (hc 1 (by omega)) (hc 2 (by omega)) [a] rfl rfl
        | _ :: _ :: _, h => simp at h
end Go.Proofs.YtgomlebemefdcaaDoor

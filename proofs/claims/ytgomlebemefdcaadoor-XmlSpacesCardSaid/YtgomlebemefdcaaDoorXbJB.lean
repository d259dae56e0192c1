/- Walks and laws, joined: part B. No condition. -/
import Derived.Test.YtgomlebemefdcaaDoorXbJA
import Derived.Lib.Builder
import Derived.Lib.AppendStr
import Derived.Lib.UnsafeStr
import Derived.Laws.Externs
import Derived.RegionTactic
import Derived.BigRegion
import Derived.Maps.AppendAt
import Derived.Orders
import Derived.Tactics2
import Derived.ProofKit
set_option linter.unusedSimpArgs false
set_option linter.unusedVariables false
/- The reader reads a name. No condition. -/
namespace Go.Proofs.YtgomlebemefdcaaDoor
open Go Go.RowKit Go.Wk Go.Xt Go.Xe
theorem tw_at (f : UInt8 → Bool) : ∀ (r : List UInt8) (k : Nat), k < (r.takeWhile f).length → ∃ x r', r.drop k = x :: r' ∧ f x = true := by
  intro r
  induction r with
  | nil => intro k h; simp at h
  | cons x r ih =>
    intro k h
    rw [List.takeWhile_cons] at h
    cases hx : f x with
    | false => rw [hx] at h; simp at h
    | true =>
      rw [hx] at h
      cases k with
      | zero => exact ⟨x, r, rfl, hx⟩
      | succ k => exact ih k (by simp at h; omega)
theorem tw_end (f : UInt8 → Bool) : ∀ r : List UInt8, r.drop (r.takeWhile f).length = [] ∨ ∃ x r', r.drop (r.takeWhile f).length = x :: r' ∧ f x = false := by
  intro r
  induction r with
  | nil => left; simp
  | cons x r ih =>
    rw [List.takeWhile_cons]
    cases hx : f x with
    | false => right; exact ⟨x, r, by simp, hx⟩
    | true => simpa using ih
theorem name_tw {r nm : List UInt8} (h : nameS r = nm) (hne : nm ≠ []) : nm = r.takeWhile goesB ∧ ∃ x r', r = x :: r' ∧ beginsB x = true := by
  unfold nameS at h
  cases r with
  | nil => exact absurd h.symm hne
  | cons x r =>
    simp only at h
    cases hb : beginsB x with
    | false => rw [hb] at h; exact absurd h.symm (by simpa using hne)
    | true => rw [hb] at h; exact ⟨by simpa using h.symm, x, r, rfl, hb⟩
set_option maxHeartbeats 2000000 in
set_option maxRecDepth 100000 in
theorem xml_one {w : World} {L R c p many : Nat} {bv : Value} {A : Option Addr} {bs r nm : List UInt8} (h : RS w L R bv A c bs p many) (hr : Rest bs p r) (hn : nameS r = nm) (hne : nm ≠ []) :
    Calls Tryd.prog 64 #[.pointer (some ⟨R, 0, none⟩)] w fun e w' => e = .returned (.tuple #[str nm, .int .i64 0]) ∧ End w L R bv A c bs many (r.drop nm.length) w' := by
  obtain ⟨htw, x0, rr, hx0, hb0⟩ := name_tw hn hne
  have hpos : 0 < nm.length := List.length_pos_iff.2 hne
  have hpre : nm <+: r := by rw [htw]; exact List.takeWhile_prefix _
  have hlen := hr.len
  have hle := hpre.length_le
  have hsm := h.cur.small
  have hat : Hid (∀ k, k < nm.length → ∃ x r', bs.drop (p + k) = x :: r' ∧ goesB x = true) := Lib.hid fun k hk => by
    obtain ⟨x, r', h1, h2⟩ := tw_at goesB r k (by rw [← htw]; exact hk)
    exact ⟨x, r', by rw [← List.drop_drop, hr.eq]; exact h1, h2⟩
  have hend : Hid (goesI (peekS bs (p + nm.length)) = false) := Lib.hid (by
    have := tw_end goesB r
    rw [← htw] at this
    rcases this with h0 | ⟨x, r', h1, h2⟩
    · rw [peek_nil (by rw [← List.drop_drop, hr.eq]; exact h0)]; decide
    · rw [peek_cons (by rw [← List.drop_drop, hr.eq]; exact h1), goes_u8, h2])
  have hrest : Hid (Rest bs (p + nm.length) (r.drop nm.length)) := Lib.hid ⟨by rw [← List.drop_drop, hr.eq], by omega⟩
  have htake : Hid (takeS bs p nm.length = nm ∧ takeB bs p nm.length = true) := Lib.hid (by
    have hok : p + nm.length ≤ bs.length := by omega
    unfold takeS takeB
    rw [if_pos hok, hr.eq]
    exact ⟨(List.prefix_iff_eq_take.1 hpre).symm, by simp [hok]⟩)
  have hp0 : bs.drop p = x0 :: rr := by rw [hr.eq, hx0]
  have cp0 := rs_peek h
  rw [peek_cons hp0] at cp0
  have cb := fun (w : World) => xml_begins (w := w) (x0.toNat : Int)
  rw [begins_u8, hb0] at cb
  generalize (x0.toNat : Int) = X0 at *
  have c0 := h.rdr.cell 0
  obtain ⟨n, hnn⟩ : ∃ n, n = nm.length := ⟨_, rfl⟩
  rw [← hnn] at hat hend hrest htake hpos hle
  replace hnn := Lib.hid hnn
  replace h := Lib.hid h
  have hn5 : n ≤ 100000 := by omega
  replace hlen := Lib.hid hlen
  replace hle := Lib.hid hle
  clear hp0 hx0 hpre htw hn hb0
  have cps : ∀ w : World, Calls Tryd.prog 41 #[.bool true] w fun e w' => e = .returned (.int .i64 0) ∧ w' = w := fun w => (xml_passed (w := w) true).mono fun e w' k => ⟨k.1, k.2.symm⟩
  go_enter Tryd.func64, Tryd.ntmps64
  go_wp2_with (first
    | (go_at_call 58; (with_reducible refine cp0.mono ?_); rintro e w1 ⟨rfl, h1, f1⟩; replace f1 := Lib.hid f1; replace h1 := Lib.hid h1)
    | (go_at_call 73; (with_reducible refine (cb _).mono ?_); rintro e w2 ⟨rfl, rfl⟩))
  clear cp0 cb c0
  go_loopw [4] (fun s wr => ∃ k : Nat, k ≤ n ∧ s = .int .i64 k ∧ RS wr L R bv A c bs p many ∧ Fr L R w wr) (fun s _ => n + 1 - (RowKit.intOf s).toNat)
  case atStart => exact ⟨0, Nat.zero_le _, rfl, h1.out, f1.out⟩
  case round =>
    obtain ⟨k, hk, rfl, hS, hF⟩ := hrel
    have c0 := hS.rdr.cell 0
    have cp := rs_peekN k (by omega) hS
    by_cases hlt : k < n
    · obtain ⟨x, r', hx, hg⟩ := hat.out k hlt
      rw [peek_cons hx] at cp
      have cg := fun (w : World) => xml_goes (w := w) (x.toNat : Int)
      rw [goes_u8, hg] at cg
      generalize (x.toNat : Int) = X at *
      replace hF := Lib.hid hF
      replace hS := Lib.hid hS
      clear hx hg
      go_wp2_with (first
        | (go_at_call 58; (with_reducible refine cp.mono ?_); rintro e w2 ⟨rfl, h2, f2⟩; replace f2 := Lib.hid f2; replace h2 := Lib.hid h2)
        | (go_at_call 74; (with_reducible refine (cg _).mono ?_); rintro e w3 ⟨rfl, rfl⟩))
      go_roundw
      case rel => exact ⟨k + 1, by omega, by go_num, h2.out, hF.out.trans f2.out⟩
      case measure => simp [RowKit.intOf]; omega
    · obtain rfl : k = n := by omega
      have cg := fun (w : World) => xml_goes (w := w) (peekS bs (p + k))
      rw [hend.out] at cg
      generalize peekS bs (p + k) = X at *
      replace hF := Lib.hid hF
      replace hS := Lib.hid hS
      go_wp2_with (first
        | (go_at_call 58; (with_reducible refine cp.mono ?_); rintro e w2 ⟨rfl, h2, f2⟩; have c2 := h2.rdr.cell 0; have ct := cur_take k h2.cur h2.cap hpos hn5; replace f2 := Lib.hid f2; replace h2 := Lib.hid h2)
        | (go_at_call 74; (with_reducible refine (cg _).mono ?_); rintro e w3 ⟨rfl, rfl⟩)
        | (go_at_call 26; (with_reducible refine ct.mono ?_); rintro e w4 ⟨A4, c4, rfl, hby, hc4⟩; rw [htake.out.1, htake.out.2] at *; have hcv := fun n => conv_byt (c := c4) (hby.below (below_drawn w4 n)); have e4 := h2.out.cur_to hc4; simp only [if_true] at e4; replace e4 := Lib.hid e4; replace hby := Lib.hid hby; clear hc4))
      go_quiet ((go_at_call 41; exact Calls.quiet_of_same (cps _)))
      go_wp2
      go_ret2
      have hz := hrest.out
      have e5 := e4.out.1.below (below_drawn w4 nq)
      rw [hnn.out] at hz e5
      exact ⟨rfl, ⟨_, e5, hz⟩, ((hF.out.trans f2.out).trans e4.out.2).trans (Fr.of_below (below_drawn w4 nq))⟩
end Go.Proofs.YtgomlebemefdcaaDoor

/- The builder's writes, at this program's numbers. No condition. -/
namespace Go.Proofs.YtgomlebemefdcaaDoor
open Go Go.RowKit Go.Wk Go.Xt Go.Xe Go.Lib
set_option maxRecDepth 100000 in
theorem byte_info : ∃ i, Tryd.prog.info? 5 = some i ∧ i.zero = some (.int .u8 0) ∧ i.size = 1 ∧ i.bytes = 1 := ⟨_, rfl, by kernel_rfl, by kernel_rfl, by kernel_rfl⟩
set_option maxRecDepth 100000 in
theorem bld_info : ∃ i, Tryd.prog.info? 52 = some i ∧ i.size = 2 := ⟨_, rfl, by kernel_rfl⟩
set_option maxHeartbeats 1000000 in
set_option maxRecDepth 100000 in
theorem bld_check_used (b : Nat) (w : World) (h0 : w.cell? ⟨b, 0, none⟩ = some (.pointer (some ⟨b, 0, none⟩))) :
    Calls Tryd.prog 29 #[.pointer (some ⟨b, 0, none⟩)] w fun e w' => e = .returned (.tuple #[]) ∧ w' = w := by
  obtain ⟨j, hj, _⟩ := bld_info
  go_enter Tryd.func29, Tryd.ntmps29
  go_wp2
  rw [Lib.run_neq_ptr_same w _ Tryd.underlying50 hj]
  go_wp2
  go_end0
  exact ⟨rfl, rfl⟩
set_option maxHeartbeats 1000000 in
set_option maxRecDepth 100000 in
theorem bld_check_fresh (b : Nat) (w : World) (h0 : w.cell? ⟨b, 0, none⟩ = some (.pointer none)) (hsh : w.shape? b = some (52, 2)) (hfz : w.frozen? ⟨b, 0, none⟩ = false) :
    Calls Tryd.prog 29 #[.pointer (some ⟨b, 0, none⟩)] w fun e w' => e = .returned (.tuple #[]) ∧ w' = w.setCell ⟨b, 0, none⟩ (.pointer (some ⟨b, 0, none⟩)) := by
  obtain ⟨j, hj, hjs⟩ := bld_info
  go_enter Tryd.func29, Tryd.ntmps29
  go_wp2
  rw [Lib.run_to_unsafe w ⟨b, 0, none⟩ Tryd.underlying50 Tryd.underlying87 hj (by rw [hjs]; decide) hsh (Nat.zero_lt_succ 1)]
  simp only [Result.andThen]
  rw [Oper.upon_value]
  go_wp2
  rw [run_callFunc_extern Tryd.func42 (by kernel_rfl) (by kernel_rfl) (by kernel_rfl) (e := Extern.AbiNoEscape.same) (by kernel_rfl)]
  rw [Lib.run_noEscape]
  simp only [Result.andThen]
  rw [Oper.upon_value]
  go_wp2
  rw [Lib.run_from_unsafe w ⟨b, 0, none⟩ Tryd.underlying87 Tryd.underlying50 hj hsh (by kernel_rfl)]
  simp only [Result.andThen]
  rw [Oper.upon_value]
  go_wp2
  go_end0
  exact ⟨rfl, rfl⟩
theorem bld_check (B b : Nat) (bs : List Value) (w : World) (h : Lib.IsBuilder 52 5 B b bs w) :
    Calls Tryd.prog 29 #[.pointer (some ⟨b, 0, none⟩)] w fun e w' => e = .returned (.tuple #[]) ∧ (Lib.BuilderAt 52 5 B b (.pointer (some ⟨b, 0, none⟩)) bs w' ∧ Below B w w') := by
  rcases h with h | h
  · refine (bld_check_fresh b w h.cell0 h.shape h.frozen0).mono ?_
    rintro e w' ⟨rfl, rfl⟩
    exact ⟨rfl, h.used _, (Below.refl B w).setCell (p := ⟨b, 0, none⟩) h.1 _⟩
  · refine (bld_check_used b w h.cell0).mono ?_
    rintro e w' ⟨rfl, rfl⟩
    exact ⟨rfl, h, Below.refl B _⟩
set_option maxHeartbeats 2000000 in
set_option maxRecDepth 100000 in
theorem bld_byte (B b : Nat) (bs : List Value) (c : Int) (w : World) (h : Lib.IsBuilder 52 5 B b bs w) (hlen : bs.length + 1 ≤ 140737488355328) (hBw : B ≤ w.heap.size) :
    Calls Tryd.prog 71 #[.pointer (some ⟨b, 0, none⟩), .int .u8 c] w fun e w' => e = .returned .nilIface ∧ (Lib.IsBuilder 52 5 B b (bs ++ [.int .u8 c]) w' ∧ Below B w w') := by
  obtain ⟨i0, hi, hz0, hz1, hz2⟩ := byte_info
  go_enter Tryd.func71, Tryd.ntmps71
  go_wp2_with (go_at_call 29; refine (bld_check B b bs _ h).mono ?_)
  rintro e w1 ⟨rfl, h1, hb1⟩
  obtain ⟨hB, v, hbk, hown, hne⟩ := h1
  have c0 : w1.cell? ⟨b, 0, none⟩ = some (.pointer (some ⟨b, 0, none⟩)) := by rw [Lib.cell_of_heap hbk]; rfl
  have c1 : w1.cell? ⟨b, 1, none⟩ = some v := by rw [Lib.cell_of_heap hbk]; rfl
  go_wp2_with (at_builtin; refine wpList_append_own _ rfl _ _ 22 rfl B 5 i0 (.int .u8 0) 1 1 Tryd.underlying22 hi hz0 hz1 hz2 rfl (by decide) _ _ _ rfl (hown.alloc _) ⟨w1.heap.size, 0, none⟩ 1 1 [.int .u8 c] rfl rfl ?c1 ?c2 ?c3 ?c4 ?c5 ?_)
  case c1 =>
    intro j u hj
    match j, hj with
    | 0, hj => simp at hj; subst hj; simp [Addr.add]
  case c2 => intro u hu; simp at hu; subst hu; rfl
  case c3 => unfold maxLen; omega
  case c4 => omega
  case c5 => have := hb1.size; simp; omega
  intro v' w2 hown' hgrow _
  have hlt : b < w1.heap.size := by
    rcases Nat.lt_or_ge b w1.heap.size with h' | h'
    · exact h'
    · simp [Array.getElem?_eq_none h'] at hbk
  have hb2 : w2.heap[b]? = some (.cells #[.pointer (some ⟨b, 0, none⟩), v] 52 (0, 0)) := by
    rw [hgrow.block b (by simp; omega) (fun e => hne e.symm), Lib.alloc_old w1 _ b hlt]
    exact hbk
  have d0 : w2.cell? ⟨b, 0, none⟩ = some (.pointer (some ⟨b, 0, none⟩)) := by rw [Lib.cell_of_heap hb2]; rfl
  have d1 : w2.cell? ⟨b, 1, none⟩ = some v := by rw [Lib.cell_of_heap hb2]; rfl
  have f1 : w2.frozen? ⟨b, 1, none⟩ = false := Lib.frozen_of_heap hb2 1
  obtain ⟨g, cap, rfl⟩ : ∃ g cap, v' = .slice (some ⟨g, 0, none⟩) (bs.length + 1) cap := by
    rcases hown'.2 with ⟨_, h0⟩ | ⟨g, cap, cur, hv, _⟩
    · omega
    · exact ⟨g, cap, hv⟩
  go_wp2
  go_ret
  refine ⟨rfl, .inr ?_, ?_⟩
  · exact Lib.BuilderAt.put (T := 52) (e := 5) hB hb2 (bs' := bs ++ [.int .u8 c]) (by simpa using hown') (by decide)
  · exact ((hb1.alloc (by have := hb1.size; omega) _).grown hgrow (by have := hb1.size; simp; omega) (fun k hk => (hown.lt k hk).1)).setCell (p := ⟨b, 1, none⟩) hB _
set_option maxHeartbeats 2000000 in
set_option maxRecDepth 100000 in
theorem bld_str (B b : Nat) (bs : List Value) (s : ByteArray) (w : World) (h : Lib.IsBuilder 52 5 B b bs w) (hlen : bs.length + s.size ≤ 140737488355328) (hBw : B ≤ w.heap.size) :
    Calls Tryd.prog 18 #[.pointer (some ⟨b, 0, none⟩), .string s] w fun e w' => e = .returned (.tuple #[.int .i64 s.size, .nilIface]) ∧ (Lib.IsBuilder 52 5 B b (bs ++ Lib.strCells s) w' ∧ Below B w w') := by
  obtain ⟨i0, hi, hz0, hz1, hz2⟩ := byte_info
  go_enter Tryd.func18, Tryd.ntmps18
  go_wp2_with (go_at_call 29; refine (bld_check B b bs _ h).mono ?_)
  rintro e w1 ⟨rfl, h1, hb1⟩
  obtain ⟨hB, v, hbk, hown, hne⟩ := h1
  have c0 : w1.cell? ⟨b, 0, none⟩ = some (.pointer (some ⟨b, 0, none⟩)) := by rw [Lib.cell_of_heap hbk]; rfl
  have c1 : w1.cell? ⟨b, 1, none⟩ = some v := by rw [Lib.cell_of_heap hbk]; rfl
  go_wp2_with (at_builtin; refine Lib.wpList_append_own_string _ rfl _ _ 22 9 rfl B 5 i0 Tryd.underlying22 Tryd.underlying9 hi hz0 hz1 hz2 _ _ _ rfl hown s rfl ?c3 ?c4 ?c5 ?_)
  case c3 => unfold maxLen; omega
  case c4 => omega
  case c5 => have := hb1.size; omega
  intro v' w2 hown' hgrow _
  have hlt : b < w1.heap.size := by
    rcases Nat.lt_or_ge b w1.heap.size with h' | h'
    · exact h'
    · simp [Array.getElem?_eq_none h'] at hbk
  have hb2 : w2.heap[b]? = some (.cells #[.pointer (some ⟨b, 0, none⟩), v] 52 (0, 0)) := by
    rw [hgrow.block b hlt (fun e => hne e.symm)]
    exact hbk
  have d0 : w2.cell? ⟨b, 0, none⟩ = some (.pointer (some ⟨b, 0, none⟩)) := by rw [Lib.cell_of_heap hb2]; rfl
  have d1 : w2.cell? ⟨b, 1, none⟩ = some v := by rw [Lib.cell_of_heap hb2]; rfl
  have f1 : w2.frozen? ⟨b, 1, none⟩ = false := Lib.frozen_of_heap hb2 1
  obtain ⟨ao, n', cap, rfl⟩ : ∃ ao n' cap, v' = .slice ao n' cap := by
    rcases hown'.2 with ⟨hv, _⟩ | ⟨g, cap, cur, hv, _⟩
    · exact ⟨_, _, _, hv⟩
    · exact ⟨_, _, _, hv⟩
  go_wp2
  go_ret2
  refine ⟨rfl, .inr ?_, ?_⟩
  · exact Lib.BuilderAt.put (T := 52) (e := 5) hB hb2 (bs' := bs ++ Lib.strCells s) (by simpa [Lib.strCells_length] using hown') (by decide)
  · exact (hb1.grown hgrow (by have := hb1.size; omega) (fun k hk => (hown.lt k hk).1)).setCell (p := ⟨b, 1, none⟩) hB _
theorem own_fr {w w' : World} {L R B e s n : Nat} {v : Value} {xs : List Value} (h : w.ownsRow B e s v n xs) (f : Fr L R w w') (hL : L < B) (hR : R < B) : w'.ownsRow B e s v n xs := by
  refine ⟨h.1, ?_⟩
  rcases h.2 with h2 | ⟨g, cap, cur, rfl, hB, hh, rest⟩
  · exact .inl h2
  · exact .inr ⟨g, cap, cur, rfl, hB, (f.block g (Array.getElem?_eq_some_iff.1 hh).1 (by omega) (by omega)).trans hh, rest⟩
theorem bld_fr {w w' : World} {L R B b : Nat} {bs : List Value} (h : Lib.IsBuilder 52 5 B b bs w) (f : Fr L R w w') (hL : L < B) (hR : R < B) : Lib.IsBuilder 52 5 B b bs w' := by
  have key : ∀ p, Lib.BuilderAt 52 5 B b p bs w → Lib.BuilderAt 52 5 B b p bs w' := by
    rintro p ⟨hB, v, hb, hown, hne⟩
    exact ⟨hB, v, (f.block b (Array.getElem?_eq_some_iff.1 hb).1 (by omega) (by omega)).trans hb, own_fr hown f hL hR, hne⟩
  rcases h with h | h
  · exact .inl (key _ h)
  · exact .inr (key _ h)
theorem bld_new (w : World) : Lib.IsBuilder 52 5 w.heap.size w.heap.size [] (w.alloc (.cells #[.pointer none, .slice none 0 0] 52)) :=
  .inl ⟨Nat.le_refl _, .slice none 0 0, Blk.new w 52 _, World.ownsRow_nil _ _ _ _, by simp [Value.ownBlock]⟩
end Go.Proofs.YtgomlebemefdcaaDoor

/- The reader reads a full name that has no prefix. No condition. -/
namespace Go.Proofs.YtgomlebemefdcaaDoor
open Go Go.RowKit Go.Wk Go.Xt Go.Xe
set_option maxHeartbeats 2000000 in
set_option maxRecDepth 100000 in
theorem xml_full {w : World} {L R c p many : Nat} {bv : Value} {A : Option Addr} {bs r nm : List UInt8} (h : RS w L R bv A c bs p many) (hr : Rest bs p r) (hn : nameS r = nm) (hne : nm ≠ []) (hno : ¬ [58] <+: r.drop nm.length) :
    Calls Tryd.prog 53 #[.pointer (some ⟨R, 0, none⟩)] w fun e w' => e = .returned (.tuple #[.string ⟨#[]⟩, str nm, .int .i64 0]) ∧ End w L R bv A c bs many (r.drop nm.length) w' := by
  have c1 := xml_one h hr hn hne
  have m1 : ∀ w1 q, RS w1 L R bv A c bs q many → Rest bs q (r.drop nm.length) → Calls Tryd.prog 54 #[.pointer (some ⟨L, 0, none⟩), .string ⟨#[58]⟩] w1 fun e w' => e = .returned (.bool false) ∧ RS w' L R bv A c bs q many ∧ Fr L R w1 w' := fun w1 q h1 hq => rs_no h1 ⟨#[58]⟩ (by decide) (by decide) (by rw [hq.eq]; exact hno)
  replace m1 := Lib.hid m1
  clear hn hne hno h hr
  generalize r.drop nm.length = r1 at *
  go_enter Tryd.func53, Tryd.ntmps53
  go_wp2_with (first
    | (go_at_call 64; (with_reducible refine c1.mono ?_); rintro e w1 ⟨rfl, ⟨⟨q, h1, hq⟩, f1⟩⟩; have k1 := m1.out w1 q h1 hq; have c0 := h1.rdr.cell 0; replace f1 := Lib.hid f1; replace h1 := Lib.hid h1; replace hq := Lib.hid hq)
    | (go_at_call 54; (with_reducible refine k1.mono ?_); rintro e w2 ⟨rfl, h2, f2⟩; replace f2 := Lib.hid f2; replace h2 := Lib.hid h2))
  go_ret3
  exact ⟨rfl, ⟨_, h2.out, hq.out⟩, f1.out.trans f2.out⟩
end Go.Proofs.YtgomlebemefdcaaDoor

/- The reader reads what stands behind an &. No condition. -/
namespace Go.Proofs.YtgomlebemefdcaaDoor
open Go Go.RowKit Go.Wk Go.Xt Go.Xe
theorem ent_len {r s r' : List UInt8} (h : Ent r s r') : r'.length < r.length := by
  cases h <;> (simp; omega)
theorem ent_out {r s r' : List UInt8} (h : Ent r s r') : s.length = 1 := by
  cases h <;> rfl
set_option maxHeartbeats 1000000 in
theorem digit_at {w : World} (x y : Int) (h : (x = 49 ∧ y = 1) ∨ (x = 51 ∧ y = 3) ∨ (x = 59 ∧ y = -1)) : Calls Tryd.prog 80 #[.int .i64 x] w fun e w' => e = .returned (.int .i64 y) ∧ w = w' := by
  rcases h with ⟨rfl, rfl⟩ | ⟨rfl, rfl⟩ | ⟨rfl, rfl⟩
  all_goals
    go_enter Tryd.func80, Tryd.ntmps80
    go_wp2
    go_ret
    exact ⟨rfl, rfl⟩
def vN : Nat → Int | 0 => 0 | 1 => 1 | _ => 13
def dN : Nat → Int | 0 => 1 | 1 => 3 | _ => -1
def cN : Nat → Int | 0 => 49 | 1 => 51 | _ => 59
set_option maxHeartbeats 2000000 in
set_option maxRecDepth 100000 in
theorem xml_num13 {w : World} {L R c p many : Nat} {bv : Value} {A : Option Addr} {bs r' : List UInt8} (h : RS w L R bv A c bs p many) (hr : Rest bs p ([49, 51, 59] ++ r')) :
    Calls Tryd.prog 78 #[.pointer (some ⟨R, 0, none⟩)] w fun e w' => e = .returned (.tuple #[.int .i32 13, .int .i64 0]) ∧ End w L R bv A c bs many r' w' := by
  have c0 := h.rdr.cell 0
  have n1 := rs_no h ⟨#[120]⟩ (by decide) (by decide) (by rw [hr.eq]; simp [List.cons_prefix_cons])
  have hp1 : Rest bs (p + 1) (51 :: 59 :: r') := hr.app (s := [49])
  have hp2 : Rest bs (p + 2) (59 :: r') := hr.app (s := [49, 51])
  have hp3 : Rest bs (p + 3) r' := hr.app (s := [49, 51, 59])
  have hpk : ∀ k, k ≤ 2 → peekS bs (p + k) = cN k ∧ p + k < bs.length := fun k hk => by
    match k, hk with
    | 0, _ => exact ⟨peek_cons hr.eq, (drop_one hr.eq).2⟩
    | 1, _ => exact ⟨peek_cons hp1.eq, (drop_one hp1.eq).2⟩
    | 2, _ => exact ⟨peek_cons hp2.eq, (drop_one hp2.eq).2⟩
  have pk : ∀ W k, k ≤ 2 → RS W L R bv A c bs (p + k) many → Calls Tryd.prog 58 #[.pointer (some ⟨L, 0, none⟩), .int .i64 0] W fun e w' => e = .returned (.int .i64 (cN k)) ∧ RS w' L R bv A c bs (p + k) many ∧ Fr L R W w' := fun W k hk hW => by
    have := rs_peek hW
    rw [(hpk k hk).1] at this
    exact this
  have nx : ∀ W k, k ≤ 2 → RS W L R bv A c bs (p + k) many → Calls Tryd.prog 59 #[.pointer (some ⟨L, 0, none⟩)] W fun e w' => e = .returned (.int .i64 (cN k)) ∧ RS w' L R bv A c bs (p + (k + 1)) many ∧ Fr L R W w' := fun W k hk hW => by
    have := rs_next hW
    rw [(hpk k hk).1, if_pos (hpk k hk).2] at this
    exact this
  have dg : ∀ (W : World) (k : Nat), k ≤ 2 → Calls Tryd.prog 80 #[.int .i64 (cN k)] W fun e w' => e = .returned (.int .i64 (dN k)) ∧ W = w' := fun W k hk => by
    match k, hk with
    | 0, _ => exact digit_at _ _ (.inl ⟨rfl, rfl⟩)
    | 1, _ => exact digit_at _ _ (.inr (.inl ⟨rfl, rfl⟩))
    | 2, _ => exact digit_at _ _ (.inr (.inr ⟨rfl, rfl⟩))
  have ms : ∀ W, RS W L R bv A c bs (p + 2) many → Calls Tryd.prog 54 #[.pointer (some ⟨L, 0, none⟩), .string ⟨#[59]⟩] W fun e w' => e = .returned (.bool true) ∧ RS w' L R bv A c bs (p + 2 + 1) many ∧ Fr L R W w' := fun W hW => rs_yes hW ⟨#[59]⟩ r' (by decide) (by decide) hp2.eq
  have sg := fun (w : World) => xml_sign (w := w) (13 : Int)
  rw [show signV 13 = true by decide] at sg
  have cps := fun (w : World) => xml_passed (w := w) true
  simp only [if_true] at cps
  replace pk := Lib.hid pk
  replace nx := Lib.hid nx
  replace dg := Lib.hid dg
  replace ms := Lib.hid ms
  replace hp3 := Lib.hid hp3
  replace h := Lib.hid h
  clear hpk hp1 hp2 hr
  go_enter Tryd.func78, Tryd.ntmps78
  go_wp2_with (first
    | (go_at_call 54; (with_reducible refine n1.mono ?_); rintro e w1 ⟨rfl, h1, f1⟩; have k2 := pk.out w1 0 (by omega) h1; have c1 := h1.rdr.cell 0; replace f1 := Lib.hid f1; replace h1 := Lib.hid h1)
    | (go_at_call 58; (with_reducible refine k2.mono ?_); rintro e w2 ⟨rfl, h2, f2⟩; have k3 := dg.out w2 0 (by omega); replace f2 := Lib.hid f2; replace h2 := Lib.hid h2)
    | (go_at_call 80; (with_reducible refine k3.mono ?_); rintro e w3 ⟨rfl, rfl⟩))
  go_loopw [5, 6, 7] (fun s5 s6 s7 wr => ∃ k : Nat, k ≤ 2 ∧ s5 = .int .i64 (vN k) ∧ s6 = .int .i64 k ∧ s7 = .int .i64 (dN k) ∧ RS wr L R bv A c bs (p + k) many ∧ Fr L R w wr) (fun _ s6 _ _ => 3 - (RowKit.intOf s6).toNat)
  case atStart => exact ⟨0, by omega, rfl, rfl, rfl, h2.out, f1.out.trans f2.out⟩
  case round =>
    obtain ⟨k, hk, rfl, rfl, rfl, hS, hF⟩ := hrel
    have c4 := hS.rdr.cell 0
    by_cases hk2 : k < 2
    · have q1 := nx.out _ k hk hS
      have q2 := fun W hW => pk.out W (k + 1) (by omega) hW
      have q3 := fun W => dg.out W (k + 1) (by omega)
      replace q2 := Lib.hid q2
      replace q3 := Lib.hid q3
      have hkk : k = 0 ∨ k = 1 := by omega
      have hv : vN (k + 1) = vN k * 10 + dN k ∧ 0 ≤ dN k ∧ dN k < 10 ∧ 0 ≤ vN k ∧ vN k < 10 := by rcases hkk with rfl | rfl <;> decide
      obtain ⟨hv1, hv2, hv3, hv4, hv5⟩ := hv
      generalize vN k = V at *
      generalize dN k = D at *
      generalize cN k = C at *
      generalize cN (k + 1) = C1 at *
      replace hS := Lib.hid hS
      replace hF := Lib.hid hF
      replace hv1 := Lib.hid hv1
      go_wp2_with (first
        | (go_at_call 59; (with_reducible refine q1.mono ?_); rintro e w4 ⟨rfl, h4, f4⟩; have k5 := q2.out w4 h4; have c5 := h4.rdr.cell 0; replace f4 := Lib.hid f4; replace h4 := Lib.hid h4)
        | (go_at_call 58; (with_reducible refine k5.mono ?_); rintro e w5 ⟨rfl, h5, f5⟩; have k6 := q3.out w5; replace f5 := Lib.hid f5; replace h5 := Lib.hid h5)
        | (go_at_call 80; (with_reducible refine k6.mono ?_); rintro e w6 ⟨rfl, rfl⟩))
      go_roundw
      case rel => exact ⟨k + 1, by omega, congrArg (Value.int .i64) hv1.out.symm, by go_num, rfl, h5.out, (hF.out.trans f4.out).trans f5.out⟩
      case measure => simp [RowKit.intOf]; omega
    · obtain rfl : k = 2 := by omega
      have q1 := ms.out _ hS
      have e1 : vN 2 = 13 := rfl
      have e2 : dN 2 = -1 := rfl
      simp only [e1, e2]
      clear e1 e2
      replace hS := Lib.hid hS
      replace hF := Lib.hid hF
      go_wp2_with (first
        | (go_at_call 43; (with_reducible refine (sg _).mono ?_); rintro e w4 ⟨rfl, rfl⟩)
        | (go_at_call 54; (with_reducible refine q1.mono ?_); rintro e w5 ⟨rfl, h5, f5⟩; replace f5 := Lib.hid f5; replace h5 := Lib.hid h5)
        | (go_at_call 41; (with_reducible refine (cps _).mono ?_); rintro e w6 ⟨rfl, rfl⟩))
      go_ret2
      exact ⟨rfl, ⟨_, h5.out, hp3.out⟩, hF.out.trans f5.out⟩
set_option maxHeartbeats 2000000 in
set_option maxRecDepth 100000 in
theorem xml_entity {w : World} {L R c p many : Nat} {bv : Value} {A : Option Addr} {bs r s r' : List UInt8} (h : RS w L R bv A c bs p many) (hr : Rest bs p r) (hE : Ent r s r') :
    Calls Tryd.prog 72 #[.pointer (some ⟨R, 0, none⟩)] w fun e w' => e = .returned (.tuple #[str s, .int .i64 0]) ∧ End w L R bv A c bs many r' w' := by
  have c0 := h.rdr.cell 0
  cases hE
  case lt =>
    have y : ∀ W, RS W L R bv A c bs p many → Calls Tryd.prog 54 #[.pointer (some ⟨L, 0, none⟩), .string ⟨#[108, 116, 59]⟩] W fun e w' => e = .returned (.bool true) ∧ RS w' L R bv A c bs (p + 3) many ∧ Fr L R W w' := fun W hW => rs_yes hW ⟨#[108, 116, 59]⟩ r' (by decide) (by decide) hr.eq
    have hq : Rest bs (p + 3) r' := hr.app (s := [108, 116, 59])
    have k0 := y _ h
    replace y := Lib.hid y
    replace h := Lib.hid h
    replace hq := Lib.hid hq
    clear hr
    go_enter Tryd.func72, Tryd.ntmps72
    go_wp2_with (first
      | (go_at_call 54; (with_reducible refine k0.mono ?_); rintro e w1 ⟨rfl, h0, f0⟩; have c1 := h0.rdr.cell 0; replace f0 := Lib.hid f0; replace h0 := Lib.hid h0))
    go_ret2
    exact ⟨rfl, ⟨_, h0.out, hq.out⟩, f0.out⟩
  case gt =>
    have n0 : ∀ W, RS W L R bv A c bs p many → Calls Tryd.prog 54 #[.pointer (some ⟨L, 0, none⟩), .string ⟨#[108, 116, 59]⟩] W fun e w' => e = .returned (.bool false) ∧ RS w' L R bv A c bs p many ∧ Fr L R W w' := fun W hW => rs_no hW ⟨#[108, 116, 59]⟩ (by decide) (by decide) (by rw [hr.eq]; simp [List.cons_prefix_cons])
    have y : ∀ W, RS W L R bv A c bs p many → Calls Tryd.prog 54 #[.pointer (some ⟨L, 0, none⟩), .string ⟨#[103, 116, 59]⟩] W fun e w' => e = .returned (.bool true) ∧ RS w' L R bv A c bs (p + 3) many ∧ Fr L R W w' := fun W hW => rs_yes hW ⟨#[103, 116, 59]⟩ r' (by decide) (by decide) hr.eq
    have hq : Rest bs (p + 3) r' := hr.app (s := [103, 116, 59])
    have k0 := n0 _ h
    replace n0 := Lib.hid n0
    replace y := Lib.hid y
    replace h := Lib.hid h
    replace hq := Lib.hid hq
    clear hr
    go_enter Tryd.func72, Tryd.ntmps72
    go_wp2_with (first
      | (go_at_call 54; (with_reducible refine k0.mono ?_); rintro e w1 ⟨rfl, h0, f0⟩; have k1 := y.out _ h0; have c1 := h0.rdr.cell 0; replace f0 := Lib.hid f0; replace h0 := Lib.hid h0)
      | (go_at_call 54; (with_reducible refine k1.mono ?_); rintro e w2 ⟨rfl, h1, f1⟩; have c2 := h1.rdr.cell 0; replace f1 := Lib.hid f1; replace h1 := Lib.hid h1))
    go_ret2
    exact ⟨rfl, ⟨_, h1.out, hq.out⟩, (f0.out.trans f1.out)⟩
  case amp =>
    have n0 : ∀ W, RS W L R bv A c bs p many → Calls Tryd.prog 54 #[.pointer (some ⟨L, 0, none⟩), .string ⟨#[108, 116, 59]⟩] W fun e w' => e = .returned (.bool false) ∧ RS w' L R bv A c bs p many ∧ Fr L R W w' := fun W hW => rs_no hW ⟨#[108, 116, 59]⟩ (by decide) (by decide) (by rw [hr.eq]; simp [List.cons_prefix_cons])
    have n1 : ∀ W, RS W L R bv A c bs p many → Calls Tryd.prog 54 #[.pointer (some ⟨L, 0, none⟩), .string ⟨#[103, 116, 59]⟩] W fun e w' => e = .returned (.bool false) ∧ RS w' L R bv A c bs p many ∧ Fr L R W w' := fun W hW => rs_no hW ⟨#[103, 116, 59]⟩ (by decide) (by decide) (by rw [hr.eq]; simp [List.cons_prefix_cons])
    have y : ∀ W, RS W L R bv A c bs p many → Calls Tryd.prog 54 #[.pointer (some ⟨L, 0, none⟩), .string ⟨#[97, 109, 112, 59]⟩] W fun e w' => e = .returned (.bool true) ∧ RS w' L R bv A c bs (p + 4) many ∧ Fr L R W w' := fun W hW => rs_yes hW ⟨#[97, 109, 112, 59]⟩ r' (by decide) (by decide) hr.eq
    have hq : Rest bs (p + 4) r' := hr.app (s := [97, 109, 112, 59])
    have k0 := n0 _ h
    replace n0 := Lib.hid n0
    replace n1 := Lib.hid n1
    replace y := Lib.hid y
    replace h := Lib.hid h
    replace hq := Lib.hid hq
    clear hr
    go_enter Tryd.func72, Tryd.ntmps72
    go_wp2_with (first
      | (go_at_call 54; (with_reducible refine k0.mono ?_); rintro e w1 ⟨rfl, h0, f0⟩; have k1 := n1.out _ h0; have c1 := h0.rdr.cell 0; replace f0 := Lib.hid f0; replace h0 := Lib.hid h0)
      | (go_at_call 54; (with_reducible refine k1.mono ?_); rintro e w2 ⟨rfl, h1, f1⟩; have k2 := y.out _ h1; have c2 := h1.rdr.cell 0; replace f1 := Lib.hid f1; replace h1 := Lib.hid h1)
      | (go_at_call 54; (with_reducible refine k2.mono ?_); rintro e w3 ⟨rfl, h2, f2⟩; have c3 := h2.rdr.cell 0; replace f2 := Lib.hid f2; replace h2 := Lib.hid h2))
    go_ret2
    exact ⟨rfl, ⟨_, h2.out, hq.out⟩, ((f0.out.trans f1.out).trans f2.out)⟩
  case quot =>
    have n0 : ∀ W, RS W L R bv A c bs p many → Calls Tryd.prog 54 #[.pointer (some ⟨L, 0, none⟩), .string ⟨#[108, 116, 59]⟩] W fun e w' => e = .returned (.bool false) ∧ RS w' L R bv A c bs p many ∧ Fr L R W w' := fun W hW => rs_no hW ⟨#[108, 116, 59]⟩ (by decide) (by decide) (by rw [hr.eq]; simp [List.cons_prefix_cons])
    have n1 : ∀ W, RS W L R bv A c bs p many → Calls Tryd.prog 54 #[.pointer (some ⟨L, 0, none⟩), .string ⟨#[103, 116, 59]⟩] W fun e w' => e = .returned (.bool false) ∧ RS w' L R bv A c bs p many ∧ Fr L R W w' := fun W hW => rs_no hW ⟨#[103, 116, 59]⟩ (by decide) (by decide) (by rw [hr.eq]; simp [List.cons_prefix_cons])
    have n2 : ∀ W, RS W L R bv A c bs p many → Calls Tryd.prog 54 #[.pointer (some ⟨L, 0, none⟩), .string ⟨#[97, 109, 112, 59]⟩] W fun e w' => e = .returned (.bool false) ∧ RS w' L R bv A c bs p many ∧ Fr L R W w' := fun W hW => rs_no hW ⟨#[97, 109, 112, 59]⟩ (by decide) (by decide) (by rw [hr.eq]; simp [List.cons_prefix_cons])
    have y : ∀ W, RS W L R bv A c bs p many → Calls Tryd.prog 54 #[.pointer (some ⟨L, 0, none⟩), .string ⟨#[113, 117, 111, 116, 59]⟩] W fun e w' => e = .returned (.bool true) ∧ RS w' L R bv A c bs (p + 5) many ∧ Fr L R W w' := fun W hW => rs_yes hW ⟨#[113, 117, 111, 116, 59]⟩ r' (by decide) (by decide) hr.eq
    have hq : Rest bs (p + 5) r' := hr.app (s := [113, 117, 111, 116, 59])
    have k0 := n0 _ h
    replace n0 := Lib.hid n0
    replace n1 := Lib.hid n1
    replace n2 := Lib.hid n2
    replace y := Lib.hid y
    replace h := Lib.hid h
    replace hq := Lib.hid hq
    clear hr
    go_enter Tryd.func72, Tryd.ntmps72
    go_wp2_with (first
      | (go_at_call 54; (with_reducible refine k0.mono ?_); rintro e w1 ⟨rfl, h0, f0⟩; have k1 := n1.out _ h0; have c1 := h0.rdr.cell 0; replace f0 := Lib.hid f0; replace h0 := Lib.hid h0)
      | (go_at_call 54; (with_reducible refine k1.mono ?_); rintro e w2 ⟨rfl, h1, f1⟩; have k2 := n2.out _ h1; have c2 := h1.rdr.cell 0; replace f1 := Lib.hid f1; replace h1 := Lib.hid h1)
      | (go_at_call 54; (with_reducible refine k2.mono ?_); rintro e w3 ⟨rfl, h2, f2⟩; have k3 := y.out _ h2; have c3 := h2.rdr.cell 0; replace f2 := Lib.hid f2; replace h2 := Lib.hid h2)
      | (go_at_call 54; (with_reducible refine k3.mono ?_); rintro e w4 ⟨rfl, h3, f3⟩; have c4 := h3.rdr.cell 0; replace f3 := Lib.hid f3; replace h3 := Lib.hid h3))
    go_ret2
    exact ⟨rfl, ⟨_, h3.out, hq.out⟩, (((f0.out.trans f1.out).trans f2.out).trans f3.out)⟩
  case apos =>
    have n0 : ∀ W, RS W L R bv A c bs p many → Calls Tryd.prog 54 #[.pointer (some ⟨L, 0, none⟩), .string ⟨#[108, 116, 59]⟩] W fun e w' => e = .returned (.bool false) ∧ RS w' L R bv A c bs p many ∧ Fr L R W w' := fun W hW => rs_no hW ⟨#[108, 116, 59]⟩ (by decide) (by decide) (by rw [hr.eq]; simp [List.cons_prefix_cons])
    have n1 : ∀ W, RS W L R bv A c bs p many → Calls Tryd.prog 54 #[.pointer (some ⟨L, 0, none⟩), .string ⟨#[103, 116, 59]⟩] W fun e w' => e = .returned (.bool false) ∧ RS w' L R bv A c bs p many ∧ Fr L R W w' := fun W hW => rs_no hW ⟨#[103, 116, 59]⟩ (by decide) (by decide) (by rw [hr.eq]; simp [List.cons_prefix_cons])
    have n2 : ∀ W, RS W L R bv A c bs p many → Calls Tryd.prog 54 #[.pointer (some ⟨L, 0, none⟩), .string ⟨#[97, 109, 112, 59]⟩] W fun e w' => e = .returned (.bool false) ∧ RS w' L R bv A c bs p many ∧ Fr L R W w' := fun W hW => rs_no hW ⟨#[97, 109, 112, 59]⟩ (by decide) (by decide) (by rw [hr.eq]; simp [List.cons_prefix_cons])
    have n3 : ∀ W, RS W L R bv A c bs p many → Calls Tryd.prog 54 #[.pointer (some ⟨L, 0, none⟩), .string ⟨#[113, 117, 111, 116, 59]⟩] W fun e w' => e = .returned (.bool false) ∧ RS w' L R bv A c bs p many ∧ Fr L R W w' := fun W hW => rs_no hW ⟨#[113, 117, 111, 116, 59]⟩ (by decide) (by decide) (by rw [hr.eq]; simp [List.cons_prefix_cons])
    have y : ∀ W, RS W L R bv A c bs p many → Calls Tryd.prog 54 #[.pointer (some ⟨L, 0, none⟩), .string ⟨#[97, 112, 111, 115, 59]⟩] W fun e w' => e = .returned (.bool true) ∧ RS w' L R bv A c bs (p + 5) many ∧ Fr L R W w' := fun W hW => rs_yes hW ⟨#[97, 112, 111, 115, 59]⟩ r' (by decide) (by decide) hr.eq
    have hq : Rest bs (p + 5) r' := hr.app (s := [97, 112, 111, 115, 59])
    have k0 := n0 _ h
    replace n0 := Lib.hid n0
    replace n1 := Lib.hid n1
    replace n2 := Lib.hid n2
    replace n3 := Lib.hid n3
    replace y := Lib.hid y
    replace h := Lib.hid h
    replace hq := Lib.hid hq
    clear hr
    go_enter Tryd.func72, Tryd.ntmps72
    go_wp2_with (first
      | (go_at_call 54; (with_reducible refine k0.mono ?_); rintro e w1 ⟨rfl, h0, f0⟩; have k1 := n1.out _ h0; have c1 := h0.rdr.cell 0; replace f0 := Lib.hid f0; replace h0 := Lib.hid h0)
      | (go_at_call 54; (with_reducible refine k1.mono ?_); rintro e w2 ⟨rfl, h1, f1⟩; have k2 := n2.out _ h1; have c2 := h1.rdr.cell 0; replace f1 := Lib.hid f1; replace h1 := Lib.hid h1)
      | (go_at_call 54; (with_reducible refine k2.mono ?_); rintro e w3 ⟨rfl, h2, f2⟩; have k3 := n3.out _ h2; have c3 := h2.rdr.cell 0; replace f2 := Lib.hid f2; replace h2 := Lib.hid h2)
      | (go_at_call 54; (with_reducible refine k3.mono ?_); rintro e w4 ⟨rfl, h3, f3⟩; have k4 := y.out _ h3; have c4 := h3.rdr.cell 0; replace f3 := Lib.hid f3; replace h3 := Lib.hid h3)
      | (go_at_call 54; (with_reducible refine k4.mono ?_); rintro e w5 ⟨rfl, h4, f4⟩; have c5 := h4.rdr.cell 0; replace f4 := Lib.hid f4; replace h4 := Lib.hid h4))
    go_ret2
    exact ⟨rfl, ⟨_, h4.out, hq.out⟩, ((((f0.out.trans f1.out).trans f2.out).trans f3.out).trans f4.out)⟩
  case cr =>
    have n0 : ∀ W, RS W L R bv A c bs p many → Calls Tryd.prog 54 #[.pointer (some ⟨L, 0, none⟩), .string ⟨#[108, 116, 59]⟩] W fun e w' => e = .returned (.bool false) ∧ RS w' L R bv A c bs p many ∧ Fr L R W w' := fun W hW => rs_no hW ⟨#[108, 116, 59]⟩ (by decide) (by decide) (by rw [hr.eq]; simp [List.cons_prefix_cons])
    have n1 : ∀ W, RS W L R bv A c bs p many → Calls Tryd.prog 54 #[.pointer (some ⟨L, 0, none⟩), .string ⟨#[103, 116, 59]⟩] W fun e w' => e = .returned (.bool false) ∧ RS w' L R bv A c bs p many ∧ Fr L R W w' := fun W hW => rs_no hW ⟨#[103, 116, 59]⟩ (by decide) (by decide) (by rw [hr.eq]; simp [List.cons_prefix_cons])
    have n2 : ∀ W, RS W L R bv A c bs p many → Calls Tryd.prog 54 #[.pointer (some ⟨L, 0, none⟩), .string ⟨#[97, 109, 112, 59]⟩] W fun e w' => e = .returned (.bool false) ∧ RS w' L R bv A c bs p many ∧ Fr L R W w' := fun W hW => rs_no hW ⟨#[97, 109, 112, 59]⟩ (by decide) (by decide) (by rw [hr.eq]; simp [List.cons_prefix_cons])
    have n3 : ∀ W, RS W L R bv A c bs p many → Calls Tryd.prog 54 #[.pointer (some ⟨L, 0, none⟩), .string ⟨#[113, 117, 111, 116, 59]⟩] W fun e w' => e = .returned (.bool false) ∧ RS w' L R bv A c bs p many ∧ Fr L R W w' := fun W hW => rs_no hW ⟨#[113, 117, 111, 116, 59]⟩ (by decide) (by decide) (by rw [hr.eq]; simp [List.cons_prefix_cons])
    have n4 : ∀ W, RS W L R bv A c bs p many → Calls Tryd.prog 54 #[.pointer (some ⟨L, 0, none⟩), .string ⟨#[97, 112, 111, 115, 59]⟩] W fun e w' => e = .returned (.bool false) ∧ RS w' L R bv A c bs p many ∧ Fr L R W w' := fun W hW => rs_no hW ⟨#[97, 112, 111, 115, 59]⟩ (by decide) (by decide) (by rw [hr.eq]; simp [List.cons_prefix_cons])
    have y : ∀ W, RS W L R bv A c bs p many → Calls Tryd.prog 54 #[.pointer (some ⟨L, 0, none⟩), .string ⟨#[35]⟩] W fun e w' => e = .returned (.bool true) ∧ RS w' L R bv A c bs (p + 1) many ∧ Fr L R W w' := fun W hW => rs_yes hW ⟨#[35]⟩ ([49, 51, 59] ++ r') (by decide) (by decide) hr.eq
    have hq : Rest bs (p + 1) ([49, 51, 59] ++ r') := hr.app (s := [35])
    have cn := fun W hW => xml_num13 (w := W) (L := L) (R := R) (bv := bv) (A := A) (c := c) (many := many) (r' := r') hW hq
    replace cn := Lib.hid cn
    have k0 := n0 _ h
    replace n0 := Lib.hid n0
    replace n1 := Lib.hid n1
    replace n2 := Lib.hid n2
    replace n3 := Lib.hid n3
    replace n4 := Lib.hid n4
    replace y := Lib.hid y
    replace h := Lib.hid h
    replace hq := Lib.hid hq
    clear hr
    go_enter Tryd.func72, Tryd.ntmps72
    go_wp2_with (first
      | (go_at_call 54; (with_reducible refine k0.mono ?_); rintro e w1 ⟨rfl, h0, f0⟩; have k1 := n1.out _ h0; have c1 := h0.rdr.cell 0; replace f0 := Lib.hid f0; replace h0 := Lib.hid h0)
      | (go_at_call 54; (with_reducible refine k1.mono ?_); rintro e w2 ⟨rfl, h1, f1⟩; have k2 := n2.out _ h1; have c2 := h1.rdr.cell 0; replace f1 := Lib.hid f1; replace h1 := Lib.hid h1)
      | (go_at_call 54; (with_reducible refine k2.mono ?_); rintro e w3 ⟨rfl, h2, f2⟩; have k3 := n3.out _ h2; have c3 := h2.rdr.cell 0; replace f2 := Lib.hid f2; replace h2 := Lib.hid h2)
      | (go_at_call 54; (with_reducible refine k3.mono ?_); rintro e w4 ⟨rfl, h3, f3⟩; have k4 := n4.out _ h3; have c4 := h3.rdr.cell 0; replace f3 := Lib.hid f3; replace h3 := Lib.hid h3)
      | (go_at_call 54; (with_reducible refine k4.mono ?_); rintro e w5 ⟨rfl, h4, f4⟩; have k5 := y.out _ h4; have c5 := h4.rdr.cell 0; replace f4 := Lib.hid f4; replace h4 := Lib.hid h4)
      | (go_at_call 54; (with_reducible refine k5.mono ?_); rintro e w6 ⟨rfl, h5, f5⟩; have k9 := cn.out _ h5; have c6 := h5.rdr.cell 0; replace f5 := Lib.hid f5; replace h5 := Lib.hid h5)
      | (go_at_call 78; (with_reducible refine k9.mono ?_); rintro e w9 ⟨rfl, ⟨q9, h9, r9⟩, f9⟩; replace f9 := Lib.hid f9; replace h9 := Lib.hid h9; replace r9 := Lib.hid r9))
    go_ret2
    exact ⟨rfl, ⟨_, h9.out, r9.out⟩, (((((f0.out.trans f1.out).trans f2.out).trans f3.out).trans f4.out).trans f5.out).trans f9.out⟩
end Go.Proofs.YtgomlebemefdcaaDoor

/- The reader reads a text. No condition. -/
namespace Go.Proofs.YtgomlebemefdcaaDoor
open Go Go.RowKit Go.Wk Go.Xt Go.Xe Go.Lib
theorem RS.belowB {w w' : World} {L R c p many B : Nat} {bv : Value} {A : Option Addr} {bs : List UInt8} (h : RS w L R bv A c bs p many) (hb : Below B w w') (hL : L < B) (hR : R < B) (hA : 0 < bs.length → ∀ x, A = some x → x.block < B) : RS w' L R bv A c bs p many := by
  have hc := h.cur
  refine ⟨⟨hc.ne, Save.refl _ _, (hb.cell (p := ⟨L, 0, none⟩) hL).trans hc.cb, (hb.cell (p := ⟨L, 1, none⟩) hL).trans hc.ca, (hb.frozen (p := ⟨L, 1, none⟩) hL).trans hc.fr, ⟨hc.byt.1, fun h0 => ?_⟩, hc.le, hc.small⟩, h.rdr.below hb hR, h.ne, h.neA, h.cap⟩
  obtain ⟨b, o, rfl, hcell⟩ := hc.byt.2 h0
  refine ⟨b, o, rfl, fun i hi => ?_⟩
  rw [hb.cell (p := ⟨b, o + i, none⟩) (show b < B from hA h0 ⟨b, o, none⟩ rfl)]
  exact hcell i hi
theorem RS.A_lt {w : World} {L R c p many : Nat} {bv : Value} {A : Option Addr} {bs : List UInt8} (h : RS w L R bv A c bs p many) : 0 < bs.length → ∀ x, A = some x → x.block < w.heap.size := by
  rintro h0 x rfl
  obtain ⟨b, o, e, hcell⟩ := h.cur.byt.2 h0
  cases e
  exact cell_lt (hcell 0 h0)
theorem Fr.tail {L R : Nat} {a b c : World} (h : Fr L R a b) (k : Below a.heap.size b c) : Fr L R a c :=
  ⟨k.os.trans h.os, k.tape.trans h.tape, k.output.trans h.output, Nat.le_trans h.size k.size, fun j hj h1 h2 => (k.block j hj).trans (h.block j hj h1 h2)⟩
theorem bcells_app (a b : List UInt8) : byteCells (a ++ b) = byteCells a ++ byteCells b := by simp [byteCells]
theorem bcells_len (a : List UInt8) : (byteCells a).length = a.length := by simp [byteCells]
theorem txt_len {fin : Int} {r o r' : List UInt8} (h : Txt fin r o r') : o.length + r'.length ≤ r.length := by
  induction h with
  | nil => simp
  | stop => simp
  | byte => simp; omega
  | ent r e r1 o r' _ hE _ ih => have := ent_len hE; have := ent_out hE; simp; omega
set_option maxHeartbeats 4000000 in
set_option maxRecDepth 100000 in
theorem xml_text {w : World} {L R c p many : Nat} {bv : Value} {A : Option Addr} {bs r o r' : List UInt8} (fin : Int) (hf : -1 ≤ fin ∧ fin ≤ 255) (h : RS w L R bv A c bs p many) (hr : Rest bs p r) (hT : Txt fin r o r') :
    Calls Tryd.prog 63 #[.pointer (some ⟨R, 0, none⟩), .int .i64 fin] w fun e w' => e = .returned (.tuple #[str o, .int .i64 0]) ∧ End w L R bv A c bs many r' w' := by
  obtain ⟨hf1, hf2⟩ := hf
  have hLB := h.cur.L_lt
  have hRB := h.rdr.lt
  have hAB := Lib.hid h.A_lt
  obtain ⟨B, hB⟩ : ∃ B, B = w.heap.size := ⟨_, rfl⟩
  have hnew := bld_new w
  have h0 := h.below ((Below.refl w.heap.size w).alloc (Nat.le_refl _) (.cells #[.pointer none, .slice none 0 0] 52))
  have f0 : Fr L R w (w.alloc (.cells #[.pointer none, .slice none 0 0] 52)) := Fr.of_below ((Below.refl w.heap.size w).alloc (Nat.le_refl _) _)
  have hlenT := txt_len hT
  have hrl := hr.len
  have hsm := h.cur.small
  replace hlenT := Lib.hid hlenT
  replace hnew := Lib.hid hnew
  replace h0 := Lib.hid h0
  replace f0 := Lib.hid f0
  replace hr := Lib.hid hr
  replace hT := Lib.hid hT
  clear h
  go_enter Tryd.func63, Tryd.ntmps63
  go_wp2
  go_loopw [7] (fun _ wr => ∃ q r1 o1 o2, Rest bs q r1 ∧ Txt fin r1 o2 r' ∧ o1 ++ o2 = o ∧ RS wr L R bv A c bs q many ∧ Lib.IsBuilder 52 5 w.heap.size w.heap.size (byteCells o1) wr ∧ Fr L R w wr) (fun _ wr => bs.length + 1 - posOf L wr)
  case atStart => exact ⟨p, r, [], o, hr.out, hT.out, rfl, h0.out, hnew.out, f0.out⟩
  case round =>
    obtain ⟨q, r1, o1, o2, hq, hT1, ho, hS, hb, hF⟩ := hrel
    have c0 := hS.rdr.cell 0
    have cp := rs_peek hS
    have hpos := Lib.hid hS.pos
    have hFz := hF.size
    have hol : o1.length + o2.length = o.length := by rw [← ho]; simp
    have hq2 := hq.len
    clear hr hT h0 hnew f0
    cases hT1 with
    | nil =>
      rw [peek_nil hq.eq] at cp
      have hst : ∀ w1, RS w1 L R bv A c bs q many → Fr L R wr w1 → Calls Tryd.prog 19 #[.pointer (some ⟨w.heap.size, 0, none⟩)] w1 fun e w' => e = .returned (.string ⟨o1.toArray⟩) ∧ Below w.heap.size w1 w' := fun w1 h1 f1 => Tryd.Builder_String_any w.heap.size w.heap.size o1 w1 (bld_fr hb f1 hLB hRB) (by have := f1.size; omega)
      have hoo : o1 = o := by rw [← ho]; simp
      replace hst := Lib.hid hst
      replace hF := Lib.hid hF
      replace hS := Lib.hid hS
      replace hb := Lib.hid hb
      replace hq := Lib.hid hq
      replace hoo := Lib.hid hoo
      replace ho := Lib.hid ho
      go_wp2_with (first
        | (go_at_call 58; (with_reducible refine cp.mono ?_); rintro e w1 ⟨rfl, h1, f1⟩; have k1 := hst.out w1 h1 f1; replace f1 := Lib.hid f1; replace h1 := Lib.hid h1)
        | (go_at_call 19; (with_reducible refine k1.mono ?_); rintro e w2 ⟨rfl, b2⟩; replace b2 := Lib.hid b2))
      go_ret2
      exact ⟨by rw [← hoo.out]; rfl, ⟨q, h1.out.belowB b2.out hLB hRB hAB.out, hq.out⟩, (hF.out.trans f1.out).tail b2.out⟩
    | stop x r2 hx =>
      rw [peek_cons hq.eq] at cp
      have hst : ∀ w1, RS w1 L R bv A c bs q many → Fr L R wr w1 → Calls Tryd.prog 19 #[.pointer (some ⟨w.heap.size, 0, none⟩)] w1 fun e w' => e = .returned (.string ⟨o1.toArray⟩) ∧ Below w.heap.size w1 w' := fun w1 h1 f1 => Tryd.Builder_String_any w.heap.size w.heap.size o1 w1 (bld_fr hb f1 hLB hRB) (by have := f1.size; omega)
      have hoo : o1 = o := by rw [← ho]; simp
      have hx0 : (0 : Int) ≤ (x.toNat : Int) := Int.natCast_nonneg _
      have hx2 : (x.toNat : Int) = 60 ∨ (¬ (x.toNat : Int) = 60 ∧ (x.toNat : Int) = fin) := by
        by_cases h60 : (x.toNat : Int) = 60
        · exact .inl h60
        · refine .inr ⟨h60, ?_⟩
          rcases hx with rfl | hx
          · exact absurd rfl h60
          · exact hx
      replace hst := Lib.hid hst
      replace hF := Lib.hid hF
      replace hS := Lib.hid hS
      replace hb := Lib.hid hb
      replace hq := Lib.hid hq
      replace hoo := Lib.hid hoo
      replace ho := Lib.hid ho
      clear hx
      rcases hx2 with hx3 | ⟨hx3, hx4⟩
      · rw [hx3] at cp
        clear hx3 hx0
        go_wp2_with (first
          | (go_at_call 58; (with_reducible refine cp.mono ?_); rintro e w1 ⟨rfl, h1, f1⟩; have k1 := hst.out w1 h1 f1; replace f1 := Lib.hid f1; replace h1 := Lib.hid h1)
          | (go_at_call 19; (with_reducible refine k1.mono ?_); rintro e w2 ⟨rfl, b2⟩; replace b2 := Lib.hid b2))
        go_ret2
        exact ⟨by rw [← hoo.out]; rfl, ⟨q, h1.out.belowB b2.out hLB hRB hAB.out, hq.out⟩, (hF.out.trans f1.out).tail b2.out⟩
      · rw [hx4] at cp hx3 hx0
        replace hx4 := Lib.hid hx4
        go_wp2_with (first
          | (go_at_call 58; (with_reducible refine cp.mono ?_); rintro e w1 ⟨rfl, h1, f1⟩; have k1 := hst.out w1 h1 f1; replace f1 := Lib.hid f1; replace h1 := Lib.hid h1)
          | (go_at_call 19; (with_reducible refine k1.mono ?_); rintro e w2 ⟨rfl, b2⟩; replace b2 := Lib.hid b2))
        go_ret2
        exact ⟨by rw [← hoo.out]; rfl, ⟨q, h1.out.belowB b2.out hLB hRB hAB.out, hq.out⟩, (hF.out.trans f1.out).tail b2.out⟩
    | byte x r2 o3 _ hx1 hx2 hx3 hT2 =>
      rw [peek_cons hq.eq] at cp
      obtain ⟨hd, hlt⟩ := drop_one hq.eq
      have hq3 : Rest bs (q + 1) r2 := ⟨hd, hlt⟩
      have hwb : ∀ w1, RS w1 L R bv A c bs (q + 1) many → Fr L R wr w1 → Calls Tryd.prog 71 #[.pointer (some ⟨w.heap.size, 0, none⟩), .int .u8 (x.toNat : Int)] w1 fun e w' => e = .returned .nilIface ∧ (Lib.IsBuilder 52 5 w.heap.size w.heap.size (byteCells o1 ++ [.int .u8 (x.toNat : Int)]) w' ∧ Below w.heap.size w1 w') := fun w1 h1 f1 => bld_byte w.heap.size w.heap.size (byteCells o1) (x.toNat : Int) w1 (bld_fr hb f1 hLB hRB) (by rw [bcells_len]; have := hlenT.out; omega) (by have := f1.size; omega)
      have hcc : Hid (byteCells o1 ++ [.int .u8 (x.toNat : Int)] = byteCells (o1 ++ [x])) := Lib.hid (by rw [bcells_app]; rfl)
      have hne : ∀ n : UInt8, x ≠ n → ¬ (x.toNat : Int) = (n.toNat : Int) := fun n h e => h (UInt8.toNat_inj.1 (by omega))
      have g1 : ((x.toNat : Int) == 60) = false := by rw [beq_eq_false_iff_ne]; exact hne 60 hx1
      have g2 : ((x.toNat : Int) == 38) = false := by rw [beq_eq_false_iff_ne]; exact hne 38 hx3
      have g5 : ((x.toNat : Int) == fin) = false := by rw [beq_eq_false_iff_ne]; exact hx2
      have g3 : (0 : Int) ≤ (x.toNat : Int) := Int.natCast_nonneg _
      have g4 := u8_lt x
      have hoo : Hid ((o1 ++ [x]) ++ o3 = o) := Lib.hid (by rw [← ho]; simp)
      clear hne hx1 hx2 hx3 hd
      generalize (x.toNat : Int) = X at *
      replace hwb := Lib.hid hwb
      replace hF := Lib.hid hF
      replace hS := Lib.hid hS
      replace hb := Lib.hid hb
      replace hq := Lib.hid hq
      replace hq3 := Lib.hid hq3
      replace ho := Lib.hid ho
      replace hT2 := Lib.hid hT2
      replace hol := Lib.hid hol
      replace hq2 := Lib.hid hq2
      go_wp2_with (first
        | (go_at_call 58; (with_reducible refine cp.mono ?_); rintro e w1 ⟨rfl, h1, f1⟩; have c1 := h1.rdr.cell 0; have cn := rs_next h1; rw [if_pos hlt] at cn; replace f1 := Lib.hid f1; replace h1 := Lib.hid h1)
        | (go_at_call 59; (with_reducible refine cn.mono ?_); rintro e w2 ⟨rfl, h2, f2⟩; have f12 := f1.out.trans f2; have k2 := hwb.out w2 h2 f12; replace f2 := Lib.hid f2; replace f12 := Lib.hid f12; replace h2 := Lib.hid h2)
        | (go_at_call 71; (with_reducible refine k2.mono ?_); rintro e w3 ⟨rfl, hb3, b3⟩; replace b3 := Lib.hid b3; replace hb3 := Lib.hid hb3))
      have hb4 := hb3.out
      rw [hcc.out] at hb4
      have h3 := h2.out.belowB b3.out hLB hRB hAB.out
      go_roundw
      case rel => exact ⟨q + 1, r2, o1 ++ [x], o3, hq3.out, hT2.out, hoo.out, h3, hb4, (hF.out.trans f12.out).tail b3.out⟩
      case measure => rw [h3.pos, hpos.out]; omega
    | ent r2 e r3 o3 _ hx2 hE hT2 =>
      rw [peek_cons hq.eq] at cp
      obtain ⟨hd, hlt⟩ := drop_one hq.eq
      have hq3 : Rest bs (q + 1) r2 := ⟨hd, hlt⟩
      have ce : ∀ w1, RS w1 L R bv A c bs (q + 1) many → Calls Tryd.prog 72 #[.pointer (some ⟨R, 0, none⟩)] w1 fun e' w' => e' = .returned (.tuple #[.string ⟨e.toArray⟩, .int .i64 0]) ∧ End w1 L R bv A c bs many r3 w' := fun w1 h1 => xml_entity h1 hq3 hE
      have hws : ∀ w1, Fr L R wr w1 → Calls Tryd.prog 18 #[.pointer (some ⟨w.heap.size, 0, none⟩), .string ⟨e.toArray⟩] w1 fun e' w' => e' = .returned (.tuple #[.int .i64 (⟨e.toArray⟩ : ByteArray).size, .nilIface]) ∧ (Lib.IsBuilder 52 5 w.heap.size w.heap.size (byteCells o1 ++ Lib.strCells ⟨e.toArray⟩) w' ∧ Below w.heap.size w1 w') := fun w1 f1 => bld_str w.heap.size w.heap.size (byteCells o1) ⟨e.toArray⟩ w1 (bld_fr hb f1 hLB hRB) (by rw [bcells_len]; have := hlenT.out; have := ent_out hE; simp [ByteArray.size]; omega) (by have := f1.size; omega)
      have hcc : Hid (byteCells o1 ++ Lib.strCells ⟨e.toArray⟩ = byteCells (o1 ++ e)) := Lib.hid (by rw [bcells_app]; rfl)
      have hoo : Hid ((o1 ++ e) ++ o3 = o) := Lib.hid (by rw [← ho]; simp)
      have hel := Lib.hid (ent_len hE)
      have cp : Calls Tryd.prog 58 #[.pointer (some ⟨L, 0, none⟩), .int .i64 0] wr fun e w' => e = .returned (.int .i64 38) ∧ RS w' L R bv A c bs q many ∧ Fr L R wr w' := cp
      have g2 : ¬ (38 : Int) = fin := fun e => hx2 e.symm
      clear hx2 hE hd
      generalize (⟨e.toArray⟩ : ByteArray) = E at *
      replace hws := Lib.hid hws
      replace ce := Lib.hid ce
      replace hF := Lib.hid hF
      replace hS := Lib.hid hS
      replace hb := Lib.hid hb
      replace hq := Lib.hid hq
      replace hq3 := Lib.hid hq3
      replace ho := Lib.hid ho
      replace hT2 := Lib.hid hT2
      replace hol := Lib.hid hol
      replace hq2 := Lib.hid hq2
      go_wp2_with (first
        | (go_at_call 58; (with_reducible refine cp.mono ?_); rintro e w1 ⟨rfl, h1, f1⟩; have c1 := h1.rdr.cell 0; have cn := rs_next h1; rw [if_pos hlt] at cn; replace f1 := Lib.hid f1; replace h1 := Lib.hid h1)
        | (go_at_call 59; (with_reducible refine cn.mono ?_); rintro e w2 ⟨rfl, h2, f2⟩; have f12 := f1.out.trans f2; have k2 := ce.out w2 h2; replace f2 := Lib.hid f2; replace f12 := Lib.hid f12; replace h2 := Lib.hid h2)
        | (go_at_call 72; (with_reducible refine k2.mono ?_); rintro e w3 ⟨rfl, ⟨⟨q4, h3, hq4⟩, f3⟩⟩; have f13 := f12.out.trans f3; have k3 := hws.out w3 f13; replace f3 := Lib.hid f3; replace f13 := Lib.hid f13; replace h3 := Lib.hid h3; replace hq4 := Lib.hid hq4)
        | (go_at_call 18; (with_reducible refine k3.mono ?_); rintro e w4 ⟨rfl, hb4, b4⟩; replace b4 := Lib.hid b4; replace hb4 := Lib.hid hb4))
      have hb5 := hb4.out
      rw [hcc.out] at hb5
      have h4 := h3.out.belowB b4.out hLB hRB hAB.out
      go_roundw
      case rel => exact ⟨q4, r3, o1 ++ e, o3, hq4.out, hT2.out, hoo.out, h4, hb5, (hF.out.trans f13.out).tail b4.out⟩
      case measure =>
        rw [h4.pos, hpos.out]
        have a1 := hq4.out.len
        have a2 := hq3.out.len
        have a3 := hel.out
        omega
end Go.Proofs.YtgomlebemefdcaaDoor

/- The reader reads a full name, with what stands in front or without. No condition. -/
namespace Go.Proofs.YtgomlebemefdcaaDoor
open Go Go.RowKit Go.Wk Go.Xt Go.Xe
/-- a full name -/
inductive FullN : List UInt8 → List UInt8 → List UInt8 → List UInt8 → Prop
  | one (r nm : List UInt8) : nameS r = nm → nm ≠ [] → ¬ [58] <+: r.drop nm.length → FullN r [] nm (r.drop nm.length)
  | two (r pre r1 nm : List UInt8) : nameS r = pre → pre ≠ [] → r.drop pre.length = 58 :: r1 → nameS r1 = nm → nm ≠ [] → FullN r pre nm (r1.drop nm.length)
set_option maxHeartbeats 2000000 in
set_option maxRecDepth 100000 in
theorem xml_fullN {w : World} {L R c p many : Nat} {bv : Value} {A : Option Addr} {bs r pre nm r' : List UInt8} (h : RS w L R bv A c bs p many) (hr : Rest bs p r) (hF : FullN r pre nm r') :
    Calls Tryd.prog 53 #[.pointer (some ⟨R, 0, none⟩)] w fun e w' => e = .returned (.tuple #[str pre, str nm, .int .i64 0]) ∧ End w L R bv A c bs many r' w' := by
  cases hF with
  | one _ hn hne hno =>
    exact xml_full h hr hn hne hno
  | two _ r1 _ hn hne hd hn2 hne2 =>
    have c1 := xml_one h hr hn hne
    rw [hd] at c1
    have m1 : ∀ w1 q, RS w1 L R bv A c bs q many → Rest bs q (58 :: r1) → Calls Tryd.prog 54 #[.pointer (some ⟨L, 0, none⟩), .string ⟨#[58]⟩] w1 fun e w' => e = .returned (.bool true) ∧ (RS w' L R bv A c bs (q + 1) many ∧ Rest bs (q + 1) r1) ∧ Fr L R w1 w' := fun w1 q h1 hq =>
      (rs_yes h1 ⟨#[58]⟩ r1 (by decide) (by decide) hq.eq).mono fun e w' k => ⟨k.1, ⟨k.2.1, hq.app (s := [58])⟩, k.2.2⟩
    have c2 := fun w1 q (h1 : RS w1 L R bv A c bs q many) (hq : Rest bs q r1) => xml_one h1 hq hn2 hne2
    replace m1 := Lib.hid m1
    replace c2 := Lib.hid c2
    clear hn hne hd hn2 hne2 h hr
    generalize r1.drop nm.length = r2 at *
    obtain ⟨P, hP⟩ : ∃ P : ByteArray, str pre = .string P := ⟨_, rfl⟩
    obtain ⟨N, hN⟩ : ∃ P : ByteArray, str nm = .string P := ⟨_, rfl⟩
    rw [hP] at c1
    simp only [hN] at c2
    rw [hP, hN]
    go_enter Tryd.func53, Tryd.ntmps53
    go_wp2_with (first
      | (go_at_call 64; (with_reducible refine c1.mono ?_); rintro e w1 ⟨rfl, ⟨⟨q, h1, hq⟩, f1⟩⟩; have k1 := m1.out w1 q h1 hq; have c0 := h1.rdr.cell 0; replace f1 := Lib.hid f1; replace h1 := Lib.hid h1; replace hq := Lib.hid hq; clear c1)
      | (go_at_call 54; (with_reducible refine k1.mono ?_); rintro e w2 ⟨rfl, ⟨h2, hq2⟩, f2⟩; have k2 := c2.out w2 _ h2 hq2; replace f2 := Lib.hid f2; replace h2 := Lib.hid h2; replace hq2 := Lib.hid hq2)
      | (go_at_call 64; (with_reducible refine k2.mono ?_); rintro e w3 ⟨rfl, ⟨⟨q3, h3, hq3⟩, f3⟩⟩; replace f3 := Lib.hid f3; replace h3 := Lib.hid h3; replace hq3 := Lib.hid hq3))
    go_ret3
    exact ⟨rfl, ⟨_, h3.out, hq3.out⟩, (f1.out.trans f2.out).trans f3.out⟩
end Go.Proofs.YtgomlebemefdcaaDoor

/- The reader reads an attribute, with what stands in front of its name or without. No condition. -/
namespace Go.Proofs.YtgomlebemefdcaaDoor
open Go Go.RowKit Go.Wk Go.Xt Go.Xe
/-- an attribute: what stands in front, its name, its value -/
inductive AttP : List UInt8 → List UInt8 × List UInt8 × List UInt8 → List UInt8 → Prop
  | mk (r pre nm r1 v : List UInt8) (q : UInt8) (r2 r3 : List UInt8) : FullN r pre nm r1 → r1.drop (ws r1) = 61 :: r2 → r2.drop (ws r2) = q :: r3 → (q = 34 ∨ q = 39) → (r4 : List UInt8) → Txt (q.toNat : Int) r3 v (q :: r4) → AttP r (pre, nm, v) r4
def put3 (W : World) (g : Nat) (v0 v1 v2 : Value) : World := ((W.setCell ⟨g, 0, none⟩ v0).setCell ⟨g, 1, none⟩ v1).setCell ⟨g, 2, none⟩ v2
theorem put3_save (W : World) (g : Nat) (v0 v1 v2 : Value) : Save g W (put3 W g v0 v1 v2) := (((Save.refl g W).store 0 v0).store 1 v1).store 2 v2
theorem put3_blk {W : World} {g : Nat} {t : TypeId} {u0 u1 u2 : Value} (h : Blk W g t #[u0, u1, u2]) (v0 v1 v2 : Value) : Blk (put3 W g v0 v1 v2) g t #[v0, v1, v2] := ((h.set_ 0 v0).set_ 1 v1).set_ 2 v2
set_option maxHeartbeats 4000000 in
set_option maxRecDepth 100000 in
theorem xml_attrP {w : World} {L R c p many : Nat} {bv : Value} {A : Option Addr} {bs r r' : List UInt8} {a : List UInt8 × List UInt8 × List UInt8} (h : RS w L R bv A c bs p many) (hr : Rest bs p r) (hA : AttP r a r') :
    Calls Tryd.prog 65 #[.pointer (some ⟨R, 0, none⟩)] w fun e w' => e = .returned (.tuple #[.agg #[str a.1, str a.2.1, str a.2.2], .int .i64 0]) ∧ End w L R bv A c bs many r' w' := by
  have hb0 : Below w.heap.size w (w.alloc (.cells #[.string ⟨#[]⟩, .string ⟨#[]⟩, .string ⟨#[]⟩] 118)) := (Below.refl _ _).alloc (Nat.le_refl _) _
  have h0 := h.below hb0
  have hnew := Blk.new w 118 #[.string ⟨#[]⟩, .string ⟨#[]⟩, .string ⟨#[]⟩]
  have hRlt := h.rdr.lt
  have hLlt := h.cur.L_lt
  have hAlt := Lib.hid h.A_lt
  cases hA with
  | mk pre nm r1 v q r2 r3 hF hw1 hw2 hqq r4 hT =>
    obtain ⟨PR, hPR⟩ : ∃ N : ByteArray, (⟨pre.toArray⟩ : ByteArray) = N := ⟨_, rfl⟩
    have hPR2 : str pre = .string PR := by rw [← hPR]; rfl
    obtain ⟨N, hN⟩ : ∃ N : ByteArray, (⟨nm.toArray⟩ : ByteArray) = N := ⟨_, rfl⟩
    have hN2 : str nm = .string N := by rw [← hN]; rfl
    obtain ⟨V, hV⟩ : ∃ N : ByteArray, (⟨v.toArray⟩ : ByteArray) = N := ⟨_, rfl⟩
    have hV2 : str v = .string V := by rw [← hV]; rfl
    have cf := xml_fullN h0 hr hF
    simp only [hN2, hPR2] at cf
    have k1 : ∀ W p1, RS W L R bv A c bs p1 many → Rest bs p1 r1 → Calls Tryd.prog 49 #[.pointer (some ⟨R, 0, none⟩)] W fun e w' => e = .returned (.int .i64 (ws r1 : Nat)) ∧ (RS w' L R bv A c bs (p1 + ws r1) many ∧ Rest bs (p1 + ws r1) (61 :: r2)) ∧ Fr L R W w' := fun W p1 hW hq => by
      have hq2 := hq.ws_
      rw [hw1] at hq2
      exact (xml_blank hW hq.eq).mono fun e w' k => ⟨k.1, ⟨k.2.1, hq2⟩, k.2.2⟩
    have k2 : ∀ W p1, RS W L R bv A c bs p1 many → Rest bs p1 (61 :: r2) → Calls Tryd.prog 54 #[.pointer (some ⟨L, 0, none⟩), .string ⟨#[61]⟩] W fun e w' => e = .returned (.bool true) ∧ (RS w' L R bv A c bs (p1 + 1) many ∧ Rest bs (p1 + 1) r2) ∧ Fr L R W w' := fun W p1 hW hq =>
      (rs_yes hW ⟨#[61]⟩ r2 (by decide) (by decide) hq.eq).mono fun e w' k => ⟨k.1, ⟨k.2.1, hq.app (s := [61])⟩, k.2.2⟩
    have k3 : ∀ W p1, RS W L R bv A c bs p1 many → Rest bs p1 r2 → Calls Tryd.prog 49 #[.pointer (some ⟨R, 0, none⟩)] W fun e w' => e = .returned (.int .i64 (ws r2 : Nat)) ∧ (RS w' L R bv A c bs (p1 + ws r2) many ∧ Rest bs (p1 + ws r2) (q :: r3)) ∧ Fr L R W w' := fun W p1 hW hq => by
      have hq2 := hq.ws_
      rw [hw2] at hq2
      exact (xml_blank hW hq.eq).mono fun e w' k => ⟨k.1, ⟨k.2.1, hq2⟩, k.2.2⟩
    have k4 : ∀ (r5 : List UInt8) W p1, RS W L R bv A c bs p1 many → Rest bs p1 (q :: r5) → Calls Tryd.prog 59 #[.pointer (some ⟨L, 0, none⟩)] W fun e w' => e = .returned (.int .i64 (q.toNat : Int)) ∧ (RS w' L R bv A c bs (p1 + 1) many ∧ Rest bs (p1 + 1) r5) ∧ Fr L R W w' := fun r5 W p1 hW hq => by
      have := rs_next hW
      rw [peek_cons hq.eq, if_pos (drop_one hq.eq).2] at this
      exact this.mono fun e w' k => ⟨k.1, ⟨k.2.1, hq.app (s := [q])⟩, k.2.2⟩
    have k4a := k4 r3
    have k4b := k4 r'
    have k5 := fun W p1 (hW : RS W L R bv A c bs p1 many) (hq : Rest bs p1 r3) => xml_text (q.toNat : Int) ⟨by omega, by have := q.toNat_lt; omega⟩ hW hq hT
    simp only [hV2] at k5
    have hx3 : (q.toNat : Int) = 34 ∨ (q.toNat : Int) = 39 := by rcases hqq with rfl | rfl; exact .inl rfl; exact .inr rfl
    have cps := fun (w : World) => xml_passed (w := w) true
    simp only [if_true] at cps
    show Calls Tryd.prog 65 #[.pointer (some ⟨R, 0, none⟩)] w fun e w' => e = .returned (.tuple #[.agg #[str pre, str nm, str v], .int .i64 0]) ∧ End w L R bv A c bs many r' w'
    rw [hPR2, hN2, hV2]
    replace k1 := Lib.hid k1
    replace k2 := Lib.hid k2
    replace k3 := Lib.hid k3
    replace k4a := Lib.hid k4a
    replace k4b := Lib.hid k4b
    replace k5 := Lib.hid k5
    replace h0 := Lib.hid h0
    replace hnew := Lib.hid hnew
    replace hb0 := Lib.hid hb0
    clear hF hw1 hw2 hqq hT h hr hN hN2 hV hV2 hPR hPR2 k4
    generalize hX : (q.toNat : Int) = X at *
    generalize ws r1 = m1 at *
    generalize ws r2 = m2 at *
    clear hX
    rcases hx3 with rfl | rfl
    all_goals
      go_enter Tryd.func65, Tryd.ntmps65
      go_wp2_with (first
        | (go_at_call 53; (with_reducible refine cf.mono ?_); rintro e w1 ⟨rfl, ⟨⟨p1, h1, q1⟩, f1⟩⟩; have g1 := k1.out w1 p1 h1 q1; replace f1 := Lib.hid f1; replace h1 := Lib.hid h1; replace q1 := Lib.hid q1)
        | (go_at_call 49; (with_reducible refine g1.mono ?_); rintro e w2 ⟨rfl, ⟨h2, q2⟩, f2⟩; have g2 := k2.out w2 _ h2 q2; have c2 := h2.rdr.cell 0; replace f2 := Lib.hid f2; replace h2 := Lib.hid h2; replace q2 := Lib.hid q2)
        | (go_at_call 54; (with_reducible refine g2.mono ?_); rintro e w3 ⟨rfl, ⟨h3, q3⟩, f3⟩; have g3 := k3.out w3 _ h3 q3; replace f3 := Lib.hid f3; replace h3 := Lib.hid h3; replace q3 := Lib.hid q3)
        | (go_at_call 49; (with_reducible refine g3.mono ?_); rintro e w4 ⟨rfl, ⟨h4, q4⟩, f4⟩; have g4 := k4a.out w4 _ h4 q4; have c4 := h4.rdr.cell 0; replace f4 := Lib.hid f4; replace h4 := Lib.hid h4; replace q4 := Lib.hid q4)
        | (go_at_call 59; (with_reducible refine g4.mono ?_); rintro e w5 ⟨rfl, ⟨h5, q5⟩, f5⟩; have g5 := k5.out w5 _ h5 q5; replace f5 := Lib.hid f5; replace h5 := Lib.hid h5; replace q5 := Lib.hid q5)
        | (go_at_call 63; (with_reducible refine g5.mono ?_); rintro e w6 ⟨rfl, ⟨⟨p6, h6, q6⟩, f6⟩⟩; have g6 := k4b.out w6 _ h6 q6; have c6 := h6.rdr.cell 0; replace f6 := Lib.hid f6; replace h6 := Lib.hid h6; replace q6 := Lib.hid q6)
        | (go_at_call 59; (with_reducible refine g6.mono ?_); rintro e w7 ⟨rfl, ⟨h7, q7⟩, f7⟩; have F := ((((((f1.out.trans f2.out).trans f3.out).trans f4.out).trans f5.out).trans f6.out).trans f7); have hz : Blk w7 w.heap.size 118 #[.string ⟨#[]⟩, .string ⟨#[]⟩, .string ⟨#[]⟩] := (F.block w.heap.size (by simp) (by omega) (by omega)).trans hnew.out; have a0 := hz.cell 0; have a1 := hz.cell 1; have a2 := hz.cell 2; have y0 := hz.frozen 0; have y1 := hz.frozen 1; have y2 := hz.frozen 2; replace hz := Lib.hid hz; replace F := Lib.hid F; replace f7 := Lib.hid f7; replace h7 := Lib.hid h7; replace q7 := Lib.hid q7)
        | (go_at_call 41; (with_reducible refine (cps _).mono ?_); rintro e w8 ⟨rfl, rfl⟩))
      have hV := put3_blk hz.out (.string PR) (.string N) (.string V)
      have hSV := put3_save w7 w.heap.size (.string PR) (.string N) (.string V)
      unfold put3 at hV hSV
      obtain ⟨U, hU⟩ : ∃ U, U = ((w7.setCell ⟨w.heap.size, 0, none⟩ (.string PR)).setCell ⟨w.heap.size, 1, none⟩ (.string N)).setCell ⟨w.heap.size, 2, none⟩ (.string V) := ⟨_, rfl⟩
      rw [← hU] at hV hSV ⊢
      have r0 := hV.cell 0
      have r1 := hV.cell 1
      have r2 := hV.cell 2
      have hF0 := (Fr.of_below hb0.out).trans F.out
      have hBU : Below w.heap.size w7 U := hSV.below (Nat.le_refl _) hF0.size
      refine bodyPost_ret (v := .tuple #[.agg #[.string PR, .string N, .string V], .int .i64 0]) (by simp [results, Tryd.results65, go_sem, r0, r1, r2]) rfl ⟨rfl, ⟨_, h7.out.belowB hBU hLlt hRlt hAlt.out, q7.out⟩, hF0.tail hBU⟩
end Go.Proofs.YtgomlebemefdcaaDoor

/- The reader reads attributes, however many. No condition. -/
namespace Go.Proofs.YtgomlebemefdcaaDoor
open Go Go.RowKit Go.Wk Go.Xt Go.Xe
/-- attributes -/
inductive AttsP : List UInt8 → List (List UInt8 × List UInt8 × List UInt8) → List UInt8 → Prop
  | nil (r r' : List UInt8) (c : UInt8) : r.drop (ws r) = c :: r' → (c = 47 ∨ c = 62) → AttsP r [] (c :: r')
  | cons (r r2 r' : List UInt8) (a : List UInt8 × List UInt8 × List UInt8) (l : List (List UInt8 × List UInt8 × List UInt8)) (c1 : UInt8) (rc : List UInt8) : 0 < ws r → r.drop (ws r) = c1 :: rc → c1 ≠ 47 → c1 ≠ 62 → AttP (c1 :: rc) a r2 → AttsP r2 l r' → AttsP r (a :: l) r'
def apV (l : List (List UInt8 × List UInt8 × List UInt8)) : List Value := l.flatMap fun a => [str a.1, str a.2.1, str a.2.2]
theorem apV_len (l : List (List UInt8 × List UInt8 × List UInt8)) : (apV l).length = 3 * l.length := by
  induction l with
  | nil => rfl
  | cons a l ih => simp [apV] at ih ⊢; omega
theorem apV_snoc (l : List (List UInt8 × List UInt8 × List UInt8)) (a : List UInt8 × List UInt8 × List UInt8) : apV (l ++ [a]) = apV l ++ [str a.1, str a.2.1, str a.2.2] := by simp [apV]
theorem fullN_len {r pre nm r' : List UInt8} (h : FullN r pre nm r') : r'.length ≤ r.length := by
  cases h with
  | one _ _ _ _ => simp
  | two _ r1 _ _ _ hd _ _ => have := congrArg List.length hd; simp at this ⊢; omega
theorem attP_len {r r' : List UInt8} {a : List UInt8 × List UInt8 × List UInt8} (h : AttP r a r') : r'.length < r.length := by
  cases h with
  | mk pre nm r1 v q r2 r3 hF h1 h2 _ r4 hT =>
    have a1 := fullN_len hF
    have a2 := congrArg List.length h1
    have a3 := congrArg List.length h2
    have a4 := txt_len hT
    simp at a2 a3 a4
    omega
set_option maxRecDepth 100000 in
theorem at_info : ∃ i, Tryd.prog.info? 118 = some i ∧ i.zero = some (.agg #[.string ⟨#[]⟩, .string ⟨#[]⟩, .string ⟨#[]⟩]) ∧ i.size = 3 ∧ i.bytes = 48 := ⟨_, rfl, by kernel_rfl, by kernel_rfl, by kernel_rfl⟩
theorem sl_of {w : World} {B e s n : Nat} {v : Value} {xs : List Value} (h : w.ownsRow B e s v n xs) : ∃ a c, v = .slice a n c := by
  rcases h.2 with ⟨rfl, rfl⟩ | ⟨g, cap, cur, rfl, _⟩
  · exact ⟨none, 0, rfl⟩
  · exact ⟨_, _, rfl⟩
theorem three_one (a0 a1 a2 : ByteArray) : ∀ u ∈ [Value.string a0, .string a1, .string a2], u.oneCell' = true := by
  intro u hu
  simp at hu
  rcases hu with rfl | rfl | rfl <;> rfl
theorem three_at {w : World} {h t : Nat} {v0 v1 v2 : Value} (hb : Blk w h t #[v0, v1, v2]) : ∀ j u, [v0, v1, v2][j]? = some u → w.cell? ((⟨h, 0, none⟩ : Addr).add j) = some u := by
  intro j u hj
  rw [Lib.add_plain, Nat.zero_add, hb.cell j, ← hj]
  match j with
  | 0 => rfl
  | 1 => rfl
  | 2 => rfl
  | _ + 3 => rfl
theorem own_frB {L R B e s n : Nat} {w w' : World} {v : Value} {xs : List Value} (h : w.ownsRow B e s v n xs) (f : Fr L R w w') (hL : L < B) (hR : R < B) : w'.ownsRow B e s v n xs := by
  refine ⟨h.1, ?_⟩
  rcases h.2 with h2 | ⟨g, cap, cur, e1, hB, hh, rest⟩
  · exact .inl h2
  · exact .inr ⟨g, cap, cur, e1, hB, (f.block g (by
      rcases Nat.lt_or_ge g w.heap.size with h' | h'
      · exact h'
      · rw [Array.getElem?_eq_none h'] at hh; cases hh) (by omega) (by omega)).trans hh, rest⟩
theorem own_belowB {B e s n : Nat} {w w' : World} {v : Value} {xs : List Value} (h : w.ownsRow B e s v n xs) (hb : Below w.heap.size w w') : w'.ownsRow B e s v n xs := by
  refine ⟨h.1, ?_⟩
  rcases h.2 with h2 | ⟨g, cap, cur, e1, hB, hh, rest⟩
  · exact .inl h2
  · exact .inr ⟨g, cap, cur, e1, hB, (hb.block g (by
      rcases Nat.lt_or_ge g w.heap.size with h' | h'
      · exact h'
      · rw [Array.getElem?_eq_none h'] at hh; cases hh)).trans hh, rest⟩
set_option maxHeartbeats 4000000 in
set_option maxRecDepth 100000 in
theorem xml_attrsP {w : World} {L R c p many : Nat} {bv : Value} {A : Option Addr} {bs r r' : List UInt8} {l : List (List UInt8 × List UInt8 × List UInt8)} (h : RS w L R bv A c bs p many) (hr : Rest bs p r) (hA : AttsP r l r') :
    Calls Tryd.prog 61 #[.pointer (some ⟨R, 0, none⟩)] w fun e w' => ∃ a cap, e = .returned (.tuple #[.slice a l.length cap, .int .i64 0]) ∧ w'.ownsRow w.heap.size 118 3 (.slice a l.length cap) l.length (apV l) ∧ End w L R bv A c bs many r' w' := by
  have hLlt := h.cur.L_lt
  have hRlt := h.rdr.lt
  have hAlt := Lib.hid h.A_lt
  have hsm := h.cur.small
  obtain ⟨i0, hi0, hq0, hqs, hqb⟩ := at_info
  replace h := Lib.hid h
  replace hr := Lib.hid hr
  replace hA := Lib.hid hA
  replace hi0 := Lib.hid hi0
  replace hq0 := Lib.hid hq0
  replace hqs := Lib.hid hqs
  replace hqb := Lib.hid hqb
  go_enter Tryd.func61, Tryd.ntmps61
  go_wp2
  go_loopw [4] (fun s4 wr => ∃ (q : Nat) (r1 : List UInt8) (done rest : List (List UInt8 × List UInt8 × List UInt8)), done ++ rest = l ∧ AttsP r1 rest r' ∧ Rest bs q r1 ∧ RS wr L R bv A c bs q many ∧ Fr L R w wr ∧ wr.ownsRow w.heap.size 118 3 s4 done.length (apV done) ∧ done.length + r1.length ≤ bs.length) (fun _ wr => bs.length + 1 - posOf L wr)
  case atStart => exact ⟨p, r, [], l, rfl, hA.out, hr.out, h.out, Fr.refl _ _ _, World.ownsRow_nil _ _ _ _, by have := hr.out.len; simp; omega⟩
  case round =>
    obtain ⟨q, r1, done, rest, hl, hA1, hq, hS, hF, hown, hlen⟩ := hrel
    have hpos := Lib.hid hS.pos
    have hFz := hF.size
    clear h hr hA
    obtain ⟨a4, c4, rfl⟩ := sl_of hown
    have k1 := xml_blank hS hq.eq
    have hq1 := hq.ws_
    cases hA1 with
    | nil _ r3 x hx hx2 =>
      rw [hx] at hq1
      have k2 : ∀ W, RS W L R bv A c bs (q + ws r1) many → Calls Tryd.prog 58 #[.pointer (some ⟨L, 0, none⟩), .int .i64 0] W fun e w' => e = .returned (.int .i64 (x.toNat : Int)) ∧ RS w' L R bv A c bs (q + ws r1) many ∧ Fr L R W w' := fun W hW => by
        have := rs_peek hW
        rw [peek_cons hq1.eq] at this
        exact this
      have hx3 : (x.toNat : Int) = 47 ∨ (x.toNat : Int) = 62 := by rcases hx2 with rfl | rfl; exact .inl rfl; exact .inr rfl
      rw [List.append_nil] at hl
      subst hl
      replace k2 := Lib.hid k2
      replace hq1 := Lib.hid hq1
      replace hown := Lib.hid hown
      replace hF := Lib.hid hF
      replace hS := Lib.hid hS
      clear hq hx hx2 hlen
      generalize hX : (x.toNat : Int) = X at *
      generalize ((ws r1 : Nat) : Int) = Z1 at *
      clear hX
      rcases hx3 with rfl | rfl
      all_goals
        go_wp2_with (first
          | (go_at_call 49; (with_reducible refine k1.mono ?_); rintro e w1 ⟨rfl, h1, f1⟩; have g2 := k2.out w1 h1; have c1 := h1.rdr.cell 0; replace f1 := Lib.hid f1; replace h1 := Lib.hid h1)
          | (go_at_call 58; (with_reducible refine g2.mono ?_); rintro e w2 ⟨rfl, h2, f2⟩; replace f2 := Lib.hid f2; replace h2 := Lib.hid h2))
        go_ret2
        exact ⟨_, _, rfl, own_frB hown.out (f1.out.trans f2.out) hLlt hRlt, ⟨_, h2.out, hq1.out⟩, (hF.out.trans f1.out).trans f2.out⟩
    | cons _ r2 _ a rest x1 rc h1 h2 h3 h4 h5 h6 =>
      rw [h2] at hq1
      have hdl := attP_len h5
      have hql := hq1.len
      have hql0 := hq.len
      obtain ⟨pre, nm, v⟩ := a
      obtain ⟨PR, hPR⟩ : ∃ N : ByteArray, str pre = .string N := ⟨_, rfl⟩
      obtain ⟨N, hN⟩ : ∃ N : ByteArray, str nm = .string N := ⟨_, rfl⟩
      obtain ⟨V, hV⟩ : ∃ N : ByteArray, str v = .string N := ⟨_, rfl⟩
      have k2 : ∀ W, RS W L R bv A c bs (q + ws r1) many → Calls Tryd.prog 58 #[.pointer (some ⟨L, 0, none⟩), .int .i64 0] W fun e w' => e = .returned (.int .i64 (x1.toNat : Int)) ∧ RS w' L R bv A c bs (q + ws r1) many ∧ Fr L R W w' := fun W hW => by
        have := rs_peek hW
        rw [peek_cons hq1.eq] at this
        exact this
      have k3 : ∀ W, RS W L R bv A c bs (q + ws r1) many → Calls Tryd.prog 65 #[.pointer (some ⟨R, 0, none⟩)] W fun e w' => e = .returned (.tuple #[.agg #[.string PR, .string N, .string V], .int .i64 0]) ∧ End W L R bv A c bs many r2 w' := fun W hW => by
        have := xml_attrP hW hq1 h5
        simp only [hPR, hN, hV] at this
        exact this
      have t1 : ((x1.toNat : Int) == 47) = false := by have := u8_eq x1 47; rw [show (((47 : UInt8).toNat : Int)) = 47 from rfl] at this; rw [← this]; simp [h3]
      have t2 : ((x1.toNat : Int) == 62) = false := by have := u8_eq x1 62; rw [show (((62 : UInt8).toNat : Int)) = 62 from rfl] at this; rw [← this]; simp [h4]
      have t3 : (((ws r1 : Nat) : Int) == 0) = false := by simp; omega
      have hsnoc : apV (done ++ [(pre, nm, v)]) = apV done ++ [.string PR, .string N, .string V] := by rw [apV_snoc, hPR, hN, hV]
      have hl2 : (done ++ [(pre, nm, v)]) ++ rest = l := by rw [← hl]; simp
      have hmx : done.length + 1 ≤ maxLen := by unfold maxLen; omega
      have hby : (done.length + 1) * 48 ≤ 140737488355328 := by omega
      have hdlen : (done ++ [(pre, nm, v)]).length = done.length + 1 := by simp
      have hdl2 : r2.length < r1.length := by have := congrArg List.length h2; simp at this hdl; omega
      have hbnd : done.length + 1 + r2.length ≤ bs.length := by omega
      obtain ⟨n, hn⟩ : ∃ n, n = done.length := ⟨_, rfl⟩
      rw [← hn] at hown hmx hby hdlen hbnd hlen ⊢
      replace k2 := Lib.hid k2
      replace k3 := Lib.hid k3
      replace hq1 := Lib.hid hq1
      replace hown := Lib.hid hown
      replace hF := Lib.hid hF
      replace hS := Lib.hid hS
      replace h6 := Lib.hid h6
      replace hl2 := Lib.hid hl2
      replace hsnoc := Lib.hid hsnoc
      replace hmx := Lib.hid hmx
      replace hby := Lib.hid hby
      replace hdlen := Lib.hid hdlen
      replace hbnd := Lib.hid hbnd
      replace hdl2 := Lib.hid hdl2
      replace hql0 := Lib.hid hql0
      replace hn := Lib.hid hn
      replace hPR := Lib.hid hPR
      replace hN := Lib.hid hN
      replace hV := Lib.hid hV
      clear hq h1 h2 h3 h4 h5 hdl hql hlen hl
      generalize hX1 : (x1.toNat : Int) = X1 at *
      generalize ((ws r1 : Nat) : Int) = Z1 at *
      clear hX1
      go_wp2_with (first
        | (go_at_call 49; (with_reducible refine k1.mono ?_); rintro e w1 ⟨rfl, h1, f1⟩; have g2 := k2.out w1 h1; have c1 := h1.rdr.cell 0; replace f1 := Lib.hid f1; replace h1 := Lib.hid h1)
        | (go_at_call 58; (with_reducible refine g2.mono ?_); rintro e w2 ⟨rfl, h2, f2⟩; have g3 := k3.out w2 h2; replace f2 := Lib.hid f2; replace h2 := Lib.hid h2)
        | (go_at_call 65; (with_reducible refine g3.mono ?_); rintro e w3 ⟨rfl, ⟨⟨p3, h3, q3⟩, f3⟩⟩; have F := (f1.out.trans f2.out).trans f3; have O3 := own_frB hown.out F hLlt hRlt; have Fz := F.size; replace f3 := Lib.hid f3; replace h3 := Lib.hid h3; replace q3 := Lib.hid q3; replace F := Lib.hid F; replace O3 := Lib.hid O3)
        | (at_builtin; refine wpList_append_own_at _ rfl (.tmp 33) (.tmp 35) 110 rfl w.heap.size 118 i0 _ 3 48 Tryd.underlying110 hi0.out hq0.out hqs.out hqb.out rfl (by decide) (.slice a4 n c4) n (apV done) rfl (own_belowB O3.out (((Below.refl _ _).alloc (Nat.le_refl _) _).alloc (by simp) _)) ⟨w3.heap.size + 1, 0, none⟩ 1 1 [.string PR, .string N, .string V] rfl rfl (three_at (by have := Blk.new (w3.alloc (.cells #[.string PR, .string N, .string V] 118)) 118 #[.string PR, .string N, .string V]; rw [World.size_alloc] at this; exact this)) (three_one _ _ _) hmx.out hby.out (by simp; omega) ?_; intro v5 w5 hown5 hg5 _ hat5; generalize hstop : wpList _ _ _ _ _ _ = G))
      subst hstop
      obtain ⟨a5, cp5, rfl⟩ := sl_of hown5
      have hz2 : ((w3.alloc (.cells #[.string PR, .string N, .string V] 118)).alloc (.cells #[.string PR, .string N, .string V] 118)).heap.size = w3.heap.size + 2 := by rw [World.size_alloc, World.size_alloc]
      have bb5 : Below w.heap.size w3 w5 := (((Below.refl w.heap.size w3).alloc (by omega) _).alloc (by rw [World.size_alloc]; omega) _).grown hg5 (by rw [hz2]; omega) (fun k hk => (O3.out.lt k hk).1)
      have h5 := h3.out.belowB bb5 hLlt hRlt hAlt.out
      have F5 := (hF.out.trans F.out).tail bb5
      have l1 := q3.out.len
      have l2 := hql0.out
      have l3 := hdl2.out
      have l4 := hbnd.out
      replace hown5 := Lib.hid hown5
      replace hg5 := Lib.hid hg5
      replace hat5 := Lib.hid hat5
      replace bb5 := Lib.hid bb5
      replace h5 := Lib.hid h5
      replace F5 := Lib.hid F5
      replace hz2 := Lib.hid hz2
      clear hi0 hq0 hqs hqb
      go_wp2
      go_roundw
      case rel => exact ⟨p3, r2, done ++ [(pre, nm, v)], rest, hl2.out, h6.out, q3.out, h5.out, F5.out, by rw [hdlen.out, hsnoc.out]; exact hown5.out, by rw [hdlen.out]; exact l4⟩
      case measure => rw [h5.out.pos, hpos.out]; omega
end Go.Proofs.YtgomlebemefdcaaDoor

/- What something in front of a name says. No condition. -/
namespace Go.Proofs.YtgomlebemefdcaaDoor
open Go Go.RowKit Go.Wk Go.Xt Go.Xe
def bndV (B : List (List UInt8 × List UInt8)) : List Value := B.flatMap fun b => [str b.1, str b.2]
theorem bndV_len (B : List (List UInt8 × List UInt8)) : (bndV B).length = 2 * B.length := by
  induction B with
  | nil => rfl
  | cons a l ih => simp [bndV] at ih ⊢; omega
theorem bndV_app (B : List (List UInt8 × List UInt8)) (p s : List UInt8) : bndV (B ++ [(p, s)]) = bndV B ++ [str p, str s] := by simp [bndV]
theorem bndV_at (B : List (List UInt8 × List UInt8)) : ∀ i (hi : i < B.length), (bndV B)[2 * i]? = some (str B[i].1) ∧ (bndV B)[2 * i + 1]? = some (str B[i].2) := by
  induction B with
  | nil => intro i hi; simp at hi
  | cons a l ih =>
    intro i hi
    have e : bndV (a :: l) = str a.1 :: str a.2 :: bndV l := by simp [bndV]
    rw [e]
    cases i with
    | zero => exact ⟨rfl, rfl⟩
    | succ i =>
      have := ih i (by simpa using hi)
      rw [show 2 * (i + 1) = 2 * i + 1 + 1 by omega]
      simpa using this
/-- what is bound, in memory -/
def Bnd (w : World) (B0 : Nat) (bv : Value) (B : List (List UInt8 × List UInt8)) : Prop := w.ownsRow B0 129 2 bv B.length (bndV B)
theorem toList_str (l : List UInt8) (N : ByteArray) (h : str l = .string N) : N.toList = l := by
  unfold str at h
  injection h with h
  rw [← h, ByteArray.toList_eq]
theorem Bnd.cell {w : World} {B0 : Nat} {a : Option Addr} {n cap : Nat} {B : List (List UInt8 × List UInt8)} (h : Bnd w B0 (.slice a n cap) B) : n = B.length ∧ ∀ i (hi : i < B.length), ∃ g, a = some ⟨g, 0, none⟩ ∧ w.cell? ⟨g, 2 * i, none⟩ = some (str B[i].1) ∧ w.cell? ⟨g, 2 * i + 1, none⟩ = some (str B[i].2) := by
  unfold Bnd at h
  have hn : n = B.length := by
    rcases h.2 with ⟨e, h0⟩ | ⟨g, cap', cur, e, _⟩
    · injection e with _ e _; omega
    · injection e
  subst hn
  refine ⟨rfl, fun i hi => ?_⟩
  rcases h.2 with ⟨e, h0⟩ | ⟨g, cap', cur, e, _⟩
  · omega
  · cases e
    have hb := bndV_at B i hi
    exact ⟨g, rfl, (h.cellAt (2 * i) (by omega)).trans hb.1, (h.cellAt (2 * i + 1) (by omega)).trans hb.2⟩
set_option maxHeartbeats 4000000 in
set_option maxRecDepth 100000 in
theorem xml_spaceP {w : World} {L R c p many B0 : Nat} {bv : Value} {A : Option Addr} {bs pre s : List UInt8} {B B1 B2 : List (List UInt8 × List UInt8)} (h : RS w L R bv A c bs p many) (hb : Bnd w B0 bv B) (hB : B = B1 ++ (pre, s) :: B2) (h2 : ∀ b ∈ B2, b.1 ≠ pre) (hx : pre ≠ [120, 109, 108]) (hm : B.length ≤ 100000) :
    Calls Tryd.prog 67 #[.pointer (some ⟨R, 0, none⟩), str pre] w fun e w' => e = .returned (.tuple #[str s, .int .i64 0]) ∧ w = w' := by
  obtain ⟨a, cap, rfl⟩ := sl_of hb
  obtain ⟨_, hcell⟩ := hb.cell
  obtain ⟨PR, hPR⟩ : ∃ N : ByteArray, str pre = .string N := ⟨_, rfl⟩
  obtain ⟨S, hS⟩ : ∃ N : ByteArray, str s = .string N := ⟨_, rfl⟩
  have hPl := toList_str _ _ hPR
  have hx1 : (PR.toList == [120, 109, 108]) = false := by rw [hPl]; simpa using hx
  have hx2 : ¬ PR.toList = [120, 109, 108] := by rw [hPl]; exact hx
  have c2 := h.rdr.cell 2
  rw [hPR, hS]
  have hlen : B.length = B1.length + 1 + B2.length := by rw [hB]; simp; omega
  have rows : ∀ i, B1.length ≤ i → i < B.length → ∃ (g : Nat) (Q T : ByteArray), a = some ⟨g, 0, none⟩ ∧ w.cell? ⟨g, i * 2, none⟩ = some (.string Q) ∧ w.cell? ⟨g, i * 2 + 1, none⟩ = some (.string T) ∧ (i = B1.length → Q = PR ∧ T = S) ∧ (i ≠ B1.length → (Q.toList == PR.toList) = false ∧ ¬ Q.toList = PR.toList ∧ ¬ Q = PR) := by
    intro i h1 hi
    obtain ⟨g, rfl, k0, k1⟩ := hcell i hi
    refine ⟨g, ⟨B[i].1.toArray⟩, ⟨B[i].2.toArray⟩, rfl, by rw [Nat.mul_comm]; exact k0, by rw [Nat.mul_comm]; exact k1, fun e => ?_, fun e => ?_⟩
    · subst e
      have : B[B1.length] = (pre, s) := by simp [hB]
      rw [this]
      unfold str at hPR hS
      injection hPR with hPR
      injection hS with hS
      exact ⟨hPR, hS⟩
    · have hq : B[i] ∈ B2 := by
        have : B[i] = B2[i - B1.length - 1]'(by omega) := by
          subst hB
          rw [List.getElem_append_right (by omega)]
          obtain ⟨j, hj⟩ : ∃ j, i - B1.length = j + 1 := ⟨i - B1.length - 1, by omega⟩
          simp only [hj, List.getElem_cons_succ, Nat.add_sub_cancel]
        rw [this]; exact List.getElem_mem _
      have := h2 _ hq
      rw [hPl, ByteArray.toList_eq]
      refine ⟨by simpa using this, by simpa using this, fun e => this ?_⟩
      rw [← hPl, ← e, ByteArray.toList_eq]
  obtain ⟨n, hn⟩ : ∃ n, n = B.length := ⟨_, rfl⟩
  obtain ⟨m, hmm⟩ : ∃ m, m = B1.length := ⟨_, rfl⟩
  rw [← hn] at hm rows hlen
  rw [← hmm] at rows hlen
  replace c2 : w.cell? ⟨R, 2, none⟩ = some (.slice a n cap) := by rw [hn]; exact c2
  have hmn : m < n := by omega
  replace hlen := Lib.hid hlen
  replace rows := Lib.hid rows
  replace hn := Lib.hid hn
  replace hmm := Lib.hid hmm
  clear hcell hb hB h2 hx h hPR hS hPl
  have hn1 : (1 : Int) ≤ (n : Int) := by omega
  go_enter Tryd.func67, Tryd.ntmps67
  go_wp2
  go_loopw [6] (fun s6 wr => ∃ i : Nat, m ≤ i ∧ i < n ∧ s6 = .int .i64 i ∧ w = wr) (fun s6 _ => (RowKit.intOf s6).toNat)
  case atStart => exact ⟨n - 1, by omega, by omega, by rw [show ((n - 1 : Nat) : Int) = (n : Int) - 1 by omega], rfl⟩
  case round =>
    obtain ⟨i, h1, h2, rfl, rfl⟩ := hrel
    obtain ⟨g, Q, T, rfl, k0, k1, k2, k3⟩ := rows.out i h1 h2
    have hge : (0 : Int) ≤ (i : Int) := by omega
    by_cases hi : i = m
    · obtain ⟨rfl, rfl⟩ := k2 hi
      subst hi
      have hqq : (Q.toList == Q.toList) = true := by simp
      clear k3
      go_wp2
      go_ret2
      exact ⟨rfl, rfl⟩
    · obtain ⟨hqq, hq2, hq3⟩ := k3 hi
      have hi1 : 1 ≤ i := by omega
      clear k2 k3
      go_wp2
      go_roundw
      case rel => exact ⟨i - 1, by omega, by omega, by rw [show ((i - 1 : Nat) : Int) = (i : Int) - 1 by omega], trivial⟩
      case measure => simp [RowKit.intOf]; omega
end Go.Proofs.YtgomlebemefdcaaDoor

/- Is there an attribute of that name among those ahead: one that is another. No condition. -/
namespace Go.Proofs.YtgomlebemefdcaaDoor
open Go Go.RowKit Go.Wk Go.Xt Go.Xe
set_option maxHeartbeats 1000000 in
set_option maxRecDepth 100000 in
theorem idx_nil {w : World} (A : Option Addr) (c : Nat) (f : Value) :
    Calls Tryd.prog 79 #[.slice A 0 c, f] w fun e w' => e = .returned (.int .i64 (-1)) ∧ w = w' := by
  go_enter Tryd.func79, Tryd.ntmps79
  go_wp2
  refine wp_loop_rounds 1 ?_; rw [rounds_succ]
  go_wp2
  go_ret
  exact ⟨rfl, rfl⟩
set_option maxHeartbeats 1000000 in
set_option maxRecDepth 100000 in
theorem cont_nil {w : World} (A : Option Addr) (c : Nat) (f : Value) :
    Calls Tryd.prog 75 #[.slice A 0 c, f] w fun e w' => e = .returned (.bool false) ∧ w = w' := by
  have ci := fun (w : World) => idx_nil (w := w) A c f
  go_enter Tryd.func75, Tryd.ntmps75
  go_wp2_with (go_at_call 79; (with_reducible refine (ci _).mono ?_); rintro e w1 ⟨rfl, rfl⟩)
  go_ret
  exact ⟨rfl, rfl⟩
set_option maxHeartbeats 1000000 in
set_option maxRecDepth 100000 in
theorem clo_no {w : World} (ga : Nat) (X0 X1 X2 PA NA : ByteArray) (h0 : w.cell? ⟨ga, 0, none⟩ = some (.string PA)) (h1 : w.cell? ⟨ga, 1, none⟩ = some (.string NA)) (hne : ¬ X0.toList = PA.toList ∨ ¬ X1.toList = NA.toList) :
    Calls Tryd.prog 76 #[.agg #[.string X0, .string X1, .string X2], .pointer (some ⟨ga, 0, none⟩)] w fun e w' => e = .returned (.bool false) ∧ Below w.heap.size w w' := by
  have hga := cell_lt h0
  by_cases c0 : X0.toList = PA.toList
  · have c1 : ¬ X1.toList = NA.toList := by rcases hne with h | h; exact absurd c0 h; exact h
    have c0' : (X0.toList == PA.toList) = true := by simpa using c0
    have c1' : (X1.toList == NA.toList) = false := by simpa using c1
    clear hne
    go_enter Tryd.func76, Tryd.ntmps76
    go_wp2
    go_ret
    exact ⟨rfl, (Below.refl _ _).alloc (Nat.le_refl _) _⟩
  · have c0' : (X0.toList == PA.toList) = false := by simpa using c0
    clear hne
    go_enter Tryd.func76, Tryd.ntmps76
    go_wp2
    go_ret
    exact ⟨rfl, (Below.refl _ _).alloc (Nat.le_refl _) _⟩
set_option maxHeartbeats 1000000 in
set_option maxRecDepth 100000 in
theorem idx_one {w : World} (g c ga : Nat) (hc : 1 ≤ c) (X0 X1 X2 PA NA : ByteArray) (x0 : w.cell? ⟨g, 0, none⟩ = some (.string X0)) (x1 : w.cell? ⟨g, 1, none⟩ = some (.string X1)) (x2 : w.cell? ⟨g, 2, none⟩ = some (.string X2)) (h0 : w.cell? ⟨ga, 0, none⟩ = some (.string PA)) (h1 : w.cell? ⟨ga, 1, none⟩ = some (.string NA)) (hne : ¬ X0.toList = PA.toList ∨ ¬ X1.toList = NA.toList) :
    Calls Tryd.prog 79 #[.slice (some ⟨g, 0, none⟩) 1 c, .func (.func 76) #[] #[.pointer (some ⟨ga, 0, none⟩)]] w fun e w' => e = .returned (.int .i64 (-1)) ∧ Below w.heap.size w w' := by
  have cc := clo_no (w := w) ga X0 X1 X2 PA NA h0 h1 hne
  clear hne
  go_enter Tryd.func79, Tryd.ntmps79
  go_wp2
  refine wp_loop_rounds 2 ?_; rw [rounds_succ]
  go_wp2_with (go_at_call 76; (with_reducible refine cc.mono ?_); rintro e w1 ⟨rfl, b1⟩; replace b1 := Lib.hid b1)
  rw [rounds_succ]
  go_wp2
  go_ret
  exact ⟨rfl, b1.out⟩
set_option maxHeartbeats 1000000 in
set_option maxRecDepth 100000 in
theorem cont_one {w : World} (g c ga : Nat) (hc : 1 ≤ c) (X0 X1 X2 PA NA : ByteArray) (x0 : w.cell? ⟨g, 0, none⟩ = some (.string X0)) (x1 : w.cell? ⟨g, 1, none⟩ = some (.string X1)) (x2 : w.cell? ⟨g, 2, none⟩ = some (.string X2)) (h0 : w.cell? ⟨ga, 0, none⟩ = some (.string PA)) (h1 : w.cell? ⟨ga, 1, none⟩ = some (.string NA)) (hne : ¬ X0.toList = PA.toList ∨ ¬ X1.toList = NA.toList) :
    Calls Tryd.prog 75 #[.slice (some ⟨g, 0, none⟩) 1 c, .func (.func 76) #[] #[.pointer (some ⟨ga, 0, none⟩)]] w fun e w' => e = .returned (.bool false) ∧ Below w.heap.size w w' := by
  have ci := idx_one (w := w) g c ga hc X0 X1 X2 PA NA x0 x1 x2 h0 h1 hne
  clear hne
  go_enter Tryd.func75, Tryd.ntmps75
  go_wp2_with (go_at_call 79; (with_reducible refine ci.mono ?_); rintro e w1 ⟨rfl, b1⟩; replace b1 := Lib.hid b1)
  go_ret
  exact ⟨rfl, b1.out⟩
/-- what attributes say of things in front of names, behind what was said ahead -/
def bindsOf : List (List UInt8 × List UInt8 × List UInt8) → List (List UInt8 × List UInt8) → List (List UInt8 × List UInt8)
  | [], B => B
  | a :: l, B => bindsOf l (if a.1 = [120, 109, 108, 110, 115] then B ++ [(a.2.1, a.2.2)] else if a.1 = [] ∧ a.2.1 = [120, 109, 108, 110, 115] then B ++ [([], a.2.2)] else B)
/-- all lies as it lay, but for two blocks and the row of what is bound -/
structure FrX (L R : Nat) (bv bv' : Value) (w w' : World) : Prop where
  os : w'.os = w.os
  tape : w'.tape = w.tape
  output : w'.output = w.output
  size : w.heap.size ≤ w'.heap.size
  block : ∀ k, k < w.heap.size → k ≠ L → k ≠ R → bv.ownBlock ≠ some k → w'.heap[k]? = w.heap[k]?
  own : bv'.ownBlock = bv.ownBlock ∨ ∀ k, bv'.ownBlock = some k → w.heap.size ≤ k
theorem FrX.of_fr {L R : Nat} {bv : Value} {w w' : World} (h : Fr L R w w') : FrX L R bv bv w w' := ⟨h.os, h.tape, h.output, h.size, fun k h1 h2 h3 _ => h.block k h1 h2 h3, .inl rfl⟩
theorem FrX.trans {L R : Nat} {b0 b1 b2 : Value} {w w1 w2 : World} (h : FrX L R b0 b1 w w1) (k : FrX L R b1 b2 w1 w2) : FrX L R b0 b2 w w2 := by
  refine ⟨k.os.trans h.os, k.tape.trans h.tape, k.output.trans h.output, Nat.le_trans h.size k.size, fun j h1 h2 h3 h4 => ?_, ?_⟩
  · refine (k.block j (Nat.lt_of_lt_of_le h1 h.size) h2 h3 fun e => ?_).trans (h.block j h1 h2 h3 h4)
    rcases h.own with h5 | h5
    · exact h4 (h5 ▸ e)
    · have := h5 j e; omega
  · rcases k.own with h5 | h5
    · rw [h5]; exact h.own
    · exact .inr fun j e => Nat.le_trans h.size (h5 j e)
end Go.Proofs.YtgomlebemefdcaaDoor

/- A region that draws its order: each operation is looked at once. No condition. -/
/-! A region that draws its order, each operation looked at once -/
namespace Go.Wk
open Go
def upd (x : Nat → Value) (i : Nat) (v : Value) : Nat → Value := fun j => if j = i then v else x j
/-- what the operation waits for -/
def afters (ops : Array Oper) (i : Nat) : List Nat := match ops[i]? with
  | none => []
  | some o => (o.after.toList.filter fun e => Region.binds .any e).map (·.on)
def each (p : Nat → Prop) : Nat → Prop
  | 0 => True
  | n + 1 => each p n ∧ p n
theorem each_all {p : Nat → Prop} : ∀ {n : Nat}, each p n → ∀ i, i < n → p i
  | n + 1, h, i, hi => by
    rcases Nat.lt_or_ge i n with h' | h'
    · exact each_all h.1 i h'
    · have : i = n := by omega
      subst this; exact h.2
theorem getD_set (l : Array Bool) (i j : Nat) (b : Bool) (hi : i < l.size) : (l.setIfInBounds i true).getD j b = if j = i then true else l.getD j b := by
  simp only [Array.getD_eq_getD_getElem?, Array.getElem?_setIfInBounds]
  by_cases h : i = j
  · subst h; simp [hi]
  · simp [h, Ne.symm h]
theorem all_listed {ops : Array Oper} {listed : Array Bool} (back : ((List.range ops.size).all fun i => (afters ops i).all fun j => decide (j < i)) = true) (hs : listed.size = ops.size) (hr : Region.ready .any ops listed = []) :
    ∀ i, i < ops.size → listed.getD i false = true := by
  intro i
  induction i using Nat.strongRecOn with
  | _ i ih =>
    intro hi
    have hil : i < listed.size := by omega
    rcases hb : listed.getD i true with _ | _
    · exfalso
      have : i ∈ Region.ready .any ops listed := by
        rw [mem_ready]
        refine ⟨hb, ops[i], by simp [hi], fun e he hbd => ?_⟩
        have hm : e.on ∈ afters ops i := by
          unfold afters; rw [Array.getElem?_eq_getElem hi]
          exact List.mem_map.2 ⟨e, List.mem_filter.2 ⟨by simpa using he, hbd⟩, rfl⟩
        have h1 := List.all_eq_true.1 (List.all_eq_true.1 back i (List.mem_range.2 hi)) _ hm
        have h2 : e.on < i := of_decide_eq_true h1
        exact ih _ h2 (by omega)
      rw [hr] at this; cases this
    · simp only [Array.getD_eq_getD_getElem?, Array.getElem?_eq_getElem hil, Option.getD_some] at hb ⊢; exact hb
theorem wpAny_lin {P : Program} {ops : Array Oper} {Q : Exit → Act → World → Prop} (mk : (Nat → Value) → Act) {R : World → Prop} {Keeps : World → World → Prop} {Good : Nat → Value → World → Prop}
    (back : ((List.range ops.size).all fun i => (afters ops i).all fun j => decide (j < i)) = true)
    (mono : ∀ i v w w', Good i v w → Keeps w w' → Good i v w')
    (step : ∀ i, i < ops.size → ∀ x w, R w → (∀ j ∈ afters ops i, Good j (x j) w) → wpOp P ops Q i (fun a' w' => ∃ v, a' = mk (upd x i v) ∧ R w' ∧ Keeps w w' ∧ Good i v w') (mk x) w)
    (done : ∀ x w, R w → (∀ i, i < ops.size → Good i (x i) w) → Q .normal (mk x) w) :
    ∀ (fuel : Nat) (listed : Array Bool) (x : Nat → Value) (w : World), listed.toList.count false ≤ fuel → listed.size = ops.size → R w → (∀ i, i < ops.size → listed.getD i false = true → Good i (x i) w) →
      wpAny P .any ops Q fuel listed (mk x) w := by
  have fin : ∀ (listed : Array Bool) (x : Nat → Value) (w : World), listed.size = ops.size → R w → (∀ i, i < ops.size → listed.getD i false = true → Good i (x i) w) → Region.ready .any ops listed = [] → Q .normal (mk x) w :=
    fun listed x w hs hR hG hr => done x w hR fun i hi => hG i hi (all_listed back hs hr i hi)
  intro fuel
  induction fuel with
  | zero =>
    intro listed x w hc hs hR hG
    have hr : Region.ready .any ops listed = [] := by
      apply List.eq_nil_iff_forall_not_mem.2
      intro i hi
      obtain ⟨h1, o, ho, _⟩ := mem_ready.1 hi
      have hi' : i < ops.size := (Array.getElem?_eq_some_iff.1 ho).1
      have hil : i < listed.size := by omega
      have : false ∈ listed.toList := by
        simp only [Array.getD_eq_getD_getElem?, Array.getElem?_eq_getElem hil, Option.getD_some] at h1
        rw [← h1]; simp
      have := List.count_pos_iff.2 this
      omega
    exact ⟨hr, fin listed x w hs hR hG hr⟩
  | succ fuel ih =>
    intro listed x w hc hs hR hG
    refine ⟨fin listed x w hs hR hG, fun i hi => ?_⟩
    obtain ⟨h1, o, ho, hall⟩ := mem_ready.1 hi
    have hi' : i < ops.size := (Array.getElem?_eq_some_iff.1 ho).1
    have hil : i < listed.size := by omega
    have hdep : ∀ j ∈ afters ops i, Good j (x j) w := by
      intro j hj
      have hji : j < i := of_decide_eq_true (List.all_eq_true.1 (List.all_eq_true.1 back i (List.mem_range.2 hi')) _ hj)
      unfold afters at hj; rw [ho] at hj
      obtain ⟨e, he, rfl⟩ := List.mem_map.1 hj
      obtain ⟨he, hb⟩ := List.mem_filter.1 he
      exact hG _ (by omega) (hall e (by simpa using he) hb)
    refine wpOp_mono ?_ (step i hi' x w hR hdep)
    rintro a' w' ⟨v, rfl, hR', hK, hg⟩
    refine ih _ _ _ ?_ (by simpa using hs) hR' ?_
    · have hf : listed.toList[i]'(by simpa using hil) = false := by
        simp only [Array.getD_eq_getD_getElem?, Array.getElem?_eq_getElem hil, Option.getD_some] at h1
        simpa using h1
      rw [Array.toList_setIfInBounds, List.count_set (by simpa using hil)]
      have : 0 < listed.toList.count false := List.count_pos_iff.2 (by rw [← hf]; exact List.getElem_mem _)
      simp only [hf, beq_self_eq_true, if_true, Bool.true_beq, Bool.false_eq_true, if_false]
      omega
    · intro j hj hl
      rw [getD_set _ _ _ _ hil] at hl
      unfold upd
      by_cases hji : j = i
      · subst hji; simpa using hg
      · rw [if_neg hji] at hl ⊢
        exact mono _ _ _ _ (hG j hj hl) hK
theorem wp_region_lin {P : Program} {ops : Array Oper} {Q : Exit → Act → World → Prop} {id : Nat} {a0 : Act} {w0 : World} (hm : P.follows .mixedOrders = true) (mk : (Nat → Value) → Act) (x0 : Nat → Value) (h0 : a0 = mk x0)
    (R : World → Prop) (Keeps : World → World → Prop) (Good : Nat → Value → World → Prop)
    (back : ((List.range ops.size).all fun i => (afters ops i).all fun j => decide (j < i)) = true)
    (hR : R { w0 with drawn := w0.drawn + 1 })
    (mono : ∀ i v w w', Good i v w → Keeps w w' → Good i v w')
    (step : each (fun i => ∀ x w, R w → (∀ j ∈ afters ops i, Good j (x j) w) → wpOp P ops Q i (fun a' w' => ∃ v, a' = mk (upd x i v) ∧ R w' ∧ Keeps w w' ∧ Good i v w') (mk x) w) ops.size)
    (done : ∀ x w, R w → each (fun i => Good i (x i) w) ops.size → Q .normal (mk x) w) : (Code.region id ops true).wp P Q a0 w0 := by
  subst h0
  refine wp_region_any hm (wpAny_lin mk back mono (each_all step) (fun x w hR hG => done x w hR ?_) _ _ _ _ ?_ (by simp) hR ?_)
  · generalize ops.size = n at hG
    induction n with
    | zero => trivial
    | succ n ih => exact ⟨ih fun i hi => hG i (by omega), hG n (by omega)⟩
  · simp
  · intro i hi hl
    simp [Array.getD_eq_getD_getElem?, hi] at hl
end Go.Wk

/- A drawn region, one goal an operation, the frame said by a list. No condition. -/
/-! A drawn region, one goal an operation, the frame said by a list: which operation fills which place -/
namespace Go.Wk
open Go
/-- what is known of what was waited for -/
def All (G : Nat → Value → World → Prop) (x : Nat → Value) (w : World) : List Nat → Prop
  | [] => True
  | j :: js => G j (x j) w ∧ All G x w js
theorem all_of {G : Nat → Value → World → Prop} {x : Nat → Value} {w : World} : ∀ {js : List Nat}, (∀ j ∈ js, G j (x j) w) → All G x w js
  | [], _ => trivial
  | _ :: _, h => ⟨h _ (List.mem_cons_self ..), all_of fun j hj => h j (List.mem_cons_of_mem _ hj)⟩
/-- one operation -/
def Step (P : Program) (ops : Array Oper) (Q : Exit → Act → World → Prop) (mk : (Nat → Value) → Act) (R : World → Prop) (Keeps : World → World → Prop) (G : Nat → Value → World → Prop) (i : Nat) : Prop :=
  ∀ x w, R w → (∀ j ∈ afters ops i, G j (x j) w) → wpOp P ops Q i (fun a' w' => ∃ v, a' = mk (upd x i v) ∧ R w' ∧ Keeps w w' ∧ G i v w') (mk x) w
theorem step_of {P : Program} {ops : Array Oper} {Q : Exit → Act → World → Prop} {mk : (Nat → Value) → Act} {R : World → Prop} {Keeps : World → World → Prop} {G : Nat → Value → World → Prop} {i : Nat} {o : Oper} (js : List Nat)
    (ho : ops[i]? = some o) (hj : (js.all fun j => (afters ops i).contains j) = true)
    (h : ∀ x w, R w → All G x w js → ∀ K : Act → World → Prop, (∀ v w', R w' ∧ Keeps w w' ∧ G i v w' → K (mk (upd x i v)) w') →
      if Region.wanted o (yielded ops (mk x).tmps) = true then Oper.wp P o (mk x) w K Q else K ((mk x).put o.dst undef) w) : Step P ops Q mk R Keeps G i := by
  intro x w hR hd
  unfold wpOp
  simp only [ho]
  have h1 := h x w hR (all_of fun j hj' => hd j (List.contains_iff_mem.1 (List.all_eq_true.1 hj j hj'))) (fun a' w' => ∃ v, a' = mk (upd x i v) ∧ R w' ∧ Keeps w w' ∧ G i v w') (fun v w' h => ⟨v, rfl, h.1, h.2.1, h.2.2⟩)
  split
  · rename_i hw; rw [if_pos hw] at h1; exact .inl h1
  · rename_i hw; rw [if_neg hw] at h1; exact h1
inductive Steps (p : Nat → Prop) : Nat → Prop
  | nil : Steps p 0
  | cons (n : Nat) (h : p n) (t : Steps p n) : Steps p (n + 1)
theorem Steps.each {p : Nat → Prop} : ∀ {n : Nat}, Steps p n → Wk.each p n
  | _, .nil => trivial
  | _, .cons n h t => ⟨t.each, h⟩
/-- the frame: each place by the operation that fills it, or as it was -/
def fillL : List Value → List (Option Nat) → (Nat → Value) → List Value
  | v :: vs, some i :: ss, x => x i :: fillL vs ss x
  | v :: vs, none :: ss, x => v :: fillL vs ss x
  | vs, [], _ => vs
  | [], _, _ => []
def oldX : List Value → List (Option Nat) → Nat → Value
  | v :: vs, some i :: ss, j => if j = i then v else oldX vs ss j
  | _ :: vs, none :: ss, j => oldX vs ss j
  | _, _, _ => undef
theorem wp_lin {P : Program} {ops : Array Oper} {Q : Exit → Act → World → Prop} {id : Nat} {tm : List Value} {df : List Deferred} {w0 : World} (hm : P.follows .mixedOrders = true) (ss : List (Option Nat))
    (R : World → Prop) (Keeps : World → World → Prop) (G : Nat → Value → World → Prop)
    (h0 : fillL tm ss (oldX tm ss) = tm)
    (back : ((List.range ops.size).all fun i => (afters ops i).all fun j => decide (j < i)) = true)
    (n : Nat) (hn : ops.size = n)
    (hR : R w0.drew)
    (mono : ∀ i v w w', G i v w → Keeps w w' → G i v w')
    (step : Steps (Step P ops Q (fun x => { tmps := (fillL tm ss x).toArray, defers := df }) R Keeps G) n)
    (done : ∀ x w, R w → (∀ i, i < n → G i (x i) w) → Q .normal { tmps := (fillL tm ss x).toArray, defers := df } w) : (Code.region id ops true).wp P Q { tmps := tm.toArray, defers := df } w0 := by
  subst hn
  exact wp_region_lin hm (fun x => { tmps := (fillL tm ss x).toArray, defers := df }) (oldX tm ss) (by rw [h0]) R Keeps G back hR mono step.each fun x w hR h => done x w hR (each_all h)
end Go.Wk

/- A drawn region with one operation behind all others: each operation looked at once. No condition. -/
namespace Go.Wk
open Go
theorem wpAny_all {P : Program} {ops : Array Oper} {Q : Exit → Act → World → Prop} (listed : Array Bool) (a : Act) (w : World) (hl : ∀ i, i < ops.size → listed.getD i false = true) (hs : listed.size = ops.size) (hQ : Q .normal a w) : ∀ fuel, wpAny P .any ops Q fuel listed a w := by
  have hr : Region.ready .any ops listed = [] := by
    apply List.eq_nil_iff_forall_not_mem.2
    intro i hi
    obtain ⟨h1, o, ho, _⟩ := mem_ready.1 hi
    have hi' : i < ops.size := (Array.getElem?_eq_some_iff.1 ho).1
    have hil : i < listed.size := by omega
    have h2 := hl i hi'
    simp only [Array.getD_eq_getD_getElem?, Array.getElem?_eq_getElem hil, Option.getD_some] at h1 h2
    rw [h1] at h2; cases h2
  intro fuel
  cases fuel with
  | zero => exact ⟨hr, hQ⟩
  | succ fuel => exact ⟨fun _ => hQ, fun i hi => by rw [hr] at hi; cases hi⟩
theorem wpAny_last {P : Program} {ops : Array Oper} {Q : Exit → Act → World → Prop} (mk : (Nat → Value) → Act) {R : World → Prop} {Keeps : World → World → Prop} {Good : Nat → Value → World → Prop} (last : Nat) (hlast : last < ops.size)
    (back : ((List.range ops.size).all fun i => (afters ops i).all fun j => decide (j < i)) = true)
    (wit : List Nat) (cover : ((List.range ops.size).all fun i => i == last || (afters ops (wit.getD i 0)).contains i) = true)
    (mono : ∀ i v w w', Good i v w → Keeps w w' → Good i v w')
    (step : ∀ i, i < ops.size → i ≠ last → ∀ x w, R w → (∀ j ∈ afters ops i, Good j (x j) w) → wpOp P ops Q i (fun a' w' => ∃ v, a' = mk (upd x i v) ∧ R w' ∧ Keeps w w' ∧ Good i v w') (mk x) w)
    (fin : ∀ x w, R w → (∀ i, i < ops.size → i ≠ last → Good i (x i) w) → wpOp P ops Q last (fun a' w' => Q .normal a' w') (mk x) w) :
    ∀ (fuel : Nat) (listed : Array Bool) (x : Nat → Value) (w : World), listed.toList.count false ≤ fuel → listed.size = ops.size → R w → (∀ i, i < ops.size → listed.getD i false = true → Good i (x i) w) →
      listed.getD last false = false → (∀ i, i < ops.size → listed.getD i false = true → ∀ j ∈ afters ops i, listed.getD j false = true) → wpAny P .any ops Q fuel listed (mk x) w := by
  have gd : ∀ {listed : Array Bool} {i : Nat}, i < listed.size → listed.getD i true = listed.getD i false := fun {listed i} h => by
    simp only [Array.getD_eq_getD_getElem?, Array.getElem?_eq_getElem h, Option.getD_some]
  have ltj : ∀ i j, i < ops.size → j ∈ afters ops i → j < i := fun i j hi hj => of_decide_eq_true (List.all_eq_true.1 (List.all_eq_true.1 back i (List.mem_range.2 hi)) _ hj)
  intro fuel
  induction fuel with
  | zero =>
    intro listed x w hc hs hR hG hl hd
    exfalso
    have hil : last < listed.size := by omega
    have : false ∈ listed.toList := by
      simp only [Array.getD_eq_getD_getElem?, Array.getElem?_eq_getElem hil, Option.getD_some] at hl
      rw [← hl]; simp
    have := List.count_pos_iff.2 this
    omega
  | succ fuel ih =>
    intro listed x w hc hs hR hG hl hd
    refine ⟨fun hr => absurd (all_listed back hs hr last hlast) (by rw [hl]; simp), fun i hi => ?_⟩
    obtain ⟨h1, o, ho, hall⟩ := mem_ready.1 hi
    have hi' : i < ops.size := (Array.getElem?_eq_some_iff.1 ho).1
    have hil : i < listed.size := by omega
    have haft : ∀ j ∈ afters ops i, listed.getD j false = true := by
      intro j hj
      unfold afters at hj; rw [ho] at hj
      obtain ⟨e, he, rfl⟩ := List.mem_map.1 hj
      obtain ⟨he, hb⟩ := List.mem_filter.1 he
      exact hall e (by simpa using he) hb
    by_cases hil2 : i = last
    · subst hil2
      have hothers : ∀ n k, k < ops.size → ops.size ≤ k + n → k ≠ i → listed.getD k false = true := by
        intro n
        induction n with
        | zero => intro k hk hn; omega
        | succ n ihn =>
          intro k hk hn hki
          have hcv := List.all_eq_true.1 cover k (List.mem_range.2 hk)
          rw [Bool.or_eq_true, beq_iff_eq] at hcv
          rcases hcv with hcv | hcv
          · exact absurd hcv hki
          · obtain ⟨j, hjj⟩ : ∃ j, j = wit.getD k 0 := ⟨_, rfl⟩
            rw [← hjj] at hcv
            have hjk := List.contains_iff_mem.1 hcv
            have hj : j < ops.size := by
              rcases Nat.lt_or_ge j ops.size with h | h
              · exact h
              · unfold afters at hjk; rw [Array.getElem?_eq_none h] at hjk; cases hjk
            have hlt := ltj j k hj hjk
            by_cases hji : j = i
            · subst hji; exact haft k hjk
            · exact hd j hj (ihn j hj (by omega) hji) k hjk
      have hG' : ∀ k, k < ops.size → k ≠ i → Good k (x k) w := fun k hk hki => hG k hk (hothers ops.size k hk (by omega) hki)
      refine wpOp_mono ?_ (fin x w hR hG')
      intro a' w' hQ
      refine wpAny_all _ _ _ (fun k hk => ?_) (by simpa using hs) hQ fuel
      rw [getD_set _ _ _ _ hil]
      by_cases hki : k = i
      · rw [if_pos hki]
      · rw [if_neg hki]; exact hothers ops.size k hk (by omega) hki
    · refine wpOp_mono ?_ (step i hi' hil2 x w hR fun j hj => hG j (by have := ltj i j hi' hj; omega) (haft j hj))
      rintro a' w' ⟨v, rfl, hR', hK, hg⟩
      refine ih _ _ _ ?_ (by simpa using hs) hR' ?_ ?_ ?_
      · have hf : listed.toList[i]'(by simpa using hil) = false := by
          simp only [Array.getD_eq_getD_getElem?, Array.getElem?_eq_getElem hil, Option.getD_some] at h1
          simpa using h1
        rw [Array.toList_setIfInBounds, List.count_set (by simpa using hil)]
        have : 0 < listed.toList.count false := List.count_pos_iff.2 (by rw [← hf]; exact List.getElem_mem _)
        simp only [hf, beq_self_eq_true, if_true, Bool.true_beq, Bool.false_eq_true, if_false]
        omega
      · intro j hj hl
        rw [getD_set _ _ _ _ hil] at hl
        unfold upd
        by_cases hji : j = i
        · subst hji; simpa using hg
        · rw [if_neg hji] at hl ⊢
          exact mono _ _ _ _ (hG j hj hl) hK
      · rw [getD_set _ _ _ _ hil, if_neg (fun e => hil2 e.symm)]; exact hl
      · intro k hk hkl j hj
        rw [getD_set _ _ _ _ hil] at hkl ⊢
        by_cases hji : j = i
        · rw [if_pos hji]
        · rw [if_neg hji]
          by_cases hki : k = i
          · subst hki; exact haft j hj
          · rw [if_neg hki] at hkl; exact hd k hk hkl j hj
theorem wp_lin_last {P : Program} {ops : Array Oper} {Q : Exit → Act → World → Prop} {id : Nat} {tm : List Value} {df : List Deferred} {w0 : World} (hm : P.follows .mixedOrders = true) (ss : List (Option Nat))
    (R : World → Prop) (Keeps : World → World → Prop) (G : Nat → Value → World → Prop) (o : Oper)
    (h0 : fillL tm ss (oldX tm ss) = tm)
    (back : ((List.range ops.size).all fun i => (afters ops i).all fun j => decide (j < i)) = true)
    (n : Nat) (hn : ops.size = n + 1) (ho : ops[n]? = some o)
    (hgd : o.guard = none) (wit : List Nat) (cover : ((List.range ops.size).all fun i => i == n || (afters ops (wit.getD i 0)).contains i) = true)
    (hR : R w0.drew)
    (mono : ∀ i v w w', G i v w → Keeps w w' → G i v w')
    (step : Steps (Step P ops Q (fun x => { tmps := (fillL tm ss x).toArray, defers := df }) R Keeps G) n)
    (done : ∀ x w, R w → (∀ i, i < n → G i (x i) w) →
      ∀ fr, fr = fillL tm ss x → Oper.wp P o { tmps := fr.toArray, defers := df } w (fun a' w' => Q .normal a' w') Q) :
    (Code.region id ops true).wp P Q { tmps := tm.toArray, defers := df } w0 := by
  have e0 : ({ tmps := tm.toArray, defers := df } : Act) = (fun x => ({ tmps := (fillL tm ss x).toArray, defers := df } : Act)) (oldX tm ss) := by simp only [h0]
  rw [e0]
  refine wp_region_any hm (wpAny_last (fun x => { tmps := (fillL tm ss x).toArray, defers := df }) n (by omega) back wit cover mono (fun i hi hne => each_all step.each i (by omega)) (fun x w hR hG => ?_) _ _ _ _ ?_ (by simp) hR ?_ ?_ ?_)
  · have h1 := done x w hR (fun i hi => hG i (by omega) (by omega)) _ rfl
    unfold wpOp
    have hw : Region.wanted o (yielded ops (fillL tm ss x).toArray) = true := by simp [Region.wanted, hgd]
    simp only [ho, hw, if_true]
    exact .inl h1
  · simp
  · intro i hi hl
    simp [Array.getD_eq_getD_getElem?, hi] at hl
  · simp [Array.getD_eq_getD_getElem?, hn]
  · intro i hi hl
    simp [Array.getD_eq_getD_getElem?, hi] at hl
end Go.Wk

/- A drawn region: operations in whatever order, each looked at once, and a tail that is forced. No condition. -/
namespace Go.Wk
open Go
section
variable {P : Program} {ops : Array Oper} {Q : Exit → Act → World → Prop}
theorem afters_lt {n : Nat} (back : ((List.range ops.size).all fun i => (afters ops i).all fun j => decide (j < i)) = true) (i j : Nat) (hi : i < ops.size) (hj : j ∈ afters ops i) : j < i :=
  of_decide_eq_true (List.all_eq_true.1 (List.all_eq_true.1 back i (List.mem_range.2 hi)) _ hj)
theorem count_up {listed : Array Bool} {i fuel : Nat} (hil : i < listed.size) (h1 : listed.getD i true = false) (hc : listed.toList.count false ≤ fuel + 1) : (listed.setIfInBounds i true).toList.count false ≤ fuel := by
  have hf : listed.toList[i]'(by simpa using hil) = false := by
    simp only [Array.getD_eq_getD_getElem?, Array.getElem?_eq_getElem hil, Option.getD_some] at h1
    simpa using h1
  rw [Array.toList_setIfInBounds, List.count_set (by simpa using hil)]
  have : 0 < listed.toList.count false := List.count_pos_iff.2 (by rw [← hf]; exact List.getElem_mem _)
  simp only [hf, beq_self_eq_true, if_true, Bool.true_beq, Bool.false_eq_true, if_false]
  omega
theorem count_none {listed : Array Bool} {i : Nat} (hil : i < listed.size) (hl : listed.getD i false = false) (hc : listed.toList.count false ≤ 0) : False := by
  have : false ∈ listed.toList := by
    simp only [Array.getD_eq_getD_getElem?, Array.getElem?_eq_getElem hil, Option.getD_some] at hl
    rw [← hl]; simp
  have := List.count_pos_iff.2 this
  omega
theorem ready_after {listed : Array Bool} {i : Nat} (hi : i ∈ Region.ready .any ops listed) : i < ops.size ∧ listed.getD i true = false ∧ ∀ j ∈ afters ops i, listed.getD j false = true := by
  obtain ⟨h1, o, ho, hall⟩ := mem_ready.1 hi
  refine ⟨(Array.getElem?_eq_some_iff.1 ho).1, h1, fun j hj => ?_⟩
  unfold afters at hj; rw [ho] at hj
  obtain ⟨e, he, rfl⟩ := List.mem_map.1 hj
  obtain ⟨he, hb⟩ := List.mem_filter.1 he
  exact hall e (by simpa using he) hb
theorem wpAny_tail (n : Nat) (back : ((List.range ops.size).all fun i => (afters ops i).all fun j => decide (j < i)) = true)
    (chain : ((List.range ops.size).all fun j => Nat.ble j n || (afters ops j).contains (j - 1)) = true) :
    ∀ (l : List Oper) (k fuel : Nat) (listed : Array Bool) (a : Act) (w : World), n ≤ k → k + l.length = ops.size → (∀ j, l[j]? = ops[k + j]?) → listed.size = ops.size → listed.toList.count false ≤ fuel →
      (∀ i, i < ops.size → (listed.getD i false = true ↔ i < k)) → wpList P ops Q l a w → wpAny P .any ops Q fuel listed a w := by
  intro l
  induction l with
  | nil =>
    intro k fuel listed a w hn hk hl hs hc hL hw
    exact wpAny_all listed a w (fun i hi => (hL i hi).2 (by simp at hk; omega)) hs hw fuel
  | cons o l ih =>
    intro k fuel listed a w hn hk hl hs hc hL hw
    simp only [List.length_cons] at hk
    have hkn : k < ops.size := by omega
    have hkf : listed.getD k false = false := by
      cases h : listed.getD k false with
      | false => rfl
      | true => have := (hL k hkn).1 h; omega
    have ho : ops[k]? = some o := by have := hl 0; simpa using this.symm
    cases fuel with
    | zero => exact (count_none (by omega) hkf hc).elim
    | succ fuel =>
      refine ⟨fun hr => absurd (all_listed back hs hr k hkn) (by rw [hkf]; simp), fun i hi => ?_⟩
      obtain ⟨hi', h1, haft⟩ := ready_after hi
      have hif : listed.getD i false = false := by
        have hil : i < listed.size := by omega
        simp only [Array.getD_eq_getD_getElem?, Array.getElem?_eq_getElem hil, Option.getD_some] at h1 ⊢
        exact h1
      have hik : i = k := by
        have h2 : ¬ i < k := fun h => by rw [(hL i hi').2 h] at hif; cases hif
        rcases Nat.lt_or_ge k i with h3 | h3
        · exfalso
          have hch := List.all_eq_true.1 chain i (List.mem_range.2 hi')
          rw [Bool.or_eq_true] at hch
          rcases hch with hch | hch
          · have := Nat.le_of_ble_eq_true hch; omega
          · have := haft _ (List.contains_iff_mem.1 hch)
            have := (hL (i - 1) (by omega)).1 this
            omega
        · omega
      subst hik
      have hnext : ∀ a' w', wpList P ops Q l a' w' → wpAny P .any ops Q fuel (listed.setIfInBounds i true) a' w' := fun a' w' h =>
        ih (i + 1) fuel _ a' w' (by omega) (by omega) (fun j => by have := hl (j + 1); rw [List.getElem?_cons_succ] at this; rw [this]; congr 1; omega) (by simpa using hs) (count_up (by omega) h1 hc)
          (fun q hq => by
            rw [getD_set _ _ _ _ (by omega)]
            by_cases hqi : q = i
            · subst hqi; simp
            · rw [if_neg hqi, hL q hq]; omega) h
      unfold wpOp
      simp only [ho]
      unfold wpList at hw
      split
      · rename_i hwt
        rw [if_pos hwt] at hw
        rcases hw with hw | hw
        · exact .inl (Oper.wp_mono hnext hw)
        · exact .inr hw
      · rename_i hwt
        rw [if_neg hwt] at hw
        exact hnext _ _ hw
theorem wpAny_free (mk : (Nat → Value) → Act) {R : World → Prop} {Keeps : World → World → Prop} {Good : Nat → Value → World → Prop} (n : Nat) (hn : n < ops.size) (l : List Oper) (hln : n + l.length = ops.size) (hl : ∀ j, l[j]? = ops[n + j]?)
    (back : ((List.range ops.size).all fun i => (afters ops i).all fun j => decide (j < i)) = true)
    (chain : ((List.range ops.size).all fun j => Nat.ble j n || (afters ops j).contains (j - 1)) = true)
    (wit : List Nat) (cover : ((List.range n).all fun i => (afters ops (wit.getD i 0)).contains i && Nat.ble (wit.getD i 0) n) = true)
    (mono : ∀ i v w w', Good i v w → Keeps w w' → Good i v w')
    (step : ∀ i, i < n → ∀ x w, R w → (∀ j ∈ afters ops i, Good j (x j) w) → wpOp P ops Q i (fun a' w' => ∃ v, a' = mk (upd x i v) ∧ R w' ∧ Keeps w w' ∧ Good i v w') (mk x) w)
    (fin : ∀ x w, R w → (∀ i, i < n → Good i (x i) w) → wpList P ops Q l (mk x) w) :
    ∀ (fuel : Nat) (listed : Array Bool) (x : Nat → Value) (w : World), listed.toList.count false ≤ fuel → listed.size = ops.size → R w → (∀ i, i < n → listed.getD i false = true → Good i (x i) w) →
      (∀ i, n ≤ i → i < ops.size → listed.getD i false = false) → (∀ i, i < ops.size → listed.getD i false = true → ∀ j ∈ afters ops i, listed.getD j false = true) → wpAny P .any ops Q fuel listed (mk x) w := by
  intro fuel
  induction fuel with
  | zero =>
    intro listed x w hc hs hR hG hl0 hd
    exact (count_none (i := n) (by omega) (hl0 n (Nat.le_refl _) hn) hc).elim
  | succ fuel ih =>
    intro listed x w hc hs hR hG hl0 hd
    refine ⟨fun hr => absurd (all_listed back hs hr n hn) (by rw [hl0 n (Nat.le_refl _) hn]; simp), fun i hi => ?_⟩
    have hi0 := hi
    obtain ⟨hi', h1, haft⟩ := ready_after hi
    rcases Nat.lt_or_ge i n with hin | hin
    · refine wpOp_mono ?_ (step i hin x w hR fun j hj => hG j (by have := afters_lt (n := 0) back i j hi' hj; omega) (haft j hj))
      rintro a' w' ⟨v, rfl, hR', hK, hg⟩
      refine ih _ _ _ (count_up (by omega) h1 hc) (by simpa using hs) hR' ?_ ?_ ?_
      · intro j hj hlj
        rw [getD_set _ _ _ _ (by omega)] at hlj
        unfold upd
        by_cases hji : j = i
        · subst hji; simpa using hg
        · rw [if_neg hji] at hlj ⊢
          exact mono _ _ _ _ (hG j hj hlj) hK
      · intro j hj hj2
        rw [getD_set _ _ _ _ (by omega), if_neg (by omega)]; exact hl0 j hj hj2
      · intro k hk hkl j hj
        rw [getD_set _ _ _ _ (by omega)] at hkl ⊢
        by_cases hji : j = i
        · rw [if_pos hji]
        · rw [if_neg hji]
          by_cases hki : k = i
          · subst hki; exact haft j hj
          · rw [if_neg hki] at hkl; exact hd k hk hkl j hj
    · have hi2 : i = n := by
        rcases Nat.lt_or_ge n i with h3 | h3
        · exfalso
          have hch := List.all_eq_true.1 chain i (List.mem_range.2 hi')
          rw [Bool.or_eq_true] at hch
          rcases hch with hch | hch
          · have := Nat.le_of_ble_eq_true hch; omega
          · have := haft _ (List.contains_iff_mem.1 hch)
            rw [hl0 (i - 1) (by omega) (by omega)] at this; cases this
        · omega
      subst hi2
      have hothers : ∀ m k, k < i → i ≤ k + m → listed.getD k false = true := by
        intro m
        induction m with
        | zero => intro k hk hm; omega
        | succ m ihm =>
          intro k hk hm
          have hcv := List.all_eq_true.1 cover k (List.mem_range.2 hk)
          rw [Bool.and_eq_true] at hcv
          obtain ⟨j, hjj⟩ : ∃ j, j = wit.getD k 0 := ⟨_, rfl⟩
          rw [← hjj] at hcv
          have hjk := List.contains_iff_mem.1 hcv.1
          have hjn := Nat.le_of_ble_eq_true hcv.2
          have hlt := afters_lt (n := 0) back j k (by omega) hjk
          by_cases hji : j = i
          · subst hji; exact haft k hjk
          · exact hd j (by omega) (ihm j (by omega) (by omega)) k hjk
      have htail := fin x w hR fun k hk => hG k hk (hothers i k hk (by omega))
      have hfin := wpAny_tail (P := P) (Q := Q) i back chain l i (fuel + 1) listed (mk x) w (Nat.le_refl _) hln hl hs hc (fun q hq => ⟨fun h => by
          rcases Nat.lt_or_ge q i with h' | h'
          · exact h'
          · have h2 := hl0 q h' hq; rw [h2] at h; exact absurd h (by simp)
        , fun h => hothers i q h (by omega)⟩) htail
      exact hfin.2 i hi0
end
theorem wp_lin_tail {P : Program} {ops : Array Oper} {Q : Exit → Act → World → Prop} {id : Nat} {tm : List Value} {df : List Deferred} {w0 : World} (hm : P.follows .mixedOrders = true) (ss : List (Option Nat))
    (R : World → Prop) (Keeps : World → World → Prop) (G : Nat → Value → World → Prop)
    (h0 : fillL tm ss (oldX tm ss) = tm)
    (back : ((List.range ops.size).all fun i => (afters ops i).all fun j => decide (j < i)) = true)
    (n : Nat) (l : List Oper) (hdr : ops.toList.drop n = l) (hn : n < ops.size)
    (chain : ((List.range ops.size).all fun j => Nat.ble j n || (afters ops j).contains (j - 1)) = true)
    (wit : List Nat) (cover : ((List.range n).all fun i => (afters ops (wit.getD i 0)).contains i && Nat.ble (wit.getD i 0) n) = true)
    (hR : R w0.drew)
    (mono : ∀ i v w w', G i v w → Keeps w w' → G i v w')
    (step : Steps (Step P ops Q (fun x => { tmps := (fillL tm ss x).toArray, defers := df }) R Keeps G) n)
    (done : ∀ x w, R w → (∀ i, i < n → G i (x i) w) → ∀ fr, fr = fillL tm ss x → wpList P ops Q l { tmps := fr.toArray, defers := df } w) :
    (Code.region id ops true).wp P Q { tmps := tm.toArray, defers := df } w0 := by
  have e0 : ({ tmps := tm.toArray, defers := df } : Act) = (fun x => ({ tmps := (fillL tm ss x).toArray, defers := df } : Act)) (oldX tm ss) := by simp only [h0]
  rw [e0]
  refine wp_region_any hm (wpAny_free (fun x => { tmps := (fillL tm ss x).toArray, defers := df }) n hn l (by rw [← hdr]; simp; omega) (fun j => by rw [← hdr, List.getElem?_drop]; simp) back chain wit cover mono (fun i hi => each_all step.each i hi) (fun x w hR hG => done x w hR hG _ rfl) _ _ _ _ ?_ (by simp) hR ?_ ?_ ?_)
  · simp
  · intro i hi hl
    have : i < ops.size := by omega
    simp [Array.getD_eq_getD_getElem?, this] at hl
  · intro i hi hi2
    simp [Array.getD_eq_getD_getElem?, hi2]
  · intro i hi hl
    simp [Array.getD_eq_getD_getElem?, hi] at hl
end Go.Wk

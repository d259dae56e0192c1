/- Walks and laws, joined: part B. No condition. -/
import Derived.Test.YtgomlebemefdcaaDoorXsJA
import Derived.Lib.Builder
import Derived.Lib.AppendStr
import Derived.Lib.UnsafeStr
import Derived.Laws.Externs
import Derived.RegionTactic
import Derived.BigRegion
import Derived.Maps.AppendAt
set_option linter.unusedSimpArgs false
set_option linter.unusedVariables false
/- The reader reads a name. No condition. -/
namespace Go.Proofs.YtgomlebemefdcaaDoor
open Go Go.RowKit Go.Wk Go.Xt Go.Xe
theorem tw_at (f : UInt8 → Bool) : ∀ (r : List UInt8) (k : Nat), k < (r.takeWhile f).length → ∃ x r', r.drop k = x :: r' ∧ f x = true := by
  intro r
  induction r with
  | nil => intro k h; simp at h
  | cons x r ih =>
    intro k h
    rw [List.takeWhile_cons] at h
    cases hx : f x with
    | false => rw [hx] at h; simp at h
    | true =>
      rw [hx] at h
      cases k with
      | zero => exact ⟨x, r, rfl, hx⟩
      | succ k => exact ih k (by simp at h; omega)
theorem tw_end (f : UInt8 → Bool) : ∀ r : List UInt8, r.drop (r.takeWhile f).length = [] ∨ ∃ x r', r.drop (r.takeWhile f).length = x :: r' ∧ f x = false := by
  intro r
  induction r with
  | nil => left; simp
  | cons x r ih =>
    rw [List.takeWhile_cons]
    cases hx : f x with
    | false => right; exact ⟨x, r, by simp, hx⟩
    | true => simpa using ih
theorem name_tw {r nm : List UInt8} (h : nameS r = nm) (hne : nm ≠ []) : nm = r.takeWhile goesB ∧ ∃ x r', r = x :: r' ∧ beginsB x = true := by
  unfold nameS at h
  cases r with
  | nil => exact absurd h.symm hne
  | cons x r =>
    simp only at h
    cases hb : beginsB x with
    | false => rw [hb] at h; exact absurd h.symm (by simpa using hne)
    | true => rw [hb] at h; exact ⟨by simpa using h.symm, x, r, rfl, hb⟩
set_option maxHeartbeats 2000000 in
set_option maxRecDepth 100000 in
theorem xml_one {w : World} {L R c p many : Nat} {A : Option Addr} {bs r nm : List UInt8} (h : RS w L R A c bs p many) (hr : Rest bs p r) (hn : nameS r = nm) (hne : nm ≠ []) :
    Calls Tryd.prog 64 #[.pointer (some ⟨R, 0, none⟩)] w fun e w' => e = .returned (.tuple #[str nm, .int .i64 0]) ∧ End w L R A c bs many (r.drop nm.length) w' := by
  obtain ⟨htw, x0, rr, hx0, hb0⟩ := name_tw hn hne
  have hpos : 0 < nm.length := List.length_pos_iff.2 hne
  have hpre : nm <+: r := by rw [htw]; exact List.takeWhile_prefix _
  have hlen := hr.len
  have hle := hpre.length_le
  have hsm := h.cur.small
  have hat : Hid (∀ k, k < nm.length → ∃ x r', bs.drop (p + k) = x :: r' ∧ goesB x = true) := Lib.hid fun k hk => by
    obtain ⟨x, r', h1, h2⟩ := tw_at goesB r k (by rw [← htw]; exact hk)
    exact ⟨x, r', by rw [← List.drop_drop, hr.eq]; exact h1, h2⟩
  have hend : Hid (goesI (peekS bs (p + nm.length)) = false) := Lib.hid (by
    have := tw_end goesB r
    rw [← htw] at this
    rcases this with h0 | ⟨x, r', h1, h2⟩
    · rw [peek_nil (by rw [← List.drop_drop, hr.eq]; exact h0)]; decide
    · rw [peek_cons (by rw [← List.drop_drop, hr.eq]; exact h1), goes_u8, h2])
  have hrest : Hid (Rest bs (p + nm.length) (r.drop nm.length)) := Lib.hid ⟨by rw [← List.drop_drop, hr.eq], by omega⟩
  have htake : Hid (takeS bs p nm.length = nm ∧ takeB bs p nm.length = true) := Lib.hid (by
    have hok : p + nm.length ≤ bs.length := by omega
    unfold takeS takeB
    rw [if_pos hok, hr.eq]
    exact ⟨(List.prefix_iff_eq_take.1 hpre).symm, by simp [hok]⟩)
  have hp0 : bs.drop p = x0 :: rr := by rw [hr.eq, hx0]
  have cp0 := rs_peek h
  rw [peek_cons hp0] at cp0
  have cb := fun (w : World) => xml_begins (w := w) (x0.toNat : Int)
  rw [begins_u8, hb0] at cb
  generalize (x0.toNat : Int) = X0 at *
  have c0 := h.rdr.cell 0
  obtain ⟨n, hnn⟩ : ∃ n, n = nm.length := ⟨_, rfl⟩
  rw [← hnn] at hat hend hrest htake hpos hle
  replace hnn := Lib.hid hnn
  replace h := Lib.hid h
  have hn5 : n ≤ 100000 := by omega
  replace hlen := Lib.hid hlen
  replace hle := Lib.hid hle
  clear hp0 hx0 hpre htw hn hb0
  have cps : ∀ w : World, Calls Tryd.prog 41 #[.bool true] w fun e w' => e = .returned (.int .i64 0) ∧ w' = w := fun w => (xml_passed (w := w) true).mono fun e w' k => ⟨k.1, k.2.symm⟩
  go_enter Tryd.func64, Tryd.ntmps64
  go_wp2_with (first
    | (go_at_call 58; (with_reducible refine cp0.mono ?_); rintro e w1 ⟨rfl, h1, f1⟩; replace f1 := Lib.hid f1; replace h1 := Lib.hid h1)
    | (go_at_call 73; (with_reducible refine (cb _).mono ?_); rintro e w2 ⟨rfl, rfl⟩))
  clear cp0 cb c0
  go_loopw [4] (fun s wr => ∃ k : Nat, k ≤ n ∧ s = .int .i64 k ∧ RS wr L R A c bs p many ∧ Fr L R w wr) (fun s _ => n + 1 - (RowKit.intOf s).toNat)
  case atStart => exact ⟨0, Nat.zero_le _, rfl, h1.out, f1.out⟩
  case round =>
    obtain ⟨k, hk, rfl, hS, hF⟩ := hrel
    have c0 := hS.rdr.cell 0
    have cp := rs_peekN k (by omega) hS
    by_cases hlt : k < n
    · obtain ⟨x, r', hx, hg⟩ := hat.out k hlt
      rw [peek_cons hx] at cp
      have cg := fun (w : World) => xml_goes (w := w) (x.toNat : Int)
      rw [goes_u8, hg] at cg
      generalize (x.toNat : Int) = X at *
      replace hF := Lib.hid hF
      replace hS := Lib.hid hS
      clear hx hg
      go_wp2_with (first
        | (go_at_call 58; (with_reducible refine cp.mono ?_); rintro e w2 ⟨rfl, h2, f2⟩; replace f2 := Lib.hid f2; replace h2 := Lib.hid h2)
        | (go_at_call 74; (with_reducible refine (cg _).mono ?_); rintro e w3 ⟨rfl, rfl⟩))
      go_roundw
      case rel => exact ⟨k + 1, by omega, by go_num, h2.out, hF.out.trans f2.out⟩
      case measure => simp [RowKit.intOf]; omega
    · obtain rfl : k = n := by omega
      have cg := fun (w : World) => xml_goes (w := w) (peekS bs (p + k))
      rw [hend.out] at cg
      generalize peekS bs (p + k) = X at *
      replace hF := Lib.hid hF
      replace hS := Lib.hid hS
      go_wp2_with (first
        | (go_at_call 58; (with_reducible refine cp.mono ?_); rintro e w2 ⟨rfl, h2, f2⟩; have c2 := h2.rdr.cell 0; have ct := cur_take k h2.cur h2.cap hpos hn5; replace f2 := Lib.hid f2; replace h2 := Lib.hid h2)
        | (go_at_call 74; (with_reducible refine (cg _).mono ?_); rintro e w3 ⟨rfl, rfl⟩)
        | (go_at_call 26; (with_reducible refine ct.mono ?_); rintro e w4 ⟨A4, c4, rfl, hby, hc4⟩; rw [htake.out.1, htake.out.2] at *; have hcv := fun n => conv_byt (c := c4) (hby.below (below_drawn w4 n)); have e4 := h2.out.cur_to hc4; simp only [if_true] at e4; replace e4 := Lib.hid e4; replace hby := Lib.hid hby; clear hc4))
      go_quiet ((go_at_call 41; exact Calls.quiet_of_same (cps _)))
      go_wp2
      go_ret2
      have hz := hrest.out
      have e5 := e4.out.1.below (below_drawn w4 nq)
      rw [hnn.out] at hz e5
      exact ⟨rfl, ⟨_, e5, hz⟩, ((hF.out.trans f2.out).trans e4.out.2).trans (Fr.of_below (below_drawn w4 nq))⟩
end Go.Proofs.YtgomlebemefdcaaDoor

/- The builder's writes, at this program's numbers. No condition. -/
namespace Go.Proofs.YtgomlebemefdcaaDoor
open Go Go.RowKit Go.Wk Go.Xt Go.Xe Go.Lib
set_option maxRecDepth 100000 in
theorem byte_info : ∃ i, Tryd.prog.info? 5 = some i ∧ i.zero = some (.int .u8 0) ∧ i.size = 1 ∧ i.bytes = 1 := ⟨_, rfl, by kernel_rfl, by kernel_rfl, by kernel_rfl⟩
set_option maxRecDepth 100000 in
theorem bld_info : ∃ i, Tryd.prog.info? 52 = some i ∧ i.size = 2 := ⟨_, rfl, by kernel_rfl⟩
set_option maxHeartbeats 1000000 in
set_option maxRecDepth 100000 in
theorem bld_check_used (b : Nat) (w : World) (h0 : w.cell? ⟨b, 0, none⟩ = some (.pointer (some ⟨b, 0, none⟩))) :
    Calls Tryd.prog 29 #[.pointer (some ⟨b, 0, none⟩)] w fun e w' => e = .returned (.tuple #[]) ∧ w' = w := by
  obtain ⟨j, hj, _⟩ := bld_info
  go_enter Tryd.func29, Tryd.ntmps29
  go_wp2
  rw [Lib.run_neq_ptr_same w _ Tryd.underlying50 hj]
  go_wp2
  go_end0
  exact ⟨rfl, rfl⟩
set_option maxHeartbeats 1000000 in
set_option maxRecDepth 100000 in
theorem bld_check_fresh (b : Nat) (w : World) (h0 : w.cell? ⟨b, 0, none⟩ = some (.pointer none)) (hsh : w.shape? b = some (52, 2)) (hfz : w.frozen? ⟨b, 0, none⟩ = false) :
    Calls Tryd.prog 29 #[.pointer (some ⟨b, 0, none⟩)] w fun e w' => e = .returned (.tuple #[]) ∧ w' = w.setCell ⟨b, 0, none⟩ (.pointer (some ⟨b, 0, none⟩)) := by
  obtain ⟨j, hj, hjs⟩ := bld_info
  go_enter Tryd.func29, Tryd.ntmps29
  go_wp2
  rw [Lib.run_to_unsafe w ⟨b, 0, none⟩ Tryd.underlying50 Tryd.underlying87 hj (by rw [hjs]; decide) hsh (Nat.zero_lt_succ 1)]
  simp only [Result.andThen]
  rw [Oper.upon_value]
  go_wp2
  rw [run_callFunc_extern Tryd.func42 (by kernel_rfl) (by kernel_rfl) (by kernel_rfl) (e := Extern.AbiNoEscape.same) (by kernel_rfl)]
  rw [Lib.run_noEscape]
  simp only [Result.andThen]
  rw [Oper.upon_value]
  go_wp2
  rw [Lib.run_from_unsafe w ⟨b, 0, none⟩ Tryd.underlying87 Tryd.underlying50 hj hsh (by kernel_rfl)]
  simp only [Result.andThen]
  rw [Oper.upon_value]
  go_wp2
  go_end0
  exact ⟨rfl, rfl⟩
theorem bld_check (B b : Nat) (bs : List Value) (w : World) (h : Lib.IsBuilder 52 5 B b bs w) :
    Calls Tryd.prog 29 #[.pointer (some ⟨b, 0, none⟩)] w fun e w' => e = .returned (.tuple #[]) ∧ (Lib.BuilderAt 52 5 B b (.pointer (some ⟨b, 0, none⟩)) bs w' ∧ Below B w w') := by
  rcases h with h | h
  · refine (bld_check_fresh b w h.cell0 h.shape h.frozen0).mono ?_
    rintro e w' ⟨rfl, rfl⟩
    exact ⟨rfl, h.used _, (Below.refl B w).setCell (p := ⟨b, 0, none⟩) h.1 _⟩
  · refine (bld_check_used b w h.cell0).mono ?_
    rintro e w' ⟨rfl, rfl⟩
    exact ⟨rfl, h, Below.refl B _⟩
set_option maxHeartbeats 2000000 in
set_option maxRecDepth 100000 in
theorem bld_byte (B b : Nat) (bs : List Value) (c : Int) (w : World) (h : Lib.IsBuilder 52 5 B b bs w) (hlen : bs.length + 1 ≤ 140737488355328) (hBw : B ≤ w.heap.size) :
    Calls Tryd.prog 71 #[.pointer (some ⟨b, 0, none⟩), .int .u8 c] w fun e w' => e = .returned .nilIface ∧ (Lib.IsBuilder 52 5 B b (bs ++ [.int .u8 c]) w' ∧ Below B w w') := by
  obtain ⟨i0, hi, hz0, hz1, hz2⟩ := byte_info
  go_enter Tryd.func71, Tryd.ntmps71
  go_wp2_with (go_at_call 29; refine (bld_check B b bs _ h).mono ?_)
  rintro e w1 ⟨rfl, h1, hb1⟩
  obtain ⟨hB, v, hbk, hown, hne⟩ := h1
  have c0 : w1.cell? ⟨b, 0, none⟩ = some (.pointer (some ⟨b, 0, none⟩)) := by rw [Lib.cell_of_heap hbk]; rfl
  have c1 : w1.cell? ⟨b, 1, none⟩ = some v := by rw [Lib.cell_of_heap hbk]; rfl
  go_wp2_with (at_builtin; refine wpList_append_own _ rfl _ _ 22 rfl B 5 i0 (.int .u8 0) 1 1 Tryd.underlying22 hi hz0 hz1 hz2 rfl (by decide) _ _ _ rfl (hown.alloc _) ⟨w1.heap.size, 0, none⟩ 1 1 [.int .u8 c] rfl rfl ?c1 ?c2 ?c3 ?c4 ?c5 ?_)
  case c1 =>
    intro j u hj
    match j, hj with
    | 0, hj => simp at hj; subst hj; simp [Addr.add]
  case c2 => intro u hu; simp at hu; subst hu; rfl
  case c3 => unfold maxLen; omega
  case c4 => omega
  case c5 => have := hb1.size; simp; omega
  intro v' w2 hown' hgrow _
  have hlt : b < w1.heap.size := by
    rcases Nat.lt_or_ge b w1.heap.size with h' | h'
    · exact h'
    · simp [Array.getElem?_eq_none h'] at hbk
  have hb2 : w2.heap[b]? = some (.cells #[.pointer (some ⟨b, 0, none⟩), v] 52 (0, 0)) := by
    rw [hgrow.block b (by simp; omega) (fun e => hne e.symm), Lib.alloc_old w1 _ b hlt]
    exact hbk
  have d0 : w2.cell? ⟨b, 0, none⟩ = some (.pointer (some ⟨b, 0, none⟩)) := by rw [Lib.cell_of_heap hb2]; rfl
  have d1 : w2.cell? ⟨b, 1, none⟩ = some v := by rw [Lib.cell_of_heap hb2]; rfl
  have f1 : w2.frozen? ⟨b, 1, none⟩ = false := Lib.frozen_of_heap hb2 1
  obtain ⟨g, cap, rfl⟩ : ∃ g cap, v' = .slice (some ⟨g, 0, none⟩) (bs.length + 1) cap := by
    rcases hown'.2 with ⟨_, h0⟩ | ⟨g, cap, cur, hv, _⟩
    · omega
    · exact ⟨g, cap, hv⟩
  go_wp2
  go_ret
  refine ⟨rfl, .inr ?_, ?_⟩
  · exact Lib.BuilderAt.put (T := 52) (e := 5) hB hb2 (bs' := bs ++ [.int .u8 c]) (by simpa using hown') (by decide)
  · exact ((hb1.alloc (by have := hb1.size; omega) _).grown hgrow (by have := hb1.size; simp; omega) (fun k hk => (hown.lt k hk).1)).setCell (p := ⟨b, 1, none⟩) hB _
set_option maxHeartbeats 2000000 in
set_option maxRecDepth 100000 in
theorem bld_str (B b : Nat) (bs : List Value) (s : ByteArray) (w : World) (h : Lib.IsBuilder 52 5 B b bs w) (hlen : bs.length + s.size ≤ 140737488355328) (hBw : B ≤ w.heap.size) :
    Calls Tryd.prog 18 #[.pointer (some ⟨b, 0, none⟩), .string s] w fun e w' => e = .returned (.tuple #[.int .i64 s.size, .nilIface]) ∧ (Lib.IsBuilder 52 5 B b (bs ++ Lib.strCells s) w' ∧ Below B w w') := by
  obtain ⟨i0, hi, hz0, hz1, hz2⟩ := byte_info
  go_enter Tryd.func18, Tryd.ntmps18
  go_wp2_with (go_at_call 29; refine (bld_check B b bs _ h).mono ?_)
  rintro e w1 ⟨rfl, h1, hb1⟩
  obtain ⟨hB, v, hbk, hown, hne⟩ := h1
  have c0 : w1.cell? ⟨b, 0, none⟩ = some (.pointer (some ⟨b, 0, none⟩)) := by rw [Lib.cell_of_heap hbk]; rfl
  have c1 : w1.cell? ⟨b, 1, none⟩ = some v := by rw [Lib.cell_of_heap hbk]; rfl
  go_wp2_with (at_builtin; refine Lib.wpList_append_own_string _ rfl _ _ 22 9 rfl B 5 i0 Tryd.underlying22 Tryd.underlying9 hi hz0 hz1 hz2 _ _ _ rfl hown s rfl ?c3 ?c4 ?c5 ?_)
  case c3 => unfold maxLen; omega
  case c4 => omega
  case c5 => have := hb1.size; omega
  intro v' w2 hown' hgrow _
  have hlt : b < w1.heap.size := by
    rcases Nat.lt_or_ge b w1.heap.size with h' | h'
    · exact h'
    · simp [Array.getElem?_eq_none h'] at hbk
  have hb2 : w2.heap[b]? = some (.cells #[.pointer (some ⟨b, 0, none⟩), v] 52 (0, 0)) := by
    rw [hgrow.block b hlt (fun e => hne e.symm)]
    exact hbk
  have d0 : w2.cell? ⟨b, 0, none⟩ = some (.pointer (some ⟨b, 0, none⟩)) := by rw [Lib.cell_of_heap hb2]; rfl
  have d1 : w2.cell? ⟨b, 1, none⟩ = some v := by rw [Lib.cell_of_heap hb2]; rfl
  have f1 : w2.frozen? ⟨b, 1, none⟩ = false := Lib.frozen_of_heap hb2 1
  obtain ⟨ao, n', cap, rfl⟩ : ∃ ao n' cap, v' = .slice ao n' cap := by
    rcases hown'.2 with ⟨hv, _⟩ | ⟨g, cap, cur, hv, _⟩
    · exact ⟨_, _, _, hv⟩
    · exact ⟨_, _, _, hv⟩
  go_wp2
  go_ret2
  refine ⟨rfl, .inr ?_, ?_⟩
  · exact Lib.BuilderAt.put (T := 52) (e := 5) hB hb2 (bs' := bs ++ Lib.strCells s) (by simpa [Lib.strCells_length] using hown') (by decide)
  · exact (hb1.grown hgrow (by have := hb1.size; omega) (fun k hk => (hown.lt k hk).1)).setCell (p := ⟨b, 1, none⟩) hB _
theorem own_fr {w w' : World} {L R B e s n : Nat} {v : Value} {xs : List Value} (h : w.ownsRow B e s v n xs) (f : Fr L R w w') (hL : L < B) (hR : R < B) : w'.ownsRow B e s v n xs := by
  refine ⟨h.1, ?_⟩
  rcases h.2 with h2 | ⟨g, cap, cur, rfl, hB, hh, rest⟩
  · exact .inl h2
  · exact .inr ⟨g, cap, cur, rfl, hB, (f.block g (Array.getElem?_eq_some_iff.1 hh).1 (by omega) (by omega)).trans hh, rest⟩
theorem bld_fr {w w' : World} {L R B b : Nat} {bs : List Value} (h : Lib.IsBuilder 52 5 B b bs w) (f : Fr L R w w') (hL : L < B) (hR : R < B) : Lib.IsBuilder 52 5 B b bs w' := by
  have key : ∀ p, Lib.BuilderAt 52 5 B b p bs w → Lib.BuilderAt 52 5 B b p bs w' := by
    rintro p ⟨hB, v, hb, hown, hne⟩
    exact ⟨hB, v, (f.block b (Array.getElem?_eq_some_iff.1 hb).1 (by omega) (by omega)).trans hb, own_fr hown f hL hR, hne⟩
  rcases h with h | h
  · exact .inl (key _ h)
  · exact .inr (key _ h)
theorem bld_new (w : World) : Lib.IsBuilder 52 5 w.heap.size w.heap.size [] (w.alloc (.cells #[.pointer none, .slice none 0 0] 52)) :=
  .inl ⟨Nat.le_refl _, .slice none 0 0, Blk.new w 52 _, World.ownsRow_nil _ _ _ _, by simp [Value.ownBlock]⟩
end Go.Proofs.YtgomlebemefdcaaDoor

/- The reader reads a full name that has no prefix. No condition. -/
namespace Go.Proofs.YtgomlebemefdcaaDoor
open Go Go.RowKit Go.Wk Go.Xt Go.Xe
set_option maxHeartbeats 2000000 in
set_option maxRecDepth 100000 in
theorem xml_full {w : World} {L R c p many : Nat} {A : Option Addr} {bs r nm : List UInt8} (h : RS w L R A c bs p many) (hr : Rest bs p r) (hn : nameS r = nm) (hne : nm ≠ []) (hno : ¬ [58] <+: r.drop nm.length) :
    Calls Tryd.prog 53 #[.pointer (some ⟨R, 0, none⟩)] w fun e w' => e = .returned (.tuple #[.string ⟨#[]⟩, str nm, .int .i64 0]) ∧ End w L R A c bs many (r.drop nm.length) w' := by
  have c1 := xml_one h hr hn hne
  have m1 : ∀ w1 q, RS w1 L R A c bs q many → Rest bs q (r.drop nm.length) → Calls Tryd.prog 54 #[.pointer (some ⟨L, 0, none⟩), .string ⟨#[58]⟩] w1 fun e w' => e = .returned (.bool false) ∧ RS w' L R A c bs q many ∧ Fr L R w1 w' := fun w1 q h1 hq => rs_no h1 ⟨#[58]⟩ (by decide) (by decide) (by rw [hq.eq]; exact hno)
  replace m1 := Lib.hid m1
  clear hn hne hno h hr
  generalize r.drop nm.length = r1 at *
  go_enter Tryd.func53, Tryd.ntmps53
  go_wp2_with (first
    | (go_at_call 64; (with_reducible refine c1.mono ?_); rintro e w1 ⟨rfl, ⟨⟨q, h1, hq⟩, f1⟩⟩; have k1 := m1.out w1 q h1 hq; have c0 := h1.rdr.cell 0; replace f1 := Lib.hid f1; replace h1 := Lib.hid h1; replace hq := Lib.hid hq)
    | (go_at_call 54; (with_reducible refine k1.mono ?_); rintro e w2 ⟨rfl, h2, f2⟩; replace f2 := Lib.hid f2; replace h2 := Lib.hid h2))
  go_ret3
  exact ⟨rfl, ⟨_, h2.out, hq.out⟩, f1.out.trans f2.out⟩
end Go.Proofs.YtgomlebemefdcaaDoor

/- The reader reads what stands behind an &. No condition. -/
namespace Go.Proofs.YtgomlebemefdcaaDoor
open Go Go.RowKit Go.Wk Go.Xt Go.Xe
theorem ent_len {r s r' : List UInt8} (h : Ent r s r') : r'.length < r.length := by
  cases h <;> (simp; omega)
theorem ent_out {r s r' : List UInt8} (h : Ent r s r') : s.length = 1 := by
  cases h <;> rfl
set_option maxHeartbeats 1000000 in
theorem digit_at {w : World} (x y : Int) (h : (x = 49 ∧ y = 1) ∨ (x = 51 ∧ y = 3) ∨ (x = 59 ∧ y = -1)) : Calls Tryd.prog 80 #[.int .i64 x] w fun e w' => e = .returned (.int .i64 y) ∧ w = w' := by
  rcases h with ⟨rfl, rfl⟩ | ⟨rfl, rfl⟩ | ⟨rfl, rfl⟩
  all_goals
    go_enter Tryd.func80, Tryd.ntmps80
    go_wp2
    go_ret
    exact ⟨rfl, rfl⟩
def vN : Nat → Int | 0 => 0 | 1 => 1 | _ => 13
def dN : Nat → Int | 0 => 1 | 1 => 3 | _ => -1
def cN : Nat → Int | 0 => 49 | 1 => 51 | _ => 59
set_option maxHeartbeats 2000000 in
set_option maxRecDepth 100000 in
theorem xml_num13 {w : World} {L R c p many : Nat} {A : Option Addr} {bs r' : List UInt8} (h : RS w L R A c bs p many) (hr : Rest bs p ([49, 51, 59] ++ r')) :
    Calls Tryd.prog 78 #[.pointer (some ⟨R, 0, none⟩)] w fun e w' => e = .returned (.tuple #[.int .i32 13, .int .i64 0]) ∧ End w L R A c bs many r' w' := by
  have c0 := h.rdr.cell 0
  have n1 := rs_no h ⟨#[120]⟩ (by decide) (by decide) (by rw [hr.eq]; simp [List.cons_prefix_cons])
  have hp1 : Rest bs (p + 1) (51 :: 59 :: r') := hr.app (s := [49])
  have hp2 : Rest bs (p + 2) (59 :: r') := hr.app (s := [49, 51])
  have hp3 : Rest bs (p + 3) r' := hr.app (s := [49, 51, 59])
  have hpk : ∀ k, k ≤ 2 → peekS bs (p + k) = cN k ∧ p + k < bs.length := fun k hk => by
    match k, hk with
    | 0, _ => exact ⟨peek_cons hr.eq, (drop_one hr.eq).2⟩
    | 1, _ => exact ⟨peek_cons hp1.eq, (drop_one hp1.eq).2⟩
    | 2, _ => exact ⟨peek_cons hp2.eq, (drop_one hp2.eq).2⟩
  have pk : ∀ W k, k ≤ 2 → RS W L R A c bs (p + k) many → Calls Tryd.prog 58 #[.pointer (some ⟨L, 0, none⟩), .int .i64 0] W fun e w' => e = .returned (.int .i64 (cN k)) ∧ RS w' L R A c bs (p + k) many ∧ Fr L R W w' := fun W k hk hW => by
    have := rs_peek hW
    rw [(hpk k hk).1] at this
    exact this
  have nx : ∀ W k, k ≤ 2 → RS W L R A c bs (p + k) many → Calls Tryd.prog 59 #[.pointer (some ⟨L, 0, none⟩)] W fun e w' => e = .returned (.int .i64 (cN k)) ∧ RS w' L R A c bs (p + (k + 1)) many ∧ Fr L R W w' := fun W k hk hW => by
    have := rs_next hW
    rw [(hpk k hk).1, if_pos (hpk k hk).2] at this
    exact this
  have dg : ∀ (W : World) (k : Nat), k ≤ 2 → Calls Tryd.prog 80 #[.int .i64 (cN k)] W fun e w' => e = .returned (.int .i64 (dN k)) ∧ W = w' := fun W k hk => by
    match k, hk with
    | 0, _ => exact digit_at _ _ (.inl ⟨rfl, rfl⟩)
    | 1, _ => exact digit_at _ _ (.inr (.inl ⟨rfl, rfl⟩))
    | 2, _ => exact digit_at _ _ (.inr (.inr ⟨rfl, rfl⟩))
  have ms : ∀ W, RS W L R A c bs (p + 2) many → Calls Tryd.prog 54 #[.pointer (some ⟨L, 0, none⟩), .string ⟨#[59]⟩] W fun e w' => e = .returned (.bool true) ∧ RS w' L R A c bs (p + 2 + 1) many ∧ Fr L R W w' := fun W hW => rs_yes hW ⟨#[59]⟩ r' (by decide) (by decide) hp2.eq
  have sg := fun (w : World) => xml_sign (w := w) (13 : Int)
  rw [show signV 13 = true by decide] at sg
  have cps := fun (w : World) => xml_passed (w := w) true
  simp only [if_true] at cps
  replace pk := Lib.hid pk
  replace nx := Lib.hid nx
  replace dg := Lib.hid dg
  replace ms := Lib.hid ms
  replace hp3 := Lib.hid hp3
  replace h := Lib.hid h
  clear hpk hp1 hp2 hr
  go_enter Tryd.func78, Tryd.ntmps78
  go_wp2_with (first
    | (go_at_call 54; (with_reducible refine n1.mono ?_); rintro e w1 ⟨rfl, h1, f1⟩; have k2 := pk.out w1 0 (by omega) h1; have c1 := h1.rdr.cell 0; replace f1 := Lib.hid f1; replace h1 := Lib.hid h1)
    | (go_at_call 58; (with_reducible refine k2.mono ?_); rintro e w2 ⟨rfl, h2, f2⟩; have k3 := dg.out w2 0 (by omega); replace f2 := Lib.hid f2; replace h2 := Lib.hid h2)
    | (go_at_call 80; (with_reducible refine k3.mono ?_); rintro e w3 ⟨rfl, rfl⟩))
  go_loopw [5, 6, 7] (fun s5 s6 s7 wr => ∃ k : Nat, k ≤ 2 ∧ s5 = .int .i64 (vN k) ∧ s6 = .int .i64 k ∧ s7 = .int .i64 (dN k) ∧ RS wr L R A c bs (p + k) many ∧ Fr L R w wr) (fun _ s6 _ _ => 3 - (RowKit.intOf s6).toNat)
  case atStart => exact ⟨0, by omega, rfl, rfl, rfl, h2.out, f1.out.trans f2.out⟩
  case round =>
    obtain ⟨k, hk, rfl, rfl, rfl, hS, hF⟩ := hrel
    have c4 := hS.rdr.cell 0
    by_cases hk2 : k < 2
    · have q1 := nx.out _ k hk hS
      have q2 := fun W hW => pk.out W (k + 1) (by omega) hW
      have q3 := fun W => dg.out W (k + 1) (by omega)
      replace q2 := Lib.hid q2
      replace q3 := Lib.hid q3
      have hkk : k = 0 ∨ k = 1 := by omega
      have hv : vN (k + 1) = vN k * 10 + dN k ∧ 0 ≤ dN k ∧ dN k < 10 ∧ 0 ≤ vN k ∧ vN k < 10 := by rcases hkk with rfl | rfl <;> decide
      obtain ⟨hv1, hv2, hv3, hv4, hv5⟩ := hv
      generalize vN k = V at *
      generalize dN k = D at *
      generalize cN k = C at *
      generalize cN (k + 1) = C1 at *
      replace hS := Lib.hid hS
      replace hF := Lib.hid hF
      replace hv1 := Lib.hid hv1
      go_wp2_with (first
        | (go_at_call 59; (with_reducible refine q1.mono ?_); rintro e w4 ⟨rfl, h4, f4⟩; have k5 := q2.out w4 h4; have c5 := h4.rdr.cell 0; replace f4 := Lib.hid f4; replace h4 := Lib.hid h4)
        | (go_at_call 58; (with_reducible refine k5.mono ?_); rintro e w5 ⟨rfl, h5, f5⟩; have k6 := q3.out w5; replace f5 := Lib.hid f5; replace h5 := Lib.hid h5)
        | (go_at_call 80; (with_reducible refine k6.mono ?_); rintro e w6 ⟨rfl, rfl⟩))
      go_roundw
      case rel => exact ⟨k + 1, by omega, congrArg (Value.int .i64) hv1.out.symm, by go_num, rfl, h5.out, (hF.out.trans f4.out).trans f5.out⟩
      case measure => simp [RowKit.intOf]; omega
    · obtain rfl : k = 2 := by omega
      have q1 := ms.out _ hS
      have e1 : vN 2 = 13 := rfl
      have e2 : dN 2 = -1 := rfl
      simp only [e1, e2]
      clear e1 e2
      replace hS := Lib.hid hS
      replace hF := Lib.hid hF
      go_wp2_with (first
        | (go_at_call 43; (with_reducible refine (sg _).mono ?_); rintro e w4 ⟨rfl, rfl⟩)
        | (go_at_call 54; (with_reducible refine q1.mono ?_); rintro e w5 ⟨rfl, h5, f5⟩; replace f5 := Lib.hid f5; replace h5 := Lib.hid h5)
        | (go_at_call 41; (with_reducible refine (cps _).mono ?_); rintro e w6 ⟨rfl, rfl⟩))
      go_ret2
      exact ⟨rfl, ⟨_, h5.out, hp3.out⟩, hF.out.trans f5.out⟩
set_option maxHeartbeats 2000000 in
set_option maxRecDepth 100000 in
theorem xml_entity {w : World} {L R c p many : Nat} {A : Option Addr} {bs r s r' : List UInt8} (h : RS w L R A c bs p many) (hr : Rest bs p r) (hE : Ent r s r') :
    Calls Tryd.prog 72 #[.pointer (some ⟨R, 0, none⟩)] w fun e w' => e = .returned (.tuple #[str s, .int .i64 0]) ∧ End w L R A c bs many r' w' := by
  have c0 := h.rdr.cell 0
  cases hE
  case lt =>
    have y : ∀ W, RS W L R A c bs p many → Calls Tryd.prog 54 #[.pointer (some ⟨L, 0, none⟩), .string ⟨#[108, 116, 59]⟩] W fun e w' => e = .returned (.bool true) ∧ RS w' L R A c bs (p + 3) many ∧ Fr L R W w' := fun W hW => rs_yes hW ⟨#[108, 116, 59]⟩ r' (by decide) (by decide) hr.eq
    have hq : Rest bs (p + 3) r' := hr.app (s := [108, 116, 59])
    have k0 := y _ h
    replace y := Lib.hid y
    replace h := Lib.hid h
    replace hq := Lib.hid hq
    clear hr
    go_enter Tryd.func72, Tryd.ntmps72
    go_wp2_with (first
      | (go_at_call 54; (with_reducible refine k0.mono ?_); rintro e w1 ⟨rfl, h0, f0⟩; have c1 := h0.rdr.cell 0; replace f0 := Lib.hid f0; replace h0 := Lib.hid h0))
    go_ret2
    exact ⟨rfl, ⟨_, h0.out, hq.out⟩, f0.out⟩
  case gt =>
    have n0 : ∀ W, RS W L R A c bs p many → Calls Tryd.prog 54 #[.pointer (some ⟨L, 0, none⟩), .string ⟨#[108, 116, 59]⟩] W fun e w' => e = .returned (.bool false) ∧ RS w' L R A c bs p many ∧ Fr L R W w' := fun W hW => rs_no hW ⟨#[108, 116, 59]⟩ (by decide) (by decide) (by rw [hr.eq]; simp [List.cons_prefix_cons])
    have y : ∀ W, RS W L R A c bs p many → Calls Tryd.prog 54 #[.pointer (some ⟨L, 0, none⟩), .string ⟨#[103, 116, 59]⟩] W fun e w' => e = .returned (.bool true) ∧ RS w' L R A c bs (p + 3) many ∧ Fr L R W w' := fun W hW => rs_yes hW ⟨#[103, 116, 59]⟩ r' (by decide) (by decide) hr.eq
    have hq : Rest bs (p + 3) r' := hr.app (s := [103, 116, 59])
    have k0 := n0 _ h
    replace n0 := Lib.hid n0
    replace y := Lib.hid y
    replace h := Lib.hid h
    replace hq := Lib.hid hq
    clear hr
    go_enter Tryd.func72, Tryd.ntmps72
    go_wp2_with (first
      | (go_at_call 54; (with_reducible refine k0.mono ?_); rintro e w1 ⟨rfl, h0, f0⟩; have k1 := y.out _ h0; have c1 := h0.rdr.cell 0; replace f0 := Lib.hid f0; replace h0 := Lib.hid h0)
      | (go_at_call 54; (with_reducible refine k1.mono ?_); rintro e w2 ⟨rfl, h1, f1⟩; have c2 := h1.rdr.cell 0; replace f1 := Lib.hid f1; replace h1 := Lib.hid h1))
    go_ret2
    exact ⟨rfl, ⟨_, h1.out, hq.out⟩, (f0.out.trans f1.out)⟩
  case amp =>
    have n0 : ∀ W, RS W L R A c bs p many → Calls Tryd.prog 54 #[.pointer (some ⟨L, 0, none⟩), .string ⟨#[108, 116, 59]⟩] W fun e w' => e = .returned (.bool false) ∧ RS w' L R A c bs p many ∧ Fr L R W w' := fun W hW => rs_no hW ⟨#[108, 116, 59]⟩ (by decide) (by decide) (by rw [hr.eq]; simp [List.cons_prefix_cons])
    have n1 : ∀ W, RS W L R A c bs p many → Calls Tryd.prog 54 #[.pointer (some ⟨L, 0, none⟩), .string ⟨#[103, 116, 59]⟩] W fun e w' => e = .returned (.bool false) ∧ RS w' L R A c bs p many ∧ Fr L R W w' := fun W hW => rs_no hW ⟨#[103, 116, 59]⟩ (by decide) (by decide) (by rw [hr.eq]; simp [List.cons_prefix_cons])
    have y : ∀ W, RS W L R A c bs p many → Calls Tryd.prog 54 #[.pointer (some ⟨L, 0, none⟩), .string ⟨#[97, 109, 112, 59]⟩] W fun e w' => e = .returned (.bool true) ∧ RS w' L R A c bs (p + 4) many ∧ Fr L R W w' := fun W hW => rs_yes hW ⟨#[97, 109, 112, 59]⟩ r' (by decide) (by decide) hr.eq
    have hq : Rest bs (p + 4) r' := hr.app (s := [97, 109, 112, 59])
    have k0 := n0 _ h
    replace n0 := Lib.hid n0
    replace n1 := Lib.hid n1
    replace y := Lib.hid y
    replace h := Lib.hid h
    replace hq := Lib.hid hq
    clear hr
    go_enter Tryd.func72, Tryd.ntmps72
    go_wp2_with (first
      | (go_at_call 54; (with_reducible refine k0.mono ?_); rintro e w1 ⟨rfl, h0, f0⟩; have k1 := n1.out _ h0; have c1 := h0.rdr.cell 0; replace f0 := Lib.hid f0; replace h0 := Lib.hid h0)
      | (go_at_call 54; (with_reducible refine k1.mono ?_); rintro e w2 ⟨rfl, h1, f1⟩; have k2 := y.out _ h1; have c2 := h1.rdr.cell 0; replace f1 := Lib.hid f1; replace h1 := Lib.hid h1)
      | (go_at_call 54; (with_reducible refine k2.mono ?_); rintro e w3 ⟨rfl, h2, f2⟩; have c3 := h2.rdr.cell 0; replace f2 := Lib.hid f2; replace h2 := Lib.hid h2))
    go_ret2
    exact ⟨rfl, ⟨_, h2.out, hq.out⟩, ((f0.out.trans f1.out).trans f2.out)⟩
  case quot =>
    have n0 : ∀ W, RS W L R A c bs p many → Calls Tryd.prog 54 #[.pointer (some ⟨L, 0, none⟩), .string ⟨#[108, 116, 59]⟩] W fun e w' => e = .returned (.bool false) ∧ RS w' L R A c bs p many ∧ Fr L R W w' := fun W hW => rs_no hW ⟨#[108, 116, 59]⟩ (by decide) (by decide) (by rw [hr.eq]; simp [List.cons_prefix_cons])
    have n1 : ∀ W, RS W L R A c bs p many → Calls Tryd.prog 54 #[.pointer (some ⟨L, 0, none⟩), .string ⟨#[103, 116, 59]⟩] W fun e w' => e = .returned (.bool false) ∧ RS w' L R A c bs p many ∧ Fr L R W w' := fun W hW => rs_no hW ⟨#[103, 116, 59]⟩ (by decide) (by decide) (by rw [hr.eq]; simp [List.cons_prefix_cons])
    have n2 : ∀ W, RS W L R A c bs p many → Calls Tryd.prog 54 #[.pointer (some ⟨L, 0, none⟩), .string ⟨#[97, 109, 112, 59]⟩] W fun e w' => e = .returned (.bool false) ∧ RS w' L R A c bs p many ∧ Fr L R W w' := fun W hW => rs_no hW ⟨#[97, 109, 112, 59]⟩ (by decide) (by decide) (by rw [hr.eq]; simp [List.cons_prefix_cons])
    have y : ∀ W, RS W L R A c bs p many → Calls Tryd.prog 54 #[.pointer (some ⟨L, 0, none⟩), .string ⟨#[113, 117, 111, 116, 59]⟩] W fun e w' => e = .returned (.bool true) ∧ RS w' L R A c bs (p + 5) many ∧ Fr L R W w' := fun W hW => rs_yes hW ⟨#[113, 117, 111, 116, 59]⟩ r' (by decide) (by decide) hr.eq
    have hq : Rest bs (p + 5) r' := hr.app (s := [113, 117, 111, 116, 59])
    have k0 := n0 _ h
    replace n0 := Lib.hid n0
    replace n1 := Lib.hid n1
    replace n2 := Lib.hid n2
    replace y := Lib.hid y
    replace h := Lib.hid h
    replace hq := Lib.hid hq
    clear hr
    go_enter Tryd.func72, Tryd.ntmps72
    go_wp2_with (first
      | (go_at_call 54; (with_reducible refine k0.mono ?_); rintro e w1 ⟨rfl, h0, f0⟩; have k1 := n1.out _ h0; have c1 := h0.rdr.cell 0; replace f0 := Lib.hid f0; replace h0 := Lib.hid h0)
      | (go_at_call 54; (with_reducible refine k1.mono ?_); rintro e w2 ⟨rfl, h1, f1⟩; have k2 := n2.out _ h1; have c2 := h1.rdr.cell 0; replace f1 := Lib.hid f1; replace h1 := Lib.hid h1)
      | (go_at_call 54; (with_reducible refine k2.mono ?_); rintro e w3 ⟨rfl, h2, f2⟩; have k3 := y.out _ h2; have c3 := h2.rdr.cell 0; replace f2 := Lib.hid f2; replace h2 := Lib.hid h2)
      | (go_at_call 54; (with_reducible refine k3.mono ?_); rintro e w4 ⟨rfl, h3, f3⟩; have c4 := h3.rdr.cell 0; replace f3 := Lib.hid f3; replace h3 := Lib.hid h3))
    go_ret2
    exact ⟨rfl, ⟨_, h3.out, hq.out⟩, (((f0.out.trans f1.out).trans f2.out).trans f3.out)⟩
  case apos =>
    have n0 : ∀ W, RS W L R A c bs p many → Calls Tryd.prog 54 #[.pointer (some ⟨L, 0, none⟩), .string ⟨#[108, 116, 59]⟩] W fun e w' => e = .returned (.bool false) ∧ RS w' L R A c bs p many ∧ Fr L R W w' := fun W hW => rs_no hW ⟨#[108, 116, 59]⟩ (by decide) (by decide) (by rw [hr.eq]; simp [List.cons_prefix_cons])
    have n1 : ∀ W, RS W L R A c bs p many → Calls Tryd.prog 54 #[.pointer (some ⟨L, 0, none⟩), .string ⟨#[103, 116, 59]⟩] W fun e w' => e = .returned (.bool false) ∧ RS w' L R A c bs p many ∧ Fr L R W w' := fun W hW => rs_no hW ⟨#[103, 116, 59]⟩ (by decide) (by decide) (by rw [hr.eq]; simp [List.cons_prefix_cons])
    have n2 : ∀ W, RS W L R A c bs p many → Calls Tryd.prog 54 #[.pointer (some ⟨L, 0, none⟩), .string ⟨#[97, 109, 112, 59]⟩] W fun e w' => e = .returned (.bool false) ∧ RS w' L R A c bs p many ∧ Fr L R W w' := fun W hW => rs_no hW ⟨#[97, 109, 112, 59]⟩ (by decide) (by decide) (by rw [hr.eq]; simp [List.cons_prefix_cons])
    have n3 : ∀ W, RS W L R A c bs p many → Calls Tryd.prog 54 #[.pointer (some ⟨L, 0, none⟩), .string ⟨#[113, 117, 111, 116, 59]⟩] W fun e w' => e = .returned (.bool false) ∧ RS w' L R A c bs p many ∧ Fr L R W w' := fun W hW => rs_no hW ⟨#[113, 117, 111, 116, 59]⟩ (by decide) (by decide) (by rw [hr.eq]; simp [List.cons_prefix_cons])
    have y : ∀ W, RS W L R A c bs p many → Calls Tryd.prog 54 #[.pointer (some ⟨L, 0, none⟩), .string ⟨#[97, 112, 111, 115, 59]⟩] W fun e w' => e = .returned (.bool true) ∧ RS w' L R A c bs (p + 5) many ∧ Fr L R W w' := fun W hW => rs_yes hW ⟨#[97, 112, 111, 115, 59]⟩ r' (by decide) (by decide) hr.eq
    have hq : Rest bs (p + 5) r' := hr.app (s := [97, 112, 111, 115, 59])
    have k0 := n0 _ h
    replace n0 := Lib.hid n0
    replace n1 := Lib.hid n1
    replace n2 := Lib.hid n2
    replace n3 := Lib.hid n3
    replace y := Lib.hid y
    replace h := Lib.hid h
    replace hq := Lib.hid hq
    clear hr
    go_enter Tryd.func72, Tryd.ntmps72
    go_wp2_with (first
      | (go_at_call 54; (with_reducible refine k0.mono ?_); rintro e w1 ⟨rfl, h0, f0⟩; have k1 := n1.out _ h0; have c1 := h0.rdr.cell 0; replace f0 := Lib.hid f0; replace h0 := Lib.hid h0)
      | (go_at_call 54; (with_reducible refine k1.mono ?_); rintro e w2 ⟨rfl, h1, f1⟩; have k2 := n2.out _ h1; have c2 := h1.rdr.cell 0; replace f1 := Lib.hid f1; replace h1 := Lib.hid h1)
      | (go_at_call 54; (with_reducible refine k2.mono ?_); rintro e w3 ⟨rfl, h2, f2⟩; have k3 := n3.out _ h2; have c3 := h2.rdr.cell 0; replace f2 := Lib.hid f2; replace h2 := Lib.hid h2)
      | (go_at_call 54; (with_reducible refine k3.mono ?_); rintro e w4 ⟨rfl, h3, f3⟩; have k4 := y.out _ h3; have c4 := h3.rdr.cell 0; replace f3 := Lib.hid f3; replace h3 := Lib.hid h3)
      | (go_at_call 54; (with_reducible refine k4.mono ?_); rintro e w5 ⟨rfl, h4, f4⟩; have c5 := h4.rdr.cell 0; replace f4 := Lib.hid f4; replace h4 := Lib.hid h4))
    go_ret2
    exact ⟨rfl, ⟨_, h4.out, hq.out⟩, ((((f0.out.trans f1.out).trans f2.out).trans f3.out).trans f4.out)⟩
  case cr =>
    have n0 : ∀ W, RS W L R A c bs p many → Calls Tryd.prog 54 #[.pointer (some ⟨L, 0, none⟩), .string ⟨#[108, 116, 59]⟩] W fun e w' => e = .returned (.bool false) ∧ RS w' L R A c bs p many ∧ Fr L R W w' := fun W hW => rs_no hW ⟨#[108, 116, 59]⟩ (by decide) (by decide) (by rw [hr.eq]; simp [List.cons_prefix_cons])
    have n1 : ∀ W, RS W L R A c bs p many → Calls Tryd.prog 54 #[.pointer (some ⟨L, 0, none⟩), .string ⟨#[103, 116, 59]⟩] W fun e w' => e = .returned (.bool false) ∧ RS w' L R A c bs p many ∧ Fr L R W w' := fun W hW => rs_no hW ⟨#[103, 116, 59]⟩ (by decide) (by decide) (by rw [hr.eq]; simp [List.cons_prefix_cons])
    have n2 : ∀ W, RS W L R A c bs p many → Calls Tryd.prog 54 #[.pointer (some ⟨L, 0, none⟩), .string ⟨#[97, 109, 112, 59]⟩] W fun e w' => e = .returned (.bool false) ∧ RS w' L R A c bs p many ∧ Fr L R W w' := fun W hW => rs_no hW ⟨#[97, 109, 112, 59]⟩ (by decide) (by decide) (by rw [hr.eq]; simp [List.cons_prefix_cons])
    have n3 : ∀ W, RS W L R A c bs p many → Calls Tryd.prog 54 #[.pointer (some ⟨L, 0, none⟩), .string ⟨#[113, 117, 111, 116, 59]⟩] W fun e w' => e = .returned (.bool false) ∧ RS w' L R A c bs p many ∧ Fr L R W w' := fun W hW => rs_no hW ⟨#[113, 117, 111, 116, 59]⟩ (by decide) (by decide) (by rw [hr.eq]; simp [List.cons_prefix_cons])
    have n4 : ∀ W, RS W L R A c bs p many → Calls Tryd.prog 54 #[.pointer (some ⟨L, 0, none⟩), .string ⟨#[97, 112, 111, 115, 59]⟩] W fun e w' => e = .returned (.bool false) ∧ RS w' L R A c bs p many ∧ Fr L R W w' := fun W hW => rs_no hW ⟨#[97, 112, 111, 115, 59]⟩ (by decide) (by decide) (by rw [hr.eq]; simp [List.cons_prefix_cons])
    have y : ∀ W, RS W L R A c bs p many → Calls Tryd.prog 54 #[.pointer (some ⟨L, 0, none⟩), .string ⟨#[35]⟩] W fun e w' => e = .returned (.bool true) ∧ RS w' L R A c bs (p + 1) many ∧ Fr L R W w' := fun W hW => rs_yes hW ⟨#[35]⟩ ([49, 51, 59] ++ r') (by decide) (by decide) hr.eq
    have hq : Rest bs (p + 1) ([49, 51, 59] ++ r') := hr.app (s := [35])
    have cn := fun W hW => xml_num13 (w := W) (L := L) (R := R) (A := A) (c := c) (many := many) (r' := r') hW hq
    replace cn := Lib.hid cn
    have k0 := n0 _ h
    replace n0 := Lib.hid n0
    replace n1 := Lib.hid n1
    replace n2 := Lib.hid n2
    replace n3 := Lib.hid n3
    replace n4 := Lib.hid n4
    replace y := Lib.hid y
    replace h := Lib.hid h
    replace hq := Lib.hid hq
    clear hr
    go_enter Tryd.func72, Tryd.ntmps72
    go_wp2_with (first
      | (go_at_call 54; (with_reducible refine k0.mono ?_); rintro e w1 ⟨rfl, h0, f0⟩; have k1 := n1.out _ h0; have c1 := h0.rdr.cell 0; replace f0 := Lib.hid f0; replace h0 := Lib.hid h0)
      | (go_at_call 54; (with_reducible refine k1.mono ?_); rintro e w2 ⟨rfl, h1, f1⟩; have k2 := n2.out _ h1; have c2 := h1.rdr.cell 0; replace f1 := Lib.hid f1; replace h1 := Lib.hid h1)
      | (go_at_call 54; (with_reducible refine k2.mono ?_); rintro e w3 ⟨rfl, h2, f2⟩; have k3 := n3.out _ h2; have c3 := h2.rdr.cell 0; replace f2 := Lib.hid f2; replace h2 := Lib.hid h2)
      | (go_at_call 54; (with_reducible refine k3.mono ?_); rintro e w4 ⟨rfl, h3, f3⟩; have k4 := n4.out _ h3; have c4 := h3.rdr.cell 0; replace f3 := Lib.hid f3; replace h3 := Lib.hid h3)
      | (go_at_call 54; (with_reducible refine k4.mono ?_); rintro e w5 ⟨rfl, h4, f4⟩; have k5 := y.out _ h4; have c5 := h4.rdr.cell 0; replace f4 := Lib.hid f4; replace h4 := Lib.hid h4)
      | (go_at_call 54; (with_reducible refine k5.mono ?_); rintro e w6 ⟨rfl, h5, f5⟩; have k9 := cn.out _ h5; have c6 := h5.rdr.cell 0; replace f5 := Lib.hid f5; replace h5 := Lib.hid h5)
      | (go_at_call 78; (with_reducible refine k9.mono ?_); rintro e w9 ⟨rfl, ⟨q9, h9, r9⟩, f9⟩; replace f9 := Lib.hid f9; replace h9 := Lib.hid h9; replace r9 := Lib.hid r9))
    go_ret2
    exact ⟨rfl, ⟨_, h9.out, r9.out⟩, (((((f0.out.trans f1.out).trans f2.out).trans f3.out).trans f4.out).trans f5.out).trans f9.out⟩
end Go.Proofs.YtgomlebemefdcaaDoor

/- The reader reads a text. No condition. -/
namespace Go.Proofs.YtgomlebemefdcaaDoor
open Go Go.RowKit Go.Wk Go.Xt Go.Xe Go.Lib
theorem RS.belowB {w w' : World} {L R c p many B : Nat} {A : Option Addr} {bs : List UInt8} (h : RS w L R A c bs p many) (hb : Below B w w') (hL : L < B) (hR : R < B) (hA : 0 < bs.length → ∀ x, A = some x → x.block < B) : RS w' L R A c bs p many := by
  have hc := h.cur
  refine ⟨⟨hc.ne, Save.refl _ _, (hb.cell (p := ⟨L, 0, none⟩) hL).trans hc.cb, (hb.cell (p := ⟨L, 1, none⟩) hL).trans hc.ca, (hb.frozen (p := ⟨L, 1, none⟩) hL).trans hc.fr, ⟨hc.byt.1, fun h0 => ?_⟩, hc.le, hc.small⟩, h.rdr.below hb hR, h.ne, h.neA, h.cap⟩
  obtain ⟨b, o, rfl, hcell⟩ := hc.byt.2 h0
  refine ⟨b, o, rfl, fun i hi => ?_⟩
  rw [hb.cell (p := ⟨b, o + i, none⟩) (show b < B from hA h0 ⟨b, o, none⟩ rfl)]
  exact hcell i hi
theorem RS.A_lt {w : World} {L R c p many : Nat} {A : Option Addr} {bs : List UInt8} (h : RS w L R A c bs p many) : 0 < bs.length → ∀ x, A = some x → x.block < w.heap.size := by
  rintro h0 x rfl
  obtain ⟨b, o, e, hcell⟩ := h.cur.byt.2 h0
  cases e
  exact cell_lt (hcell 0 h0)
theorem Fr.tail {L R : Nat} {a b c : World} (h : Fr L R a b) (k : Below a.heap.size b c) : Fr L R a c :=
  ⟨k.os.trans h.os, k.tape.trans h.tape, k.output.trans h.output, Nat.le_trans h.size k.size, fun j hj h1 h2 => (k.block j hj).trans (h.block j hj h1 h2)⟩
theorem bcells_app (a b : List UInt8) : byteCells (a ++ b) = byteCells a ++ byteCells b := by simp [byteCells]
theorem bcells_len (a : List UInt8) : (byteCells a).length = a.length := by simp [byteCells]
theorem txt_len {fin : Int} {r o r' : List UInt8} (h : Txt fin r o r') : o.length + r'.length ≤ r.length := by
  induction h with
  | nil => simp
  | stop => simp
  | byte => simp; omega
  | ent r e r1 o r' _ hE _ ih => have := ent_len hE; have := ent_out hE; simp; omega
set_option maxHeartbeats 4000000 in
set_option maxRecDepth 100000 in
theorem xml_text {w : World} {L R c p many : Nat} {A : Option Addr} {bs r o r' : List UInt8} (fin : Int) (hf : -1 ≤ fin ∧ fin ≤ 255) (h : RS w L R A c bs p many) (hr : Rest bs p r) (hT : Txt fin r o r') :
    Calls Tryd.prog 63 #[.pointer (some ⟨R, 0, none⟩), .int .i64 fin] w fun e w' => e = .returned (.tuple #[str o, .int .i64 0]) ∧ End w L R A c bs many r' w' := by
  obtain ⟨hf1, hf2⟩ := hf
  have hLB := h.cur.L_lt
  have hRB := h.rdr.lt
  have hAB := Lib.hid h.A_lt
  obtain ⟨B, hB⟩ : ∃ B, B = w.heap.size := ⟨_, rfl⟩
  have hnew := bld_new w
  have h0 := h.below ((Below.refl w.heap.size w).alloc (Nat.le_refl _) (.cells #[.pointer none, .slice none 0 0] 52))
  have f0 : Fr L R w (w.alloc (.cells #[.pointer none, .slice none 0 0] 52)) := Fr.of_below ((Below.refl w.heap.size w).alloc (Nat.le_refl _) _)
  have hlenT := txt_len hT
  have hrl := hr.len
  have hsm := h.cur.small
  replace hlenT := Lib.hid hlenT
  replace hnew := Lib.hid hnew
  replace h0 := Lib.hid h0
  replace f0 := Lib.hid f0
  replace hr := Lib.hid hr
  replace hT := Lib.hid hT
  clear h
  go_enter Tryd.func63, Tryd.ntmps63
  go_wp2
  go_loopw [7] (fun _ wr => ∃ q r1 o1 o2, Rest bs q r1 ∧ Txt fin r1 o2 r' ∧ o1 ++ o2 = o ∧ RS wr L R A c bs q many ∧ Lib.IsBuilder 52 5 w.heap.size w.heap.size (byteCells o1) wr ∧ Fr L R w wr) (fun _ wr => bs.length + 1 - posOf L wr)
  case atStart => exact ⟨p, r, [], o, hr.out, hT.out, rfl, h0.out, hnew.out, f0.out⟩
  case round =>
    obtain ⟨q, r1, o1, o2, hq, hT1, ho, hS, hb, hF⟩ := hrel
    have c0 := hS.rdr.cell 0
    have cp := rs_peek hS
    have hpos := Lib.hid hS.pos
    have hFz := hF.size
    have hol : o1.length + o2.length = o.length := by rw [← ho]; simp
    have hq2 := hq.len
    clear hr hT h0 hnew f0
    cases hT1 with
    | nil =>
      rw [peek_nil hq.eq] at cp
      have hst : ∀ w1, RS w1 L R A c bs q many → Fr L R wr w1 → Calls Tryd.prog 19 #[.pointer (some ⟨w.heap.size, 0, none⟩)] w1 fun e w' => e = .returned (.string ⟨o1.toArray⟩) ∧ Below w.heap.size w1 w' := fun w1 h1 f1 => Tryd.Builder_String_any w.heap.size w.heap.size o1 w1 (bld_fr hb f1 hLB hRB) (by have := f1.size; omega)
      have hoo : o1 = o := by rw [← ho]; simp
      replace hst := Lib.hid hst
      replace hF := Lib.hid hF
      replace hS := Lib.hid hS
      replace hb := Lib.hid hb
      replace hq := Lib.hid hq
      replace hoo := Lib.hid hoo
      replace ho := Lib.hid ho
      go_wp2_with (first
        | (go_at_call 58; (with_reducible refine cp.mono ?_); rintro e w1 ⟨rfl, h1, f1⟩; have k1 := hst.out w1 h1 f1; replace f1 := Lib.hid f1; replace h1 := Lib.hid h1)
        | (go_at_call 19; (with_reducible refine k1.mono ?_); rintro e w2 ⟨rfl, b2⟩; replace b2 := Lib.hid b2))
      go_ret2
      exact ⟨by rw [← hoo.out]; rfl, ⟨q, h1.out.belowB b2.out hLB hRB hAB.out, hq.out⟩, (hF.out.trans f1.out).tail b2.out⟩
    | stop x r2 hx =>
      rw [peek_cons hq.eq] at cp
      have hst : ∀ w1, RS w1 L R A c bs q many → Fr L R wr w1 → Calls Tryd.prog 19 #[.pointer (some ⟨w.heap.size, 0, none⟩)] w1 fun e w' => e = .returned (.string ⟨o1.toArray⟩) ∧ Below w.heap.size w1 w' := fun w1 h1 f1 => Tryd.Builder_String_any w.heap.size w.heap.size o1 w1 (bld_fr hb f1 hLB hRB) (by have := f1.size; omega)
      have hoo : o1 = o := by rw [← ho]; simp
      have hx0 : (0 : Int) ≤ (x.toNat : Int) := Int.natCast_nonneg _
      have hx2 : (x.toNat : Int) = 60 ∨ (¬ (x.toNat : Int) = 60 ∧ (x.toNat : Int) = fin) := by
        by_cases h60 : (x.toNat : Int) = 60
        · exact .inl h60
        · refine .inr ⟨h60, ?_⟩
          rcases hx with rfl | hx
          · exact absurd rfl h60
          · exact hx
      replace hst := Lib.hid hst
      replace hF := Lib.hid hF
      replace hS := Lib.hid hS
      replace hb := Lib.hid hb
      replace hq := Lib.hid hq
      replace hoo := Lib.hid hoo
      replace ho := Lib.hid ho
      clear hx
      rcases hx2 with hx3 | ⟨hx3, hx4⟩
      · rw [hx3] at cp
        clear hx3 hx0
        go_wp2_with (first
          | (go_at_call 58; (with_reducible refine cp.mono ?_); rintro e w1 ⟨rfl, h1, f1⟩; have k1 := hst.out w1 h1 f1; replace f1 := Lib.hid f1; replace h1 := Lib.hid h1)
          | (go_at_call 19; (with_reducible refine k1.mono ?_); rintro e w2 ⟨rfl, b2⟩; replace b2 := Lib.hid b2))
        go_ret2
        exact ⟨by rw [← hoo.out]; rfl, ⟨q, h1.out.belowB b2.out hLB hRB hAB.out, hq.out⟩, (hF.out.trans f1.out).tail b2.out⟩
      · rw [hx4] at cp hx3 hx0
        replace hx4 := Lib.hid hx4
        go_wp2_with (first
          | (go_at_call 58; (with_reducible refine cp.mono ?_); rintro e w1 ⟨rfl, h1, f1⟩; have k1 := hst.out w1 h1 f1; replace f1 := Lib.hid f1; replace h1 := Lib.hid h1)
          | (go_at_call 19; (with_reducible refine k1.mono ?_); rintro e w2 ⟨rfl, b2⟩; replace b2 := Lib.hid b2))
        go_ret2
        exact ⟨by rw [← hoo.out]; rfl, ⟨q, h1.out.belowB b2.out hLB hRB hAB.out, hq.out⟩, (hF.out.trans f1.out).tail b2.out⟩
    | byte x r2 o3 _ hx1 hx2 hx3 hT2 =>
      rw [peek_cons hq.eq] at cp
      obtain ⟨hd, hlt⟩ := drop_one hq.eq
      have hq3 : Rest bs (q + 1) r2 := ⟨hd, hlt⟩
      have hwb : ∀ w1, RS w1 L R A c bs (q + 1) many → Fr L R wr w1 → Calls Tryd.prog 71 #[.pointer (some ⟨w.heap.size, 0, none⟩), .int .u8 (x.toNat : Int)] w1 fun e w' => e = .returned .nilIface ∧ (Lib.IsBuilder 52 5 w.heap.size w.heap.size (byteCells o1 ++ [.int .u8 (x.toNat : Int)]) w' ∧ Below w.heap.size w1 w') := fun w1 h1 f1 => bld_byte w.heap.size w.heap.size (byteCells o1) (x.toNat : Int) w1 (bld_fr hb f1 hLB hRB) (by rw [bcells_len]; have := hlenT.out; omega) (by have := f1.size; omega)
      have hcc : Hid (byteCells o1 ++ [.int .u8 (x.toNat : Int)] = byteCells (o1 ++ [x])) := Lib.hid (by rw [bcells_app]; rfl)
      have hne : ∀ n : UInt8, x ≠ n → ¬ (x.toNat : Int) = (n.toNat : Int) := fun n h e => h (UInt8.toNat_inj.1 (by omega))
      have g1 : ((x.toNat : Int) == 60) = false := by rw [beq_eq_false_iff_ne]; exact hne 60 hx1
      have g2 : ((x.toNat : Int) == 38) = false := by rw [beq_eq_false_iff_ne]; exact hne 38 hx3
      have g5 : ((x.toNat : Int) == fin) = false := by rw [beq_eq_false_iff_ne]; exact hx2
      have g3 : (0 : Int) ≤ (x.toNat : Int) := Int.natCast_nonneg _
      have g4 := u8_lt x
      have hoo : Hid ((o1 ++ [x]) ++ o3 = o) := Lib.hid (by rw [← ho]; simp)
      clear hne hx1 hx2 hx3 hd
      generalize (x.toNat : Int) = X at *
      replace hwb := Lib.hid hwb
      replace hF := Lib.hid hF
      replace hS := Lib.hid hS
      replace hb := Lib.hid hb
      replace hq := Lib.hid hq
      replace hq3 := Lib.hid hq3
      replace ho := Lib.hid ho
      replace hT2 := Lib.hid hT2
      replace hol := Lib.hid hol
      replace hq2 := Lib.hid hq2
      go_wp2_with (first
        | (go_at_call 58; (with_reducible refine cp.mono ?_); rintro e w1 ⟨rfl, h1, f1⟩; have c1 := h1.rdr.cell 0; have cn := rs_next h1; rw [if_pos hlt] at cn; replace f1 := Lib.hid f1; replace h1 := Lib.hid h1)
        | (go_at_call 59; (with_reducible refine cn.mono ?_); rintro e w2 ⟨rfl, h2, f2⟩; have f12 := f1.out.trans f2; have k2 := hwb.out w2 h2 f12; replace f2 := Lib.hid f2; replace f12 := Lib.hid f12; replace h2 := Lib.hid h2)
        | (go_at_call 71; (with_reducible refine k2.mono ?_); rintro e w3 ⟨rfl, hb3, b3⟩; replace b3 := Lib.hid b3; replace hb3 := Lib.hid hb3))
      have hb4 := hb3.out
      rw [hcc.out] at hb4
      have h3 := h2.out.belowB b3.out hLB hRB hAB.out
      go_roundw
      case rel => exact ⟨q + 1, r2, o1 ++ [x], o3, hq3.out, hT2.out, hoo.out, h3, hb4, (hF.out.trans f12.out).tail b3.out⟩
      case measure => rw [h3.pos, hpos.out]; omega
    | ent r2 e r3 o3 _ hx2 hE hT2 =>
      rw [peek_cons hq.eq] at cp
      obtain ⟨hd, hlt⟩ := drop_one hq.eq
      have hq3 : Rest bs (q + 1) r2 := ⟨hd, hlt⟩
      have ce : ∀ w1, RS w1 L R A c bs (q + 1) many → Calls Tryd.prog 72 #[.pointer (some ⟨R, 0, none⟩)] w1 fun e' w' => e' = .returned (.tuple #[.string ⟨e.toArray⟩, .int .i64 0]) ∧ End w1 L R A c bs many r3 w' := fun w1 h1 => xml_entity h1 hq3 hE
      have hws : ∀ w1, Fr L R wr w1 → Calls Tryd.prog 18 #[.pointer (some ⟨w.heap.size, 0, none⟩), .string ⟨e.toArray⟩] w1 fun e' w' => e' = .returned (.tuple #[.int .i64 (⟨e.toArray⟩ : ByteArray).size, .nilIface]) ∧ (Lib.IsBuilder 52 5 w.heap.size w.heap.size (byteCells o1 ++ Lib.strCells ⟨e.toArray⟩) w' ∧ Below w.heap.size w1 w') := fun w1 f1 => bld_str w.heap.size w.heap.size (byteCells o1) ⟨e.toArray⟩ w1 (bld_fr hb f1 hLB hRB) (by rw [bcells_len]; have := hlenT.out; have := ent_out hE; simp [ByteArray.size]; omega) (by have := f1.size; omega)
      have hcc : Hid (byteCells o1 ++ Lib.strCells ⟨e.toArray⟩ = byteCells (o1 ++ e)) := Lib.hid (by rw [bcells_app]; rfl)
      have hoo : Hid ((o1 ++ e) ++ o3 = o) := Lib.hid (by rw [← ho]; simp)
      have hel := Lib.hid (ent_len hE)
      have cp : Calls Tryd.prog 58 #[.pointer (some ⟨L, 0, none⟩), .int .i64 0] wr fun e w' => e = .returned (.int .i64 38) ∧ RS w' L R A c bs q many ∧ Fr L R wr w' := cp
      have g2 : ¬ (38 : Int) = fin := fun e => hx2 e.symm
      clear hx2 hE hd
      generalize (⟨e.toArray⟩ : ByteArray) = E at *
      replace hws := Lib.hid hws
      replace ce := Lib.hid ce
      replace hF := Lib.hid hF
      replace hS := Lib.hid hS
      replace hb := Lib.hid hb
      replace hq := Lib.hid hq
      replace hq3 := Lib.hid hq3
      replace ho := Lib.hid ho
      replace hT2 := Lib.hid hT2
      replace hol := Lib.hid hol
      replace hq2 := Lib.hid hq2
      go_wp2_with (first
        | (go_at_call 58; (with_reducible refine cp.mono ?_); rintro e w1 ⟨rfl, h1, f1⟩; have c1 := h1.rdr.cell 0; have cn := rs_next h1; rw [if_pos hlt] at cn; replace f1 := Lib.hid f1; replace h1 := Lib.hid h1)
        | (go_at_call 59; (with_reducible refine cn.mono ?_); rintro e w2 ⟨rfl, h2, f2⟩; have f12 := f1.out.trans f2; have k2 := ce.out w2 h2; replace f2 := Lib.hid f2; replace f12 := Lib.hid f12; replace h2 := Lib.hid h2)
        | (go_at_call 72; (with_reducible refine k2.mono ?_); rintro e w3 ⟨rfl, ⟨⟨q4, h3, hq4⟩, f3⟩⟩; have f13 := f12.out.trans f3; have k3 := hws.out w3 f13; replace f3 := Lib.hid f3; replace f13 := Lib.hid f13; replace h3 := Lib.hid h3; replace hq4 := Lib.hid hq4)
        | (go_at_call 18; (with_reducible refine k3.mono ?_); rintro e w4 ⟨rfl, hb4, b4⟩; replace b4 := Lib.hid b4; replace hb4 := Lib.hid hb4))
      have hb5 := hb4.out
      rw [hcc.out] at hb5
      have h4 := h3.out.belowB b4.out hLB hRB hAB.out
      go_roundw
      case rel => exact ⟨q4, r3, o1 ++ e, o3, hq4.out, hT2.out, hoo.out, h4, hb5, (hF.out.trans f13.out).tail b4.out⟩
      case measure =>
        rw [h4.pos, hpos.out]
        have a1 := hq4.out.len
        have a2 := hq3.out.len
        have a3 := hel.out
        omega
end Go.Proofs.YtgomlebemefdcaaDoor

/- The reader: no attributes; a node without any. No condition. -/
namespace Go.Proofs.YtgomlebemefdcaaDoor
open Go Go.RowKit Go.Wk Go.Xt Go.Xe
set_option maxHeartbeats 2000000 in
set_option maxRecDepth 100000 in
theorem xml_attrs_nil {w : World} {L R c p many : Nat} {A : Option Addr} {bs r r' : List UInt8} (h : RS w L R A c bs p many) (hr : Rest bs p r) (hA : Atts r [] r') :
    Calls Tryd.prog 61 #[.pointer (some ⟨R, 0, none⟩)] w fun e w' => e = .returned (.tuple #[.slice none 0 0, .int .i64 0]) ∧ End w L R A c bs many r' w' := by
  cases hA with
  | nil r2 x hx hx2 =>
    have cb := xml_blank h hr.eq
    have hq := hr.ws_
    rw [hx] at hq
    have cp : ∀ w1, RS w1 L R A c bs (p + ws r) many → Calls Tryd.prog 58 #[.pointer (some ⟨L, 0, none⟩), .int .i64 0] w1 fun e w' => e = .returned (.int .i64 (x.toNat : Int)) ∧ RS w' L R A c bs (p + ws r) many ∧ Fr L R w1 w' := fun w1 h1 => by
      have := rs_peek h1
      rw [peek_cons hq.eq] at this
      exact this
    have hx3 : (x.toNat : Int) = 47 ∨ (x.toNat : Int) = 62 := by rcases hx2 with rfl | rfl; exact .inl rfl; exact .inr rfl
    replace cp := Lib.hid cp
    replace hq := Lib.hid hq
    clear hr h hx hx2
    generalize hX : (x.toNat : Int) = X at *
    generalize ws r = n at *
    clear hX
    rcases hx3 with rfl | rfl
    all_goals
      go_enter Tryd.func61, Tryd.ntmps61
      go_wp2
      refine wp_loop_rounds 1 ?_; rw [rounds_succ]
      go_wp2_with (first
        | (go_at_call 49; (with_reducible refine cb.mono ?_); rintro e w1 ⟨rfl, h1, f1⟩; have c1 := h1.rdr.cell 0; have k1 := cp.out w1 h1; replace f1 := Lib.hid f1; replace h1 := Lib.hid h1)
        | (go_at_call 58; (with_reducible refine k1.mono ?_); rintro e w2 ⟨rfl, h2, f2⟩; replace f2 := Lib.hid f2; replace h2 := Lib.hid h2))
      go_ret2
      exact ⟨rfl, ⟨_, h2.out, hq.out⟩, f1.out.trans f2.out⟩
set_option maxHeartbeats 2000000 in
set_option maxRecDepth 100000 in
theorem xml_bound_nil {w : World} (R : Nat) :
    Calls Tryd.prog 66 #[.pointer (some ⟨R, 0, none⟩), .slice none 0 0] w fun e w' => e = .returned (.int .i64 0) ∧ w = w' := by
  go_enter Tryd.func66, Tryd.ntmps66
  go_wp2
  refine wp_loop_rounds 1 ?_; rw [rounds_succ]
  go_wp2
  go_ret
  exact ⟨rfl, rfl⟩
set_option maxHeartbeats 2000000 in
set_option maxRecDepth 100000 in
theorem xml_space_nil {w : World} {L R c p many : Nat} {A : Option Addr} {bs : List UInt8} (h : RS w L R A c bs p many) :
    Calls Tryd.prog 67 #[.pointer (some ⟨R, 0, none⟩), .string ⟨#[]⟩] w fun e w' => e = .returned (.tuple #[.string ⟨#[]⟩, .int .i64 0]) ∧ w = w' := by
  have c2 := h.rdr.cell 2
  have cps := fun (w : World) => xml_passed (w := w) true
  simp only [if_true] at cps
  clear h
  go_enter Tryd.func67, Tryd.ntmps67
  go_wp2
  refine wp_loop_rounds 1 ?_; rw [rounds_succ]
  go_wp2_with (go_at_call 41; (with_reducible refine (cps _).mono ?_); rintro e w1 ⟨rfl, rfl⟩)
  go_ret2
  exact ⟨rfl, rfl⟩
set_option maxHeartbeats 2000000 in
set_option maxRecDepth 100000 in
theorem xml_node_nil {w : World} {L R c p many : Nat} {A : Option Addr} {bs : List UInt8} (N : ByteArray) (h : RS w L R A c bs p many) :
    Calls Tryd.prog 62 #[.pointer (some ⟨R, 0, none⟩), .string ⟨#[]⟩, .string N, .slice none 0 0] w fun e w' => e = .returned (.tuple #[.agg #[.string ⟨#[]⟩, .string N, .string ⟨#[]⟩, .slice none 0 0, .slice none 0 0], .int .i64 0]) ∧ Below w.heap.size w w' := by
  have cb := fun (w : World) => xml_bound_nil (w := w) R
  have cs := fun (w1 : World) (hb : Below w.heap.size w w1) => xml_space_nil (h.below hb)
  have b1 : Below w.heap.size w (w.alloc (.cells #[.string ⟨#[]⟩, .string ⟨#[]⟩, .string ⟨#[]⟩, .slice none 0 0, .slice none 0 0] 27)) := (Below.refl _ _).alloc (Nat.le_refl _) _
  have cs1 := cs _ b1
  clear cs h b1
  go_enter Tryd.func62, Tryd.ntmps62
  go_wp2_with (first
    | (go_at_call 66; (with_reducible refine (cb _).mono ?_); rintro e w1 ⟨rfl, rfl⟩)
    | (go_at_call 67; (with_reducible refine cs1.mono ?_); rintro e w1 ⟨rfl, rfl⟩))
  refine wp_loop_rounds 1 ?_; rw [rounds_succ]
  go_wp2
  exact bodyPost_ret (v := .tuple #[.agg #[.string ⟨#[]⟩, .string N, .string ⟨#[]⟩, .slice none 0 0, .slice none 0 0], .int .i64 0]) (by simp [results, Tryd.results62, go_sem]) rfl ⟨rfl, ((Below.refl _ _).alloc (Nat.le_refl _) _).alloc (by simp) _⟩
theorem RS.bump {w : World} {L R c p many : Nat} {A : Option Addr} {bs : List UInt8} (h : RS w L R A c bs p many) : RS (w.setCell ⟨R, 1, none⟩ (.int .i64 ((many : Int) + 1))) L R A c bs p (many + 1) := by
  have hc := h.cur
  have hL := hc.L_lt
  have hne : ∀ o, (⟨R, 1, none⟩ : Addr) ≠ ⟨L, o, none⟩ := fun o e => h.ne (by cases e; rfl)
  refine ⟨⟨hc.ne, Save.refl _ _, ?_, ?_, ?_, ⟨hc.byt.1, fun h0 => ?_⟩, hc.le, hc.small⟩, ?_, h.ne, h.neA, h.cap⟩
  · rw [World.cell?_setCell_other _ _ _ _ (hne 0)]; exact hc.cb
  · rw [World.cell?_setCell_other _ _ _ _ (hne 1)]; exact hc.ca
  · rw [World.frozen?_setCell]; exact hc.fr
  · obtain ⟨b, o, rfl, hcell⟩ := hc.byt.2 h0
    have hb : b ≠ R := h.neA h0 _ rfl
    refine ⟨b, o, rfl, fun i hi => ?_⟩
    rw [World.cell?_setCell_other _ _ _ _ (fun e => hb (congrArg Addr.block e).symm)]
    exact hcell i hi
  · have := h.rdr.set_ 1 (.int .i64 ((many : Int) + 1))
    rw [show ((many + 1 : Nat) : Int) = (many : Int) + 1 by omega]
    exact this
theorem Fr.bump {L R : Nat} (w : World) (u : Value) : Fr L R w (w.setCell ⟨R, 1, none⟩ u) := (Fr.refl L R w).store 1 u
/-- what the beginning's mark answers -/
def MarkR (w : World) (L R : Nat) (A : Option Addr) (c : Nat) (bs : List UInt8) (many : Nat) (N : ByteArray) (closed : Bool) (r : List UInt8) (e : Ending) (w' : World) : Prop :=
  e = .returned (.tuple #[.string ⟨#[]⟩, .string N, .bool closed, .agg #[.string ⟨#[]⟩, .string N, .string ⟨#[]⟩, .slice none 0 0, .slice none 0 0], .int .i64 0]) ∧ End w L R A c bs (many + 1) r w'
set_option maxHeartbeats 4000000 in
set_option maxRecDepth 100000 in
theorem xml_mark_nil {w : World} {L R c p many : Nat} {A : Option Addr} {bs r r' nm : List UInt8} {closed : Bool} (d : Nat) (hd0 : 0 < d) (hd : d ≤ 1000) (hm : many < 4000) (h : RS w L R A c bs p many) (hr : Rest bs p r) (hM : Xe.Mark r nm [] closed r') :
    Calls Tryd.prog 51 #[.pointer (some ⟨R, 0, none⟩), .int .i64 d] w (MarkR w L R A c bs many ⟨nm.toArray⟩ closed r') := by
  obtain ⟨N, hN⟩ : ∃ N : ByteArray, (⟨nm.toArray⟩ : ByteArray) = N := ⟨_, rfl⟩
  have hN2 : str nm = .string N := by rw [← hN]; rfl
  rw [hN]
  have hb0 : Below w.heap.size w (w.alloc (.cells #[.string ⟨#[]⟩, .string ⟨#[]⟩, .string ⟨#[]⟩, .slice none 0 0, .slice none 0 0] 27)) := (Below.refl _ _).alloc (Nat.le_refl _) _
  have h0 := h.below hb0
  have hnew := Blk.new w 27 #[.string ⟨#[]⟩, .string ⟨#[]⟩, .string ⟨#[]⟩, .slice none 0 0, .slice none 0 0]
  have c0 := h0.rdr.cell 0
  have hRlt := h.rdr.lt
  have hLlt := h.cur.L_lt
  have hAlt := Lib.hid h.A_lt
  have hdz : ((d : Int) == 0) = false := by simp; omega
  have hmm : ¬ (4000 : Int) < (many : Int) + 1 := by omega
  cases hM with
  | «open» r0 _ _ r1 r2 hn hne hdr hno hA =>
    have m1 : Calls Tryd.prog 54 #[.pointer (some ⟨L, 0, none⟩), .string ⟨#[60]⟩] _ fun e w' => e = .returned (.bool true) ∧ RS w' L R A c bs (p + 1) many ∧ Fr L R _ w' := rs_yes h0 ⟨#[60]⟩ r0 (by decide) (by decide) hr.eq
    have hr1 : Rest bs (p + 1) r0 := hr.app (s := [60])
    have cf := fun w1 (h1 : RS w1 L R A c bs (p + 1) many) => xml_full h1 hr1 hn hne (by rw [hdr]; exact hno)
    simp only [hdr, hN2] at cf
    have ca := fun w2 q (h2 : RS w2 L R A c bs q (many + 1)) (hq : Rest bs q r1) => xml_attrs_nil h2 hq hA
    have m2 : ∀ w3 q, RS w3 L R A c bs q (many + 1) → Rest bs q (62 :: r') → Calls Tryd.prog 54 #[.pointer (some ⟨L, 0, none⟩), .string ⟨#[47]⟩] w3 fun e w' => e = .returned (.bool false) ∧ RS w' L R A c bs q (many + 1) ∧ Fr L R w3 w' := fun w3 q h3 hq => rs_no h3 ⟨#[47]⟩ (by decide) (by decide) (by rw [hq.eq]; simp [List.cons_prefix_cons])
    have m3 : ∀ w3 q, RS w3 L R A c bs q (many + 1) → Rest bs q (62 :: r') → Calls Tryd.prog 54 #[.pointer (some ⟨L, 0, none⟩), .string ⟨#[62]⟩] w3 fun e w' => e = .returned (.bool true) ∧ RS w' L R A c bs (q + 1) (many + 1) ∧ Fr L R w3 w' := fun w3 q h3 hq => rs_yes h3 ⟨#[62]⟩ r' (by decide) (by decide) hq.eq
    have cn : ∀ w5 q, RS w5 L R A c bs q (many + 1) → Calls Tryd.prog 62 #[.pointer (some ⟨R, 0, none⟩), .string ⟨#[]⟩, .string N, .slice none 0 0] w5 fun e w' => e = .returned (.tuple #[.agg #[.string ⟨#[]⟩, .string N, .string ⟨#[]⟩, .slice none 0 0, .slice none 0 0], .int .i64 0]) ∧ Below w5.heap.size w5 w' := fun w5 q h5 => xml_node_nil N h5
    replace cf := Lib.hid cf
    replace ca := Lib.hid ca
    replace m2 := Lib.hid m2
    replace m3 := Lib.hid m3
    replace cn := Lib.hid cn
    have h0f := Lib.hid (Fr.refl L R (w.alloc (.cells #[.string ⟨#[]⟩, .string ⟨#[]⟩, .string ⟨#[]⟩, .slice none 0 0, .slice none 0 0] 27)))
    replace h0 := Lib.hid h0
    replace hnew := Lib.hid hnew
    replace hb0 := Lib.hid hb0
    clear hn hne hdr hno hA h hr hr1 hN hN2
    go_enter Tryd.func51, Tryd.ntmps51
    go_wp2_with (first
      | (go_at_call 54; (with_reducible refine m1.mono ?_); rintro e w1 ⟨rfl, h1, f1⟩; have k2 := cf.out w1 h1; replace f1 := Lib.hid f1; replace h1 := Lib.hid h1; clear m1)
      | (go_at_call 53; (with_reducible refine k2.mono ?_); rintro e w2 ⟨rfl, ⟨⟨q, h2, hq⟩, f2⟩⟩; have c21 := h2.rdr.cell 1; have f21 := h2.rdr.frozen 1; have h2b := h2.bump; have k3 := ca.out _ q h2b hq; replace f2 := Lib.hid f2; replace h2 := Lib.hid h2; replace h2b := Lib.hid h2b; replace hq := Lib.hid hq)
      | (go_at_call 61; (with_reducible refine k3.mono ?_); rintro e w3 ⟨rfl, ⟨⟨q3, h3, hq3⟩, f3⟩⟩; have c3 := h3.rdr.cell 0; have k4 := m2.out w3 q3 h3 hq3; replace f3 := Lib.hid f3; replace h3 := Lib.hid h3; replace hq3 := Lib.hid hq3)
      | (go_at_call 54; (with_reducible refine k4.mono ?_); rintro e w4 ⟨rfl, h4, f4⟩; have c4 := h4.rdr.cell 0; have k5 := m3.out w4 q3 h4 hq3.out; replace f4 := Lib.hid f4; replace h4 := Lib.hid h4; clear k4)
      | (go_at_call 54; (with_reducible refine k5.mono ?_); rintro e w5 ⟨rfl, h5, f5⟩; have k6 := cn.out w5 _ h5; replace f5 := Lib.hid f5; replace h5 := Lib.hid h5)
      | (go_at_call 62; (with_reducible refine k6.mono ?_); rintro e w6 ⟨rfl, b6⟩; replace b6 := Lib.hid b6))
    have F : Fr L R _ w6 := ((((h0f.out.trans (f1.out.trans f2.out)).trans (Fr.bump w2 (.int .i64 ((many : Int) + 1)))).trans f3.out).trans (f4.out.trans f5.out)).trans (Fr.of_below b6.out)
    have hz7 : Blk w6 w.heap.size 27 #[.string ⟨#[]⟩, .string ⟨#[]⟩, .string ⟨#[]⟩, .slice none 0 0, .slice none 0 0] := (F.block w.heap.size (by simp) (by omega) (by omega)).trans hnew.out
    have hz7 := hz7.alloc (.cells #[.string ⟨#[]⟩, .string N, .string ⟨#[]⟩, .slice none 0 0, .slice none 0 0] 27)
    have hz8 := Blk.new w6 27 #[.string ⟨#[]⟩, .string N, .string ⟨#[]⟩, .slice none 0 0, .slice none 0 0]
    have hw67 : Below w6.heap.size w6 (w6.alloc (.cells #[.string ⟨#[]⟩, .string N, .string ⟨#[]⟩, .slice none 0 0, .slice none 0 0] 27)) := (Below.refl _ _).alloc (Nat.le_refl _) _
    obtain ⟨W, hW⟩ : ∃ W, W = w6.alloc (.cells #[.string ⟨#[]⟩, .string N, .string ⟨#[]⟩, .slice none 0 0, .slice none 0 0] 27) := ⟨_, rfl⟩
    rw [← hW] at hz7 hz8 hw67 ⊢
    obtain ⟨g8, hg8⟩ : ∃ g, g = w6.heap.size := ⟨_, rfl⟩
    obtain ⟨g7, hg7⟩ : ∃ g, g = w.heap.size := ⟨_, rfl⟩
    rw [← hg8] at hz8 ⊢
    rw [← hg7] at hz7 ⊢
    have a0 := hz7.cell 0
    have a1 := hz7.cell 1
    have a2 := hz7.cell 2
    have a3 := hz7.cell 3
    have a4 := hz7.cell 4
    have e0 := hz8.cell 0
    have e1 := hz8.cell 1
    have e2 := hz8.cell 2
    have e3 := hz8.cell 3
    have e4 := hz8.cell 4
    have z0 := hz7.frozen 0
    have z1 := hz7.frozen 1
    have z2 := hz7.frozen 2
    have z3 := hz7.frozen 3
    have z4 := hz7.frozen 4
    replace hz7 := Lib.hid hz7
    replace hz8 := Lib.hid hz8
    replace hW := Lib.hid hW
    replace hw67 := Lib.hid hw67
    replace hg7 := Lib.hid hg7
    replace hg8 := Lib.hid hg8
    replace F := Lib.hid F
    go_region
    have hBV := Lib.hid (((((((Below.refl w.heap.size W).setCell (p := ⟨g7, 0, none⟩) (Nat.le_of_eq hg7.out.symm) (.string ⟨#[]⟩)).setCell (p := ⟨g7, 1, none⟩) (Nat.le_of_eq hg7.out.symm) (.string N)).setCell (p := ⟨g7, 2, none⟩) (Nat.le_of_eq hg7.out.symm) (.string ⟨#[]⟩)).setCell (p := ⟨g7, 3, none⟩) (Nat.le_of_eq hg7.out.symm) (.slice none 0 0)).setCell (p := ⟨g7, 4, none⟩) (Nat.le_of_eq hg7.out.symm) (.slice none 0 0)).drew)
    have hV := (((((hz7.out.set_ 0 (.string ⟨#[]⟩)).set_ 1 (.string N)).set_ 2 (.string ⟨#[]⟩)).set_ 3 (.slice none 0 0)).set_ 4 (.slice none 0 0)).drew
    generalize ((((((W.setCell ⟨g7, 0, none⟩ (.string ⟨#[]⟩)).setCell ⟨g7, 1, none⟩ (.string N)).setCell ⟨g7, 2, none⟩ (.string ⟨#[]⟩)).setCell ⟨g7, 3, none⟩ (.slice none 0 0)).setCell ⟨g7, 4, none⟩ (.slice none 0 0)).drew) = V at *
    have r0 := hV.cell 0
    have r1 := hV.cell 1
    have r2 := hV.cell 2
    have r3 := hV.cell 3
    have r4 := hV.cell 4
    clear a0 a1 a2 a3 a4 e0 e1 e2 e3 e4 z0 z1 z2 z3 z4 hV
    go_wp2
    refine bodyPost_ret (v := .tuple #[.string ⟨#[]⟩, .string N, .bool false, .agg #[.string ⟨#[]⟩, .string N, .string ⟨#[]⟩, .slice none 0 0, .slice none 0 0], .int .i64 0]) (by simp [results, Tryd.results51, go_sem, r0, r1, r2, r3, r4]) rfl ⟨rfl, ⟨q3 + 1, ?_, hq3.out.app (s := [62])⟩, ?_⟩
    · exact ((h5.out.below b6.out).below hw67.out).belowB hBV.out hLlt hRlt hAlt.out
    · exact ((Fr.of_below hb0.out).trans (F.out.trans (Fr.of_below hw67.out))).tail hBV.out
  | shut r0 _ _ r1 r2 hn hne hdr hno hA =>
    have m1 : Calls Tryd.prog 54 #[.pointer (some ⟨L, 0, none⟩), .string ⟨#[60]⟩] _ fun e w' => e = .returned (.bool true) ∧ RS w' L R A c bs (p + 1) many ∧ Fr L R _ w' := rs_yes h0 ⟨#[60]⟩ r0 (by decide) (by decide) hr.eq
    have hr1 : Rest bs (p + 1) r0 := hr.app (s := [60])
    have cf := fun w1 (h1 : RS w1 L R A c bs (p + 1) many) => xml_full h1 hr1 hn hne (by rw [hdr]; exact hno)
    simp only [hdr, hN2] at cf
    have ca := fun w2 q (h2 : RS w2 L R A c bs q (many + 1)) (hq : Rest bs q r1) => xml_attrs_nil h2 hq hA
    have m2 : ∀ w3 q, RS w3 L R A c bs q (many + 1) → Rest bs q (47 :: 62 :: r') → Calls Tryd.prog 54 #[.pointer (some ⟨L, 0, none⟩), .string ⟨#[47]⟩] w3 fun e w' => e = .returned (.bool true) ∧ RS w' L R A c bs (q + 1) (many + 1) ∧ Fr L R w3 w' := fun w3 q h3 hq => rs_yes h3 ⟨#[47]⟩ (62 :: r') (by decide) (by decide) hq.eq
    have m3 : ∀ w3 q, RS w3 L R A c bs q (many + 1) → Rest bs q (62 :: r') → Calls Tryd.prog 54 #[.pointer (some ⟨L, 0, none⟩), .string ⟨#[62]⟩] w3 fun e w' => e = .returned (.bool true) ∧ RS w' L R A c bs (q + 1) (many + 1) ∧ Fr L R w3 w' := fun w3 q h3 hq => rs_yes h3 ⟨#[62]⟩ r' (by decide) (by decide) hq.eq
    have cn : ∀ w5 q, RS w5 L R A c bs q (many + 1) → Calls Tryd.prog 62 #[.pointer (some ⟨R, 0, none⟩), .string ⟨#[]⟩, .string N, .slice none 0 0] w5 fun e w' => e = .returned (.tuple #[.agg #[.string ⟨#[]⟩, .string N, .string ⟨#[]⟩, .slice none 0 0, .slice none 0 0], .int .i64 0]) ∧ Below w5.heap.size w5 w' := fun w5 q h5 => xml_node_nil N h5
    replace cf := Lib.hid cf
    replace ca := Lib.hid ca
    replace m2 := Lib.hid m2
    replace m3 := Lib.hid m3
    replace cn := Lib.hid cn
    have h0f := Lib.hid (Fr.refl L R (w.alloc (.cells #[.string ⟨#[]⟩, .string ⟨#[]⟩, .string ⟨#[]⟩, .slice none 0 0, .slice none 0 0] 27)))
    replace h0 := Lib.hid h0
    replace hnew := Lib.hid hnew
    replace hb0 := Lib.hid hb0
    clear hn hne hdr hno hA h hr hr1 hN hN2
    go_enter Tryd.func51, Tryd.ntmps51
    go_wp2_with (first
      | (go_at_call 54; (with_reducible refine m1.mono ?_); rintro e w1 ⟨rfl, h1, f1⟩; have k2 := cf.out w1 h1; replace f1 := Lib.hid f1; replace h1 := Lib.hid h1; clear m1)
      | (go_at_call 53; (with_reducible refine k2.mono ?_); rintro e w2 ⟨rfl, ⟨⟨q, h2, hq⟩, f2⟩⟩; have c21 := h2.rdr.cell 1; have f21 := h2.rdr.frozen 1; have h2b := h2.bump; have k3 := ca.out _ q h2b hq; replace f2 := Lib.hid f2; replace h2 := Lib.hid h2; replace h2b := Lib.hid h2b; replace hq := Lib.hid hq)
      | (go_at_call 61; (with_reducible refine k3.mono ?_); rintro e w3 ⟨rfl, ⟨⟨q3, h3, hq3⟩, f3⟩⟩; have c3 := h3.rdr.cell 0; have k4 := m2.out w3 q3 h3 hq3; replace f3 := Lib.hid f3; replace h3 := Lib.hid h3; replace hq3 := Lib.hid hq3)
      | (go_at_call 54; (with_reducible refine k4.mono ?_); rintro e w4 ⟨rfl, h4, f4⟩; have c4 := h4.rdr.cell 0; have hq4 := hq3.out.app (s := [47]); have k5 := m3.out w4 (q3 + 1) h4 hq4; replace hq4 := Lib.hid hq4; replace f4 := Lib.hid f4; replace h4 := Lib.hid h4; clear k4)
      | (go_at_call 54; (with_reducible refine k5.mono ?_); rintro e w5 ⟨rfl, h5, f5⟩; have k6 := cn.out w5 _ h5; replace f5 := Lib.hid f5; replace h5 := Lib.hid h5)
      | (go_at_call 62; (with_reducible refine k6.mono ?_); rintro e w6 ⟨rfl, b6⟩; replace b6 := Lib.hid b6))
    have F : Fr L R _ w6 := ((((h0f.out.trans (f1.out.trans f2.out)).trans (Fr.bump w2 (.int .i64 ((many : Int) + 1)))).trans f3.out).trans (f4.out.trans f5.out)).trans (Fr.of_below b6.out)
    have hz7 : Blk w6 w.heap.size 27 #[.string ⟨#[]⟩, .string ⟨#[]⟩, .string ⟨#[]⟩, .slice none 0 0, .slice none 0 0] := (F.block w.heap.size (by simp) (by omega) (by omega)).trans hnew.out
    have hz7 := hz7.alloc (.cells #[.string ⟨#[]⟩, .string N, .string ⟨#[]⟩, .slice none 0 0, .slice none 0 0] 27)
    have hz8 := Blk.new w6 27 #[.string ⟨#[]⟩, .string N, .string ⟨#[]⟩, .slice none 0 0, .slice none 0 0]
    have hw67 : Below w6.heap.size w6 (w6.alloc (.cells #[.string ⟨#[]⟩, .string N, .string ⟨#[]⟩, .slice none 0 0, .slice none 0 0] 27)) := (Below.refl _ _).alloc (Nat.le_refl _) _
    obtain ⟨W, hW⟩ : ∃ W, W = w6.alloc (.cells #[.string ⟨#[]⟩, .string N, .string ⟨#[]⟩, .slice none 0 0, .slice none 0 0] 27) := ⟨_, rfl⟩
    rw [← hW] at hz7 hz8 hw67 ⊢
    obtain ⟨g8, hg8⟩ : ∃ g, g = w6.heap.size := ⟨_, rfl⟩
    obtain ⟨g7, hg7⟩ : ∃ g, g = w.heap.size := ⟨_, rfl⟩
    rw [← hg8] at hz8 ⊢
    rw [← hg7] at hz7 ⊢
    have a0 := hz7.cell 0
    have a1 := hz7.cell 1
    have a2 := hz7.cell 2
    have a3 := hz7.cell 3
    have a4 := hz7.cell 4
    have e0 := hz8.cell 0
    have e1 := hz8.cell 1
    have e2 := hz8.cell 2
    have e3 := hz8.cell 3
    have e4 := hz8.cell 4
    have z0 := hz7.frozen 0
    have z1 := hz7.frozen 1
    have z2 := hz7.frozen 2
    have z3 := hz7.frozen 3
    have z4 := hz7.frozen 4
    replace hz7 := Lib.hid hz7
    replace hz8 := Lib.hid hz8
    replace hW := Lib.hid hW
    replace hw67 := Lib.hid hw67
    replace hg7 := Lib.hid hg7
    replace hg8 := Lib.hid hg8
    replace F := Lib.hid F
    go_region
    have hBV := Lib.hid (((((((Below.refl w.heap.size W).setCell (p := ⟨g7, 0, none⟩) (Nat.le_of_eq hg7.out.symm) (.string ⟨#[]⟩)).setCell (p := ⟨g7, 1, none⟩) (Nat.le_of_eq hg7.out.symm) (.string N)).setCell (p := ⟨g7, 2, none⟩) (Nat.le_of_eq hg7.out.symm) (.string ⟨#[]⟩)).setCell (p := ⟨g7, 3, none⟩) (Nat.le_of_eq hg7.out.symm) (.slice none 0 0)).setCell (p := ⟨g7, 4, none⟩) (Nat.le_of_eq hg7.out.symm) (.slice none 0 0)).drew)
    have hV := (((((hz7.out.set_ 0 (.string ⟨#[]⟩)).set_ 1 (.string N)).set_ 2 (.string ⟨#[]⟩)).set_ 3 (.slice none 0 0)).set_ 4 (.slice none 0 0)).drew
    generalize ((((((W.setCell ⟨g7, 0, none⟩ (.string ⟨#[]⟩)).setCell ⟨g7, 1, none⟩ (.string N)).setCell ⟨g7, 2, none⟩ (.string ⟨#[]⟩)).setCell ⟨g7, 3, none⟩ (.slice none 0 0)).setCell ⟨g7, 4, none⟩ (.slice none 0 0)).drew) = V at *
    have r0 := hV.cell 0
    have r1 := hV.cell 1
    have r2 := hV.cell 2
    have r3 := hV.cell 3
    have r4 := hV.cell 4
    clear a0 a1 a2 a3 a4 e0 e1 e2 e3 e4 z0 z1 z2 z3 z4 hV
    go_wp2
    refine bodyPost_ret (v := .tuple #[.string ⟨#[]⟩, .string N, .bool true, .agg #[.string ⟨#[]⟩, .string N, .string ⟨#[]⟩, .slice none 0 0, .slice none 0 0], .int .i64 0]) (by simp [results, Tryd.results51, go_sem, r0, r1, r2, r3, r4]) rfl ⟨rfl, ⟨q3 + 1 + 1, ?_, hq4.out.app (s := [62])⟩, ?_⟩
    · exact ((h5.out.below b6.out).below hw67.out).belowB hBV.out hLlt hRlt hAlt.out
    · exact ((Fr.of_below hb0.out).trans (F.out.trans (Fr.of_below hw67.out))).tail hBV.out
end Go.Proofs.YtgomlebemefdcaaDoor

/- Nodes in memory. No condition. -/
namespace Go.Proofs.YtgomlebemefdcaaDoor
open Go Go.RowKit Go.Wk Go.Xt Go.Xe
def atV (l : List (List UInt8 × List UInt8)) : List Value := l.flatMap fun a => [str [], str a.1, str a.2]
/-- attributes in memory: in which block -/
def AtA (w : World) (l : List (List UInt8 × List UInt8)) (v : Value) (b : List Nat) : Prop :=
  (l = [] ∧ v = .slice none 0 0 ∧ b = []) ∨ ∃ g cap, v = .slice (some ⟨g, 0, none⟩) l.length cap ∧ w.ownsRow 0 34 3 v l.length (atV l) ∧ b = [g]
mutual
inductive NdAt (w : World) : Nd → List Value → List Nat → Prop
  | el (nm : List UInt8) (l : List (List UInt8 × List UInt8)) (ks : List Nd) (va vk : Value) (ba bk : List Nat) : AtA w l va ba → KsAt w ks vk bk → NdAt w (.el nm l ks) [str [], str nm, str [], va, vk] (ba ++ bk)
  | tx (t : List UInt8) : NdAt w (.tx t) [str [], str [], str t, .slice none 0 0, .slice none 0 0] []
inductive KsAt (w : World) : List Nd → Value → List Nat → Prop
  | nil : KsAt w [] (.slice none 0 0) []
  | row (ks : List Nd) (g cap : Nat) (vs : List Value) (b : List Nat) : w.ownsRow 0 27 5 (.slice (some ⟨g, 0, none⟩) ks.length cap) ks.length vs → RwAt w ks vs b → KsAt w ks (.slice (some ⟨g, 0, none⟩) ks.length cap) (g :: b)
inductive RwAt (w : World) : List Nd → List Value → List Nat → Prop
  | nil : RwAt w [] [] []
  | cons (k : Nd) (ks : List Nd) (vs vss : List Value) (b bs : List Nat) : NdAt w k vs b → RwAt w ks vss bs → RwAt w (k :: ks) (vs ++ vss) (b ++ bs)
end
theorem own_same {w w' : World} {base e s n g cap : Nat} {xs : List Value} (h : w.ownsRow base e s (.slice (some ⟨g, 0, none⟩) n cap) n xs) (hg : w'.heap[g]? = w.heap[g]?) : w'.ownsRow base e s (.slice (some ⟨g, 0, none⟩) n cap) n xs := by
  refine ⟨h.1, ?_⟩
  rcases h.2 with ⟨h2, _⟩ | ⟨g', cap', cur, e1, hB, hh, rest⟩
  · cases h2
  · cases e1
    exact .inr ⟨g, cap, cur, rfl, hB, hg.trans hh, rest⟩
theorem AtA.keep {w w' : World} {l : List (List UInt8 × List UInt8)} {v : Value} {b : List Nat} (h : AtA w l v b) (hk : ∀ k ∈ b, w'.heap[k]? = w.heap[k]?) : AtA w' l v b := by
  rcases h with h | ⟨g, cap, rfl, ho, rfl⟩
  · exact .inl h
  · exact .inr ⟨g, cap, rfl, own_same ho (hk g (by simp)), rfl⟩
mutual
theorem NdAt.keep {w w' : World} {n : Nd} {vs : List Value} {b : List Nat} : NdAt w n vs b → (∀ k ∈ b, w'.heap[k]? = w.heap[k]?) → NdAt w' n vs b
  | .el nm l ks va vk ba bk h1 h2, hk => .el nm l ks va vk ba bk (h1.keep fun k h => hk k (by simp [h])) (KsAt.keep h2 fun k h => hk k (by simp [h]))
  | .tx t, _ => .tx t
theorem KsAt.keep {w w' : World} {ks : List Nd} {v : Value} {b : List Nat} : KsAt w ks v b → (∀ k ∈ b, w'.heap[k]? = w.heap[k]?) → KsAt w' ks v b
  | .nil, _ => .nil
  | .row ks g cap vs b h1 h2, hk => .row ks g cap vs b (own_same h1 (hk g (by simp))) (RwAt.keep h2 fun k h => hk k (by simp [h]))
theorem RwAt.keep {w w' : World} {ks : List Nd} {vs : List Value} {b : List Nat} : RwAt w ks vs b → (∀ k ∈ b, w'.heap[k]? = w.heap[k]?) → RwAt w' ks vs b
  | .nil, _ => .nil
  | .cons k ks vs vss b bs h1 h2, hk => .cons k ks vs vss b bs (NdAt.keep h1 fun k h => hk k (by simp [h])) (RwAt.keep h2 fun k h => hk k (by simp [h]))
end
theorem RwAt.snoc {w : World} {ks : List Nd} {vs : List Value} {b : List Nat} {k : Nd} {us : List Value} {bk : List Nat} (h : RwAt w ks vs b) (hk : NdAt w k us bk) : RwAt w (ks ++ [k]) (vs ++ us) (b ++ bk) := by
  induction ks generalizing vs b with
  | nil =>
    cases h
    have := RwAt.cons k [] us [] bk [] hk .nil
    simpa using this
  | cons x ks ih =>
    cases h with
    | cons _ _ vs1 vs2 b1 b2 h1 h2 =>
      have := RwAt.cons x (ks ++ [k]) vs1 (vs2 ++ us) b1 (b2 ++ bk) h1 (ih h2)
      simpa [List.append_assoc] using this
theorem NdAt.five {w : World} {n : Nd} {vs : List Value} {b : List Nat} (h : NdAt w n vs b) : vs.length = 5 := by
  cases h <;> rfl
theorem RwAt.len {w : World} {ks : List Nd} {vs : List Value} {b : List Nat} (h : RwAt w ks vs b) : vs.length = 5 * ks.length := by
  induction ks generalizing vs b with
  | nil => cases h; rfl
  | cons x ks ih =>
    cases h with
    | cons _ _ vs1 vs2 b1 b2 h1 h2 => have := h1.five; have := ih h2; simp; omega
end Go.Proofs.YtgomlebemefdcaaDoor

/- The nodes that an element has, while they are gathered; lengths. No condition. -/
namespace Go.Proofs.YtgomlebemefdcaaDoor
open Go Go.RowKit Go.Wk Go.Xt Go.Xe
set_option maxRecDepth 100000 in
theorem node_info : ∃ i, Tryd.prog.info? 27 = some i ∧ i.zero = some (.agg #[.string ⟨#[]⟩, .string ⟨#[]⟩, .string ⟨#[]⟩, .slice none 0 0, .slice none 0 0]) ∧ i.size = 5 ∧ i.bytes = 96 := ⟨_, rfl, by kernel_rfl, by kernel_rfl, by kernel_rfl⟩
/-- nodes gathered: the row and what it names -/
structure Kids (B : Nat) (w : World) (v : Value) (done : List Nd) (vs : List Value) (b : List Nat) : Prop where
  own : w.ownsRow B 27 5 v done.length vs
  row : RwAt w done vs b
  bd : ∀ k ∈ b, B ≤ k ∧ k < w.heap.size
  off : ∀ k ∈ b, v.ownBlock ≠ some k
theorem Kids.nil (B : Nat) (w : World) : Kids B w (.slice none 0 0) [] [] [] := ⟨World.ownsRow_nil _ _ _ _, .nil, by simp, by simp⟩
theorem Kids.fr {L R B : Nat} {w w' : World} {v : Value} {done : List Nd} {vs : List Value} {b : List Nat} (h : Kids B w v done vs b) (f : Fr L R w w') (hL : L < B) (hR : R < B) : Kids B w' v done vs b :=
  ⟨own_fr h.own f hL hR, RwAt.keep h.row fun k hk => f.block k (h.bd k hk).2 (by have := (h.bd k hk).1; omega) (by have := (h.bd k hk).1; omega), fun k hk => ⟨(h.bd k hk).1, Nat.lt_of_lt_of_le (h.bd k hk).2 f.size⟩, h.off⟩
theorem Kids.add {B : Nat} {w w2 : World} {o : Obj} {v v' : Value} {done : List Nd} {vs us : List Value} {b bk : List Nat} {k : Nd} (h : Kids B w v done vs b) (hk : NdAt w k us bk) (hbk : ∀ j ∈ bk, B ≤ j ∧ j < w.heap.size) (hnk : ∀ j ∈ bk, v.ownBlock ≠ some j)
    (hown : w2.ownsRow B 27 5 v' (done.length + 1) (vs ++ us)) (hg : (w.alloc o).grownBy w2 v.ownBlock) (hat : v'.ownBlock = v.ownBlock ∨ v'.ownBlock = some (w.alloc o).heap.size) : Kids B w2 v' (done ++ [k]) (vs ++ us) (b ++ bk) := by
  have keep : ∀ j, j < w.heap.size → v.ownBlock ≠ some j → w2.heap[j]? = w.heap[j]? := fun j hj hn => by
    have h1 : j < (w.alloc o).heap.size := by rw [World.size_alloc]; omega
    exact (hg.block j h1 (fun e => hn e.symm)).trans (Below.heap_alloc _ _ _ hj)
  have hsz : w.heap.size < w2.heap.size := by have := hg.size; rw [World.size_alloc] at this; omega
  refine ⟨by simpa using hown, (RwAt.keep h.row fun j hj => keep j (h.bd j hj).2 (h.off j hj)).snoc (hk.keep fun j hj => keep j (hbk j hj).2 (hnk j hj)), fun j hj => ?_, fun j hj => ?_⟩
  · rcases List.mem_append.1 hj with h1 | h1
    · have := h.bd j h1; omega
    · have := hbk j h1; omega
  · have hlt : j < w.heap.size ∧ v.ownBlock ≠ some j := by
      rcases List.mem_append.1 hj with h1 | h1
      · exact ⟨(h.bd j h1).2, h.off j h1⟩
      · exact ⟨(hbk j h1).2, hnk j h1⟩
    rcases hat with e | e
    · rw [e]; exact hlt.2
    · rw [e, World.size_alloc]; intro e2; cases e2; omega
theorem Kids.ks {B : Nat} {w : World} {v : Value} {done : List Nd} {vs : List Value} {b : List Nat} (h : Kids B w v done vs b) : ∃ bk, KsAt w done v bk ∧ ∀ k ∈ bk, B ≤ k ∧ k < w.heap.size := by
  have hl := h.row.len
  rcases h.own.2 with ⟨rfl, h0⟩ | ⟨g, cap, cur, rfl, hB, hh, rest⟩
  · have : done = [] := List.eq_nil_of_length_eq_zero h0
    subst this
    exact ⟨[], .nil, by simp⟩
  · refine ⟨g :: b, .row done g cap vs b ⟨h.own.1, .inr ⟨g, cap, cur, rfl, Nat.zero_le _, hh, rest⟩⟩ h.row, fun k hk => ?_⟩
    rcases List.mem_cons.1 hk with rfl | hk
    · exact ⟨hB, (Array.getElem?_eq_some_iff.1 hh).1⟩
    · exact h.bd k hk
theorem Kids.v_lt {B : Nat} {w : World} {v : Value} {done : List Nd} {vs : List Value} {b : List Nat} (h : Kids B w v done vs b) : ∀ k, v.ownBlock = some k → k < w.heap.size := fun k hk => (h.own.lt k hk).2
theorem five_one (a0 a1 a2 : ByteArray) (a3 a4 : Value) (h3 : a3.oneCell' = true) (h4 : a4.oneCell' = true) : ∀ u ∈ [Value.string a0, .string a1, .string a2, a3, a4], u.oneCell' = true := by
  intro u hu
  simp at hu
  rcases hu with rfl | rfl | rfl | rfl | rfl
  · rfl
  · rfl
  · rfl
  · exact h3
  · exact h4
theorem five_new (w : World) (v0 v1 v2 v3 v4 : Value) (t : TypeId) : ∀ j u, [v0, v1, v2, v3, v4][j]? = some u → (w.alloc (.cells #[v0, v1, v2, v3, v4] t)).cell? ((⟨w.heap.size, 0, none⟩ : Addr).add j) = some u := by
  intro j u hj
  rw [Lib.add_plain, alloc_cell, ← hj]
  match j with
  | 0 => rfl
  | 1 => rfl
  | 2 => rfl
  | 3 => rfl
  | 4 => rfl
  | _ + 5 => rfl
/-! ### lengths -/
theorem name_len {r nm r1 : List UInt8} (h : r.drop nm.length = r1) : r1.length ≤ r.length := by rw [← h]; simp
theorem att_len {r r' : List UInt8} {a : List UInt8 × List UInt8} : Att r a r' → r'.length ≤ r.length
  | .mk _ nm r1 v q r2 r3 h1 h2 h3 h4 h5 h6 h7 r4 _ h9 => by
    have a1 := name_len h4
    have a2 := congrArg List.length h6
    have a3 := congrArg List.length h7
    have a4 := txt_len h9
    simp at a2 a3 a4
    omega
theorem atts_len {r r' : List UInt8} {l : List (List UInt8 × List UInt8)} : Atts r l r' → r'.length ≤ r.length
  | .nil _ r2 x hx _ => by have := congrArg List.length hx; simp at this; simp; omega
  | .one _ r1 r2 r3 a x x1 rc h1 h2 h3 h4 h5 h6 _ => by
    have a1 := congrArg List.length h2
    have a2 := att_len h5
    have a3 := congrArg List.length h6
    simp at a1 a2 a3 ⊢
    omega
theorem mark_len {r r' nm : List UInt8} {l : List (List UInt8 × List UInt8)} {cl : Bool} : Xe.Mark r nm l cl r' → r'.length < r.length
  | .open _ _ _ r1 r2 _ _ h3 _ h5 => by have a1 := name_len h3; have a2 := atts_len h5; simp at a2 ⊢; omega
  | .shut _ _ _ r1 r2 _ _ h3 _ h5 => by have a1 := name_len h3; have a2 := atts_len h5; simp at a2 ⊢; omega
theorem misc_le {r r' : List UInt8} {b : Bool} (h : Misc r b r') : r'.length ≤ r.length := by
  cases b with
  | true => exact Nat.le_of_lt (misc_len h)
  | false => cases h; exact Nat.le_refl _
mutual
theorem elem_len {d m m2 : Nat} {r r' : List UInt8} {n : Nd} : Elem d m r n m2 r' → r'.length < r.length
  | .shut d m r nm l r1 _ hM => mark_len hM
  | .open d m m2 r nm l r1 ks r2 r3 r4 _ hM hC _ h3 _ h5 => by
    have a1 := mark_len hM
    have a2 := cont_len hC
    have a3 := name_len h3
    have a4 := congrArg List.length h5
    simp at a4
    omega
theorem cont_len {d m m2 : Nat} {t r r' : List UInt8} {ks : List Nd} : Cont d m t r ks m2 r' → r'.length ≤ r.length
  | .skip d m m2 t r o r1 r2 ks r' hT hM hC => by have a1 := txt_len hT; have a2 := misc_len hM; have a3 := cont_len hC; omega
  | .done d m t r o r1 r2 hT hM h3 => by have a1 := txt_len hT; have := congrArg List.length h3; simp at this; omega
  | .elem d m m1 m2 t r o r1 r2 k ks r' hT hM h3 hE hC => by have a1 := txt_len hT; have a2 := elem_len hE; have a3 := cont_len hC; omega
end
end Go.Proofs.YtgomlebemefdcaaDoor

/- The document's nodes in memory. No condition. -/
namespace Go.Proofs.YtgomlebemefdcaaDoor
open Go Go.RowKit Go.Wk Go.Xt Go.Xe
/-- the document's attributes in memory -/
def RaAt (w : World) (l : List (List UInt8 × List UInt8)) (v : Value) (b : List Nat) : Prop :=
  (l = [] ∧ v = .slice none 0 0 ∧ b = []) ∨ ∃ g cap, v = .slice (some ⟨g, 0, none⟩) l.length cap ∧ w.ownsRow 0 49 3 v l.length (atV l) ∧ b = [g]
mutual
inductive RnAt (w : World) : Nd → List Value → List Nat → Prop
  | el (nm : List UInt8) (l : List (List UInt8 × List UInt8)) (ks : List Nd) (va vk : Value) (ba bk : List Nat) : RaAt w l va ba → RkAt w ks vk bk → RnAt w (.el nm l ks) [str [], str nm, str [], va, vk] (ba ++ bk)
  | tx (t : List UInt8) : RnAt w (.tx t) [str [], str [], str t, .slice none 0 0, .slice none 0 0] []
inductive RkAt (w : World) : List Nd → Value → List Nat → Prop
  | nil : RkAt w [] (.slice none 0 0) []
  | row (ks : List Nd) (g cap : Nat) (vs : List Value) (b : List Nat) : w.ownsRow 0 40 5 (.slice (some ⟨g, 0, none⟩) ks.length cap) ks.length vs → RrAt w ks vs b → RkAt w ks (.slice (some ⟨g, 0, none⟩) ks.length cap) (g :: b)
inductive RrAt (w : World) : List Nd → List Value → List Nat → Prop
  | nil : RrAt w [] [] []
  | cons (k : Nd) (ks : List Nd) (vs vss : List Value) (b bs : List Nat) : RnAt w k vs b → RrAt w ks vss bs → RrAt w (k :: ks) (vs ++ vss) (b ++ bs)
end
theorem RaAt.keep {w w' : World} {l : List (List UInt8 × List UInt8)} {v : Value} {b : List Nat} (h : RaAt w l v b) (hk : ∀ k ∈ b, w'.heap[k]? = w.heap[k]?) : RaAt w' l v b := by
  rcases h with h | ⟨g, cap, rfl, ho, rfl⟩
  · exact .inl h
  · exact .inr ⟨g, cap, rfl, own_same ho (hk g (by simp)), rfl⟩
mutual
theorem RnAt.keep {w w' : World} {n : Nd} {vs : List Value} {b : List Nat} : RnAt w n vs b → (∀ k ∈ b, w'.heap[k]? = w.heap[k]?) → RnAt w' n vs b
  | .el nm l ks va vk ba bk h1 h2, hk => .el nm l ks va vk ba bk (h1.keep fun k h => hk k (by simp [h])) (RkAt.keep h2 fun k h => hk k (by simp [h]))
  | .tx t, _ => .tx t
theorem RkAt.keep {w w' : World} {ks : List Nd} {v : Value} {b : List Nat} : RkAt w ks v b → (∀ k ∈ b, w'.heap[k]? = w.heap[k]?) → RkAt w' ks v b
  | .nil, _ => .nil
  | .row ks g cap vs b h1 h2, hk => .row ks g cap vs b (own_same h1 (hk g (by simp))) (RrAt.keep h2 fun k h => hk k (by simp [h]))
theorem RrAt.keep {w w' : World} {ks : List Nd} {vs : List Value} {b : List Nat} : RrAt w ks vs b → (∀ k ∈ b, w'.heap[k]? = w.heap[k]?) → RrAt w' ks vs b
  | .nil, _ => .nil
  | .cons k ks vs vss b bs h1 h2, hk => .cons k ks vs vss b bs (RnAt.keep h1 fun k h => hk k (by simp [h])) (RrAt.keep h2 fun k h => hk k (by simp [h]))
end
theorem RrAt.snoc {w : World} {ks : List Nd} {vs : List Value} {b : List Nat} {k : Nd} {us : List Value} {bk : List Nat} (h : RrAt w ks vs b) (hk : RnAt w k us bk) : RrAt w (ks ++ [k]) (vs ++ us) (b ++ bk) := by
  induction ks generalizing vs b with
  | nil =>
    cases h
    have := RrAt.cons k [] us [] bk [] hk .nil
    simpa using this
  | cons x ks ih =>
    cases h with
    | cons _ _ vs1 vs2 b1 b2 h1 h2 =>
      have := RrAt.cons x (ks ++ [k]) vs1 (vs2 ++ us) b1 (b2 ++ bk) h1 (ih h2)
      simpa [List.append_assoc] using this
theorem RnAt.five {w : World} {n : Nd} {vs : List Value} {b : List Nat} (h : RnAt w n vs b) : vs.length = 5 := by
  cases h <;> rfl
theorem RrAt.len {w : World} {ks : List Nd} {vs : List Value} {b : List Nat} (h : RrAt w ks vs b) : vs.length = 5 * ks.length := by
  induction ks generalizing vs b with
  | nil => cases h; rfl
  | cons x ks ih =>
    cases h with
    | cons _ _ vs1 vs2 b1 b2 h1 h2 => have := h1.five; have := ih h2; simp; omega
/-- the document's nodes, while they are gathered -/
structure RKids (B : Nat) (w : World) (v : Value) (done : List Nd) (vs : List Value) (b : List Nat) : Prop where
  own : w.ownsRow B 40 5 v done.length vs
  row : RrAt w done vs b
  bd : ∀ k ∈ b, B ≤ k ∧ k < w.heap.size
  off : ∀ k ∈ b, v.ownBlock ≠ some k
theorem RKids.nil (B : Nat) (w : World) : RKids B w (.slice none 0 0) [] [] [] := ⟨World.ownsRow_nil _ _ _ _, .nil, by simp, by simp⟩
theorem RKids.ks {B : Nat} {w : World} {v : Value} {done : List Nd} {vs : List Value} {b : List Nat} (h : RKids B w v done vs b) : ∃ bk, RkAt w done v bk ∧ ∀ k ∈ bk, B ≤ k ∧ k < w.heap.size := by
  rcases h.own.2 with ⟨rfl, h0⟩ | ⟨g, cap, cur, rfl, hB, hh, rest⟩
  · have : done = [] := List.eq_nil_of_length_eq_zero h0
    subst this
    exact ⟨[], .nil, by simp⟩
  · refine ⟨g :: b, .row done g cap vs b ⟨h.own.1, .inr ⟨g, cap, cur, rfl, Nat.zero_le _, hh, rest⟩⟩ h.row, fun k hk => ?_⟩
    rcases List.mem_cons.1 hk with rfl | hk
    · exact ⟨hB, (Array.getElem?_eq_some_iff.1 hh).1⟩
    · exact h.bd k hk
/-- a row of nodes: each node by itself -/
theorem RwAt.get {w : World} : ∀ {ks : List Nd} {vs : List Value} {b : List Nat}, RwAt w ks vs b → ∀ i k, ks[i]? = some k → ∃ us bk, NdAt w k us bk ∧ (∀ j ∈ bk, j ∈ b) ∧ (∀ j, j < 5 → vs[5 * i + j]? = us[j]?)
  | [], _, _, _, i, k, hk => by simp at hk
  | x :: ks, _, _, .cons _ _ vs1 vs2 b1 b2 h1 h2, i, k, hk => by
    have h5 := h1.five
    cases i with
    | zero =>
      simp at hk; subst hk
      exact ⟨vs1, b1, h1, fun j hj => by simp [hj], fun j hj => by rw [List.getElem?_append_left (by omega)]; simp⟩
    | succ i =>
      simp at hk
      obtain ⟨us, bk, a1, a2, a3⟩ := RwAt.get h2 i k hk
      refine ⟨us, bk, a1, fun j hj => by simp [a2 j hj], fun j hj => ?_⟩
      rw [List.getElem?_append_right (by omega), h5, ← a3 j hj]
      congr 1; omega
theorem RrAt.get {w : World} : ∀ {ks : List Nd} {vs : List Value} {b : List Nat}, RrAt w ks vs b → ∀ i k, ks[i]? = some k → ∃ us bk, RnAt w k us bk ∧ (∀ j ∈ bk, j ∈ b) ∧ (∀ j, j < 5 → vs[5 * i + j]? = us[j]?)
  | [], _, _, _, i, k, hk => by simp at hk
  | x :: ks, _, _, .cons _ _ vs1 vs2 b1 b2 h1 h2, i, k, hk => by
    have h5 := h1.five
    cases i with
    | zero =>
      simp at hk; subst hk
      exact ⟨vs1, b1, h1, fun j hj => by simp [hj], fun j hj => by rw [List.getElem?_append_left (by omega)]; simp⟩
    | succ i =>
      simp at hk
      obtain ⟨us, bk, a1, a2, a3⟩ := RrAt.get h2 i k hk
      refine ⟨us, bk, a1, fun j hj => by simp [a2 j hj], fun j hj => ?_⟩
      rw [List.getElem?_append_right (by omega), h5, ← a3 j hj]
      congr 1; omega
end Go.Proofs.YtgomlebemefdcaaDoor

/- The document's nodes, gathered: one more. No condition. -/
namespace Go.Proofs.YtgomlebemefdcaaDoor
open Go Go.RowKit Go.Wk Go.Xt Go.Xe
/-- nodes that are not too wide -/
inductive Sm : Nd → Prop
  | tx (t : List UInt8) : Sm (.tx t)
  | el (nm : List UInt8) (l : List (List UInt8 × List UInt8)) (ks : List Nd) : l.length ≤ 1 → ks.length ≤ 200000 → (∀ k ∈ ks, Sm k) → Sm (.el nm l ks)
def NodeOf (w : World) (n : Nd) (e : Ending) (w' : World) : Prop :=
  ∃ (U0 U1 U2 : ByteArray) (a3 : Option Addr) (n3 c3 : Nat) (a4 : Option Addr) (n4 c4 : Nat) (b : List Nat), e = .returned (.agg #[.string U0, .string U1, .string U2, .slice a3 n3 c3, .slice a4 n4 c4]) ∧ RnAt w' n [.string U0, .string U1, .string U2, .slice a3 n3 c3, .slice a4 n4 c4] b ∧ (∀ k ∈ b, w.heap.size ≤ k ∧ k < w'.heap.size) ∧ Below w.heap.size w w'
theorem own_below {w w' : World} {B e s n : Nat} {v : Value} {xs : List Value} (h : w.ownsRow B e s v n xs) (hb : Below w.heap.size w w') : w'.ownsRow B e s v n xs := by
  refine ⟨h.1, ?_⟩
  rcases h.2 with h2 | ⟨g, cap, cur, e1, hB, hh, rest⟩
  · exact .inl h2
  · exact .inr ⟨g, cap, cur, e1, hB, (hb.block g (by
      rcases Nat.lt_or_ge g w.heap.size with h' | h'
      · exact h'
      · rw [Array.getElem?_eq_none h'] at hh; cases hh)).trans hh, rest⟩
theorem own_far {w : World} {B e s n : Nat} {v u : Value} {xs : List Value} {p : Addr} (h : w.ownsRow B e s v n xs) (hp : p.block < B) : (w.setCell p u).ownsRow B e s v n xs := by
  refine ⟨h.1, ?_⟩
  rcases h.2 with h2 | ⟨g, cap, cur, e1, hB, hh, rest⟩
  · exact .inl h2
  · exact .inr ⟨g, cap, cur, e1, hB, (Below.heap_setCell w p u g (by omega)).trans hh, rest⟩
theorem RKids.add {B : Nat} {W w w5 : World} {v v5 u : Value} {p : Addr} {done : List Nd} {vs us : List Value} {b bk : List Nat} {k : Nd} (h : RKids B W v done vs b) (hb : Below W.heap.size W w) (hk : RnAt w k us bk) (hbk : ∀ j ∈ bk, W.heap.size ≤ j ∧ j < w.heap.size) (hBW : B ≤ W.heap.size)
    (hown : w5.ownsRow B 40 5 v5 (done.length + 1) (vs ++ us)) (hg : w.grownBy w5 v.ownBlock) (hat : v5.ownBlock = v.ownBlock ∨ v5.ownBlock = some w.heap.size) (hp : p.block < B) : RKids B (w5.setCell p u) v5 (done ++ [k]) (vs ++ us) (b ++ bk) := by
  have hvl : ∀ j, v.ownBlock = some j → j < W.heap.size := fun j hj => (h.own.lt j hj).2
  have hs := hb.size
  have keep : ∀ j, B ≤ j → j < w.heap.size → v.ownBlock ≠ some j → (w5.setCell p u).heap[j]? = w.heap[j]? := fun j hBj hj hn =>
    (Below.heap_setCell w5 p u j (by omega)).trans (hg.block j hj (fun e => hn e.symm))
  have hsz : w.heap.size ≤ w5.heap.size := hg.size
  have hz : (w5.setCell p u).heap.size = w5.heap.size := by simp [World.setCell]
  have off2 : ∀ j ∈ bk, v.ownBlock ≠ some j := fun j hj e => by have := hvl j e; have := hbk j hj; omega
  refine ⟨by simpa using own_far hown hp, (RrAt.keep h.row fun j hj => (keep j (h.bd j hj).1 (by have := (h.bd j hj).2; omega) (h.off j hj)).trans (hb.block j (h.bd j hj).2)).snoc (hk.keep fun j hj => keep j (by have := hbk j hj; omega) (hbk j hj).2 (off2 j hj)), fun j hj => ?_, fun j hj => ?_⟩
  · rw [hz]
    rcases List.mem_append.1 hj with h1 | h1
    · have := h.bd j h1; omega
    · have := hbk j h1; omega
  · have hlt : j < w.heap.size ∧ v.ownBlock ≠ some j := by
      rcases List.mem_append.1 hj with h1 | h1
      · exact ⟨by have := (h.bd j h1).2; omega, h.off j h1⟩
      · exact ⟨(hbk j h1).2, off2 j h1⟩
    rcases hat with e | e
    · rw [e]; exact hlt.2
    · rw [e]; intro e2; cases e2; omega
theorem RaAt.far {w : World} {l : List (List UInt8 × List UInt8)} {v u : Value} {b : List Nat} {p : Addr} (h : RaAt w l v b) (hp : ∀ k ∈ b, k ≠ p.block) : RaAt (w.setCell p u) l v b :=
  h.keep fun k hk => Below.heap_setCell w p u k (hp k hk)
/-- a node's five values -/
theorem NdAt.shape {w : World} {n : Nd} {vs : List Value} {b : List Nat} (h : NdAt w n vs b) : ∃ (U0 U1 U2 : ByteArray) (a3 : Option Addr) (n3 c3 : Nat) (a4 : Option Addr) (n4 c4 : Nat), vs = [.string U0, .string U1, .string U2, .slice a3 n3 c3, .slice a4 n4 c4] := by
  cases h with
  | tx t => exact ⟨_, _, _, _, _, _, _, _, _, rfl⟩
  | el nm l ks va vk ba bk ha hk =>
    have h1 : ∃ a n c, va = .slice a n c := by
      rcases ha with ⟨_, rfl, _⟩ | ⟨g, cap, rfl, _⟩
      · exact ⟨_, _, _, rfl⟩
      · exact ⟨_, _, _, rfl⟩
    have h2 : ∃ a n c, vk = .slice a n c := by
      cases hk with
      | nil => exact ⟨_, _, _, rfl⟩
      | row ks g cap vs b _ _ => exact ⟨_, _, _, rfl⟩
    obtain ⟨a, n, c, rfl⟩ := h1
    obtain ⟨a', n', c', rfl⟩ := h2
    exact ⟨_, _, _, _, _, _, _, _, _, rfl⟩
theorem RnAt.shape {w : World} {n : Nd} {vs : List Value} {b : List Nat} (h : RnAt w n vs b) : ∃ (U0 U1 U2 : ByteArray) (a3 : Option Addr) (n3 c3 : Nat) (a4 : Option Addr) (n4 c4 : Nat), vs = [.string U0, .string U1, .string U2, .slice a3 n3 c3, .slice a4 n4 c4] := by
  cases h with
  | tx t => exact ⟨_, _, _, _, _, _, _, _, _, rfl⟩
  | el nm l ks va vk ba bk ha hk =>
    have h1 : ∃ a n c, va = .slice a n c := by
      rcases ha with ⟨_, rfl, _⟩ | ⟨g, cap, rfl, _⟩
      · exact ⟨_, _, _, rfl⟩
      · exact ⟨_, _, _, rfl⟩
    have h2 : ∃ a n c, vk = .slice a n c := by
      cases hk with
      | nil => exact ⟨_, _, _, rfl⟩
      | row ks g cap vs b _ _ => exact ⟨_, _, _, rfl⟩
    obtain ⟨a, n, c, rfl⟩ := h1
    obtain ⟨a', n', c', rfl⟩ := h2
    exact ⟨_, _, _, _, _, _, _, _, _, rfl⟩
theorem own_cells {w : World} {B e s n g cap : Nat} {xs : List Value} (h : w.ownsRow B e s (.slice (some ⟨g, 0, none⟩) n cap) n xs) : ∀ j, j < n * s → w.cell? ⟨g, j, none⟩ = xs[j]? := by
  intro j hj
  exact h.cellAt j hj
end Go.Proofs.YtgomlebemefdcaaDoor

/- The reader reads an attribute. No condition. -/
namespace Go.Proofs.YtgomlebemefdcaaDoor
open Go Go.RowKit Go.Wk Go.Xt Go.Xe
def put3 (W : World) (g : Nat) (v0 v1 v2 : Value) : World := ((W.setCell ⟨g, 0, none⟩ v0).setCell ⟨g, 1, none⟩ v1).setCell ⟨g, 2, none⟩ v2
theorem put3_save (W : World) (g : Nat) (v0 v1 v2 : Value) : Save g W (put3 W g v0 v1 v2) := (((Save.refl g W).store 0 v0).store 1 v1).store 2 v2
theorem put3_blk {W : World} {g : Nat} {t : TypeId} {u0 u1 u2 : Value} (h : Blk W g t #[u0, u1, u2]) (v0 v1 v2 : Value) : Blk (put3 W g v0 v1 v2) g t #[v0, v1, v2] := ((h.set_ 0 v0).set_ 1 v1).set_ 2 v2
set_option maxHeartbeats 4000000 in
set_option maxRecDepth 100000 in
theorem xml_attr {w : World} {L R c p many : Nat} {A : Option Addr} {bs r r' : List UInt8} {a : List UInt8 × List UInt8} (h : RS w L R A c bs p many) (hr : Rest bs p r) (hA : Att r a r') :
    Calls Tryd.prog 65 #[.pointer (some ⟨R, 0, none⟩)] w fun e w' => e = .returned (.tuple #[.agg #[.string ⟨#[]⟩, str a.1, str a.2], .int .i64 0]) ∧ End w L R A c bs many r' w' := by
  have hb0 : Below w.heap.size w (w.alloc (.cells #[.string ⟨#[]⟩, .string ⟨#[]⟩, .string ⟨#[]⟩] 118)) := (Below.refl _ _).alloc (Nat.le_refl _) _
  have h0 := h.below hb0
  have hnew := Blk.new w 118 #[.string ⟨#[]⟩, .string ⟨#[]⟩, .string ⟨#[]⟩]
  have hRlt := h.rdr.lt
  have hLlt := h.cur.L_lt
  have hAlt := Lib.hid h.A_lt
  cases hA with
  | mk nm r1 v q r2 r3 hn hne hnx hd hno hw1 hw2 hqq r4 hT =>
    obtain ⟨N, hN⟩ : ∃ N : ByteArray, (⟨nm.toArray⟩ : ByteArray) = N := ⟨_, rfl⟩
    have hN2 : str nm = .string N := by rw [← hN]; rfl
    obtain ⟨V, hV⟩ : ∃ N : ByteArray, (⟨v.toArray⟩ : ByteArray) = N := ⟨_, rfl⟩
    have hV2 : str v = .string V := by rw [← hV]; rfl
    have cf := xml_full h0 hr hn hne (by rw [hd]; exact hno)
    rw [hd] at cf
    simp only [hN2] at cf
    have k1 : ∀ W p1, RS W L R A c bs p1 many → Rest bs p1 r1 → Calls Tryd.prog 49 #[.pointer (some ⟨R, 0, none⟩)] W fun e w' => e = .returned (.int .i64 (ws r1 : Nat)) ∧ (RS w' L R A c bs (p1 + ws r1) many ∧ Rest bs (p1 + ws r1) (61 :: r2)) ∧ Fr L R W w' := fun W p1 hW hq => by
      have hq2 := hq.ws_
      rw [hw1] at hq2
      exact (xml_blank hW hq.eq).mono fun e w' k => ⟨k.1, ⟨k.2.1, hq2⟩, k.2.2⟩
    have k2 : ∀ W p1, RS W L R A c bs p1 many → Rest bs p1 (61 :: r2) → Calls Tryd.prog 54 #[.pointer (some ⟨L, 0, none⟩), .string ⟨#[61]⟩] W fun e w' => e = .returned (.bool true) ∧ (RS w' L R A c bs (p1 + 1) many ∧ Rest bs (p1 + 1) r2) ∧ Fr L R W w' := fun W p1 hW hq =>
      (rs_yes hW ⟨#[61]⟩ r2 (by decide) (by decide) hq.eq).mono fun e w' k => ⟨k.1, ⟨k.2.1, hq.app (s := [61])⟩, k.2.2⟩
    have k3 : ∀ W p1, RS W L R A c bs p1 many → Rest bs p1 r2 → Calls Tryd.prog 49 #[.pointer (some ⟨R, 0, none⟩)] W fun e w' => e = .returned (.int .i64 (ws r2 : Nat)) ∧ (RS w' L R A c bs (p1 + ws r2) many ∧ Rest bs (p1 + ws r2) (q :: r3)) ∧ Fr L R W w' := fun W p1 hW hq => by
      have hq2 := hq.ws_
      rw [hw2] at hq2
      exact (xml_blank hW hq.eq).mono fun e w' k => ⟨k.1, ⟨k.2.1, hq2⟩, k.2.2⟩
    have k4 : ∀ (r5 : List UInt8) W p1, RS W L R A c bs p1 many → Rest bs p1 (q :: r5) → Calls Tryd.prog 59 #[.pointer (some ⟨L, 0, none⟩)] W fun e w' => e = .returned (.int .i64 (q.toNat : Int)) ∧ (RS w' L R A c bs (p1 + 1) many ∧ Rest bs (p1 + 1) r5) ∧ Fr L R W w' := fun r5 W p1 hW hq => by
      have := rs_next hW
      rw [peek_cons hq.eq, if_pos (drop_one hq.eq).2] at this
      exact this.mono fun e w' k => ⟨k.1, ⟨k.2.1, hq.app (s := [q])⟩, k.2.2⟩
    have k4a := k4 r3
    have k4b := k4 r'
    have k5 := fun W p1 (hW : RS W L R A c bs p1 many) (hq : Rest bs p1 r3) => xml_text (q.toNat : Int) ⟨by omega, by have := q.toNat_lt; omega⟩ hW hq hT
    simp only [hV2] at k5
    have hx3 : (q.toNat : Int) = 34 ∨ (q.toNat : Int) = 39 := by rcases hqq with rfl | rfl; exact .inl rfl; exact .inr rfl
    have cps := fun (w : World) => xml_passed (w := w) true
    simp only [if_true] at cps
    show Calls Tryd.prog 65 #[.pointer (some ⟨R, 0, none⟩)] w fun e w' => e = .returned (.tuple #[.agg #[.string ⟨#[]⟩, str nm, str v], .int .i64 0]) ∧ End w L R A c bs many r' w'
    rw [hN2, hV2]
    replace k1 := Lib.hid k1
    replace k2 := Lib.hid k2
    replace k3 := Lib.hid k3
    replace k4a := Lib.hid k4a
    replace k4b := Lib.hid k4b
    replace k5 := Lib.hid k5
    replace h0 := Lib.hid h0
    replace hnew := Lib.hid hnew
    replace hb0 := Lib.hid hb0
    clear hn hne hnx hd hno hw1 hw2 hqq hT h hr hN hN2 hV hV2 k4
    generalize hX : (q.toNat : Int) = X at *
    generalize ws r1 = m1 at *
    generalize ws r2 = m2 at *
    clear hX
    rcases hx3 with rfl | rfl
    all_goals
      go_enter Tryd.func65, Tryd.ntmps65
      go_wp2_with (first
        | (go_at_call 53; (with_reducible refine cf.mono ?_); rintro e w1 ⟨rfl, ⟨⟨p1, h1, q1⟩, f1⟩⟩; have g1 := k1.out w1 p1 h1 q1; replace f1 := Lib.hid f1; replace h1 := Lib.hid h1; replace q1 := Lib.hid q1)
        | (go_at_call 49; (with_reducible refine g1.mono ?_); rintro e w2 ⟨rfl, ⟨h2, q2⟩, f2⟩; have g2 := k2.out w2 _ h2 q2; have c2 := h2.rdr.cell 0; replace f2 := Lib.hid f2; replace h2 := Lib.hid h2; replace q2 := Lib.hid q2)
        | (go_at_call 54; (with_reducible refine g2.mono ?_); rintro e w3 ⟨rfl, ⟨h3, q3⟩, f3⟩; have g3 := k3.out w3 _ h3 q3; replace f3 := Lib.hid f3; replace h3 := Lib.hid h3; replace q3 := Lib.hid q3)
        | (go_at_call 49; (with_reducible refine g3.mono ?_); rintro e w4 ⟨rfl, ⟨h4, q4⟩, f4⟩; have g4 := k4a.out w4 _ h4 q4; have c4 := h4.rdr.cell 0; replace f4 := Lib.hid f4; replace h4 := Lib.hid h4; replace q4 := Lib.hid q4)
        | (go_at_call 59; (with_reducible refine g4.mono ?_); rintro e w5 ⟨rfl, ⟨h5, q5⟩, f5⟩; have g5 := k5.out w5 _ h5 q5; replace f5 := Lib.hid f5; replace h5 := Lib.hid h5; replace q5 := Lib.hid q5)
        | (go_at_call 63; (with_reducible refine g5.mono ?_); rintro e w6 ⟨rfl, ⟨⟨p6, h6, q6⟩, f6⟩⟩; have g6 := k4b.out w6 _ h6 q6; have c6 := h6.rdr.cell 0; replace f6 := Lib.hid f6; replace h6 := Lib.hid h6; replace q6 := Lib.hid q6)
        | (go_at_call 59; (with_reducible refine g6.mono ?_); rintro e w7 ⟨rfl, ⟨h7, q7⟩, f7⟩; have F := ((((((f1.out.trans f2.out).trans f3.out).trans f4.out).trans f5.out).trans f6.out).trans f7); have hz : Blk w7 w.heap.size 118 #[.string ⟨#[]⟩, .string ⟨#[]⟩, .string ⟨#[]⟩] := (F.block w.heap.size (by simp) (by omega) (by omega)).trans hnew.out; have a0 := hz.cell 0; have a1 := hz.cell 1; have a2 := hz.cell 2; have y0 := hz.frozen 0; have y1 := hz.frozen 1; have y2 := hz.frozen 2; replace hz := Lib.hid hz; replace F := Lib.hid F; replace f7 := Lib.hid f7; replace h7 := Lib.hid h7; replace q7 := Lib.hid q7)
        | (go_at_call 41; (with_reducible refine (cps _).mono ?_); rintro e w8 ⟨rfl, rfl⟩))
      have hV := put3_blk hz.out (.string ⟨#[]⟩) (.string N) (.string V)
      have hSV := put3_save w7 w.heap.size (.string ⟨#[]⟩) (.string N) (.string V)
      unfold put3 at hV hSV
      obtain ⟨U, hU⟩ : ∃ U, U = ((w7.setCell ⟨w.heap.size, 0, none⟩ (.string ⟨#[]⟩)).setCell ⟨w.heap.size, 1, none⟩ (.string N)).setCell ⟨w.heap.size, 2, none⟩ (.string V) := ⟨_, rfl⟩
      rw [← hU] at hV hSV ⊢
      have r0 := hV.cell 0
      have r1 := hV.cell 1
      have r2 := hV.cell 2
      have hF0 := (Fr.of_below hb0.out).trans F.out
      have hBU : Below w.heap.size w7 U := hSV.below (Nat.le_refl _) hF0.size
      refine bodyPost_ret (v := .tuple #[.agg #[.string ⟨#[]⟩, .string N, .string V], .int .i64 0]) (by simp [results, Tryd.results65, go_sem, r0, r1, r2]) rfl ⟨rfl, ⟨_, h7.out.belowB hBU hLlt hRlt hAlt.out, q7.out⟩, hF0.tail hBU⟩
end Go.Proofs.YtgomlebemefdcaaDoor

/- Contracts of the cursor. No condition. -/
import Derived.Test.YtgomlebemefdcaaDoorXeBase
namespace Go.Proofs.YtgomlebemefdcaaDoor
open Go Go.RowKit Go.Wk
/-- what was there is there as it was, but for one block -/
structure Save (L : Nat) (w w' : World) : Prop where
  os : w'.os = w.os
  tape : w'.tape = w.tape
  output : w'.output = w.output
  size : w.heap.size ≤ w'.heap.size
  block : ∀ k, k < w.heap.size → k ≠ L → w'.heap[k]? = w.heap[k]?
theorem Save.refl (L : Nat) (w : World) : Save L w w := ⟨rfl, rfl, rfl, Nat.le_refl _, fun _ _ _ => rfl⟩
theorem Save.trans {L : Nat} {a b c : World} (h : Save L a b) (k : Save L b c) : Save L a c :=
  ⟨k.os.trans h.os, k.tape.trans h.tape, k.output.trans h.output, Nat.le_trans h.size k.size, fun j hj hn => (k.block j (Nat.lt_of_lt_of_le hj h.size) hn).trans (h.block j hj hn)⟩
theorem Save.drawn {L : Nat} {a b : World} (h : Save L a b) (n : Nat) : Save L a (b.drewN n) := ⟨h.os, h.tape, h.output, h.size, h.block⟩
theorem Save.store {L : Nat} {a b : World} (h : Save L a b) (o : Nat) (u : Value) : Save L a (b.setCell ⟨L, o, none⟩ u) :=
  h.trans ⟨rfl, rfl, rfl, by simp [World.setCell], fun k _ hn => Below.heap_setCell _ _ _ _ hn⟩
theorem Save.cell {L : Nat} {a b : World} (h : Save L a b) {p : Addr} (hn : p.block ≠ L) (hp : p.block < a.heap.size) : b.cell? p = a.cell? p := World.cell?_of_block (w := a) (h.block p.block hp hn)
theorem Save.of_below {L : Nat} {a b : World} (h : Below a.heap.size a b) : Save L a b := ⟨h.os, h.tape, h.output, h.size, fun k hk _ => h.block k hk⟩
theorem Save.below {L B : Nat} {a b : World} (h : Save L a b) (hL : B ≤ L) (hB : B ≤ a.heap.size) : Below B a b := ⟨h.os, h.tape, h.output, h.size, fun k hk => h.block k (by omega) (by omega)⟩
theorem Save.byt {L : Nat} {a b : World} {A : Option Addr} {bs : List UInt8} (h : Save L a b) (hn : 0 < bs.length → ∀ x, A = some x → x.block ≠ L) (hb : Byt a A bs) : Byt b A bs := by
  refine ⟨hb.1, fun h0 => ?_⟩
  obtain ⟨g, o, e, hc⟩ := hb.2 h0
  refine ⟨g, o, e, fun i hi => ?_⟩
  rw [h.cell (p := ⟨g, o + i, none⟩) (show g ≠ L from hn h0 _ e) (cell_lt (hc i hi))]
  exact hc i hi
structure Cur (w0 w : World) (L : Nat) (A : Option Addr) (c : Nat) (bs : List UInt8) (at' : Nat) : Prop where
  ne : 0 < bs.length → ∀ x, A = some x → x.block ≠ L
  bel : Save L w0 w
  cb : w.cell? ⟨L, 0, none⟩ = some (.slice A bs.length c)
  ca : w.cell? ⟨L, 1, none⟩ = some (.int .i64 (at' : Nat))
  fr : w.frozen? ⟨L, 1, none⟩ = false
  byt : Byt w0 A bs
  le : at' ≤ bs.length
  small : bs.length ≤ 100000
theorem Cur.drawn {w0 w : World} {L : Nat} {A : Option Addr} {c : Nat} {bs : List UInt8} {p : Nat} (h : Cur w0 w L A c bs p) (n : Nat) : Cur w0 (w.drewN n) L A c bs p :=
  ⟨h.ne, h.bel.drawn n, h.cb, h.ca, h.fr, h.byt, h.le, h.small⟩
theorem Cur.go {w0 w : World} {L : Nat} {A : Option Addr} {c : Nat} {bs : List UInt8} {p : Nat} (h : Cur w0 w L A c bs p) (q : Nat) (hq : q ≤ bs.length) : Cur w0 (w.setCell ⟨L, 1, none⟩ (.int .i64 (q : Nat))) L A c bs q := by
  refine ⟨h.ne, h.bel.store _ _, ?_, World.cell?_setCell_same _ _ _ h.ca, ?_, h.byt, hq, h.small⟩
  · rw [World.cell?_setCell_other _ _ _ _ (by intro e; cases e)]; exact h.cb
  · simp [h.fr]
/-- the base is where it stands -/
theorem Cur.here {w0 w : World} {L : Nat} {A : Option Addr} {c : Nat} {bs : List UInt8} {p : Nat} (h : Cur w0 w L A c bs p) : Cur w w L A c bs p :=
  ⟨h.ne, Save.refl _ _, h.cb, h.ca, h.fr, h.bel.byt h.ne h.byt, h.le, h.small⟩
/-- the byte at the place; -1: none -/
def peekS (bs : List UInt8) (p : Nat) : Int := match bs[p]? with | some b => (b.toNat : Int) | none => -1
set_option maxHeartbeats 1000000 in
set_option maxRecDepth 100000 in
theorem cur_peek {w0 w : World} {L : Nat} {A : Option Addr} {c : Nat} {bs : List UInt8} {p : Nat} (h : Cur w0 w L A c bs p) :
    Calls Tryd.prog 58 #[.pointer (some ⟨L, 0, none⟩), .int .i64 0] w fun e w' => e = .returned (.int .i64 (peekS bs p)) ∧ Cur w0 w' L A c bs p := by
  have H := Lib.hid h
  obtain ⟨h1, h2, h3, h4, h5, h6, h7, h8⟩ := h
  have hS := Lib.hid (show peekS bs p = match bs[p]? with | some b => (b.toNat : Int) | none => -1 from rfl)
  generalize peekS bs p = S at *
  by_cases hlt : p < bs.length
  · obtain ⟨b, o, rfl, hc⟩ := h6.2 (by omega)
    have hck := (h2.cell (p := ⟨b, o + p, none⟩) (show b ≠ L from h1 (by omega) ⟨b, o, none⟩ rfl) (cell_lt (hc p hlt))).trans (hc p hlt)
    have hS2 := Lib.hid (show S = (bs[p].toNat : Int) by rw [hS.out, List.getElem?_eq_getElem hlt])
    generalize bs[p] = x at *
    clear hc h6 h2 h1
    go_enter Tryd.func58, Tryd.ntmps58
    go_wp2
    · go_quiet (fail)
      go_wp2
      go_ret
      have hxw : wrap64 (x.toNat : Int) = (x.toNat : Int) := by have := u8_lt x; unfold wrap64; omega
      exact ⟨by rw [hS2.out]; exact congrArg (fun z => Ending.returned (.int .i64 z)) hxw, H.out.drawn _⟩
  · have hS2 := Lib.hid (show S = -1 by rw [hS.out, List.getElem?_eq_none (by omega)])
    clear h6 h2 h1
    go_enter Tryd.func58, Tryd.ntmps58
    go_wp2
    go_ret
    exact ⟨by rw [hS2.out]; rfl, H.out⟩
theorem peekS_in {bs : List UInt8} {p : Nat} (h : p < bs.length) : 0 ≤ peekS bs p ∧ peekS bs p ≤ 255 ∧ peekS bs p = (bs[p].toNat : Int) := by
  have e : peekS bs p = (bs[p].toNat : Int) := by unfold peekS; rw [List.getElem?_eq_getElem h]
  have := u8_lt bs[p]
  rw [e]; omega
theorem peekS_out {bs : List UInt8} {p : Nat} (h : ¬ p < bs.length) : peekS bs p = -1 := by unfold peekS; rw [List.getElem?_eq_none (by omega)]
set_option maxHeartbeats 1000000 in
set_option maxRecDepth 100000 in
theorem cur_next {w0 w : World} {L : Nat} {A : Option Addr} {c : Nat} {bs : List UInt8} {p : Nat} (h : Cur w0 w L A c bs p) :
    Calls Tryd.prog 59 #[.pointer (some ⟨L, 0, none⟩)] w fun e w' => e = .returned (.int .i64 (peekS bs p)) ∧ Cur w0 w' L A c bs (if p < bs.length then p + 1 else p) := by
  have hk := cur_peek h
  by_cases hlt : p < bs.length
  · have hs := peekS_in hlt
    rw [if_pos hlt]
    have hs0 := hs.1
    generalize peekS bs p = S at *
    have hsm := h.small
    clear h hs
    go_enter Tryd.func59, Tryd.ntmps59
    go_wp2_with (go_at_call 58; (with_reducible refine hk.mono ?_); rintro e w1 ⟨rfl, h1⟩; have hca := h1.ca; have hfr := h1.fr; replace h1 := Lib.hid h1)
    go_ret
    have h2 := h1.out.go (p + 1) hlt
    rw [show ((p + 1 : Nat) : Int) = (p : Int) + 1 by omega] at h2
    exact ⟨rfl, h2⟩
  · have hs := peekS_out hlt
    rw [if_neg hlt]
    rw [hs] at hk ⊢
    clear h
    go_enter Tryd.func59, Tryd.ntmps59
    go_wp2_with (go_at_call 58; (with_reducible refine hk.mono ?_); rintro e w1 ⟨rfl, h1⟩; replace h1 := Lib.hid h1)
    go_ret
    exact ⟨rfl, h1.out⟩
set_option maxHeartbeats 400000 in
theorem cur_left {w0 w : World} {L : Nat} {A : Option Addr} {c : Nat} {bs : List UInt8} {p : Nat} (h : Cur w0 w L A c bs p) :
    Calls Tryd.prog 37 #[.pointer (some ⟨L, 0, none⟩)] w fun e w' => e = .returned (.int .i64 ((bs.length : Int) - p)) ∧ w' = w := by
  obtain ⟨h1, h2, h3, h4, h5, h6, h7, h8⟩ := h
  clear h6 h2 h1
  go_enter Tryd.func37, Tryd.ntmps37
  go_wp2
  go_ret
  exact ⟨rfl, rfl⟩
set_option maxRecDepth 100000 in
theorem conv_at (W : World) (b o cap : Nat) (x : UInt8) (h : W.cell? ⟨b, o, none⟩ = some (.int .u8 (x.toNat : Int))) : (convert 22 9 (.slice (some ⟨b, o, none⟩) 1 cap)).run Tryd.prog W = .ok (.string ⟨#[x]⟩) W := by
  have h := run_convert_bytes_back (P := Tryd.prog) W 22 9 5 ⟨b, o, none⟩ cap [x] Tryd.underlying22 Tryd.underlying5 Tryd.underlying9 (fun j hj => by
    have : j = 0 := by simpa using hj
    subst this
    rw [Lib.add_plain]; exact h)
  exact h
set_option maxHeartbeats 1000000 in
set_option maxRecDepth 100000 in
theorem cur_match_yes {w0 w : World} {L : Nat} {A : Option Addr} {c : Nat} {bs : List UInt8} {p : Nat} {ch : UInt8} (h : Cur w0 w L A c bs p) (hcap : bs.length ≤ c) (hp : bs[p]? = some ch) :
    Calls Tryd.prog 54 #[.pointer (some ⟨L, 0, none⟩), .string ⟨#[ch]⟩] w fun e w' => e = .returned (.bool true) ∧ Cur w0 w' L A c bs (p + 1) := by
  have H := Lib.hid h
  obtain ⟨h1, h2, h3, h4, h5, h6, h7, h8⟩ := h
  obtain ⟨hlt, hpe⟩ := List.getElem?_eq_some_iff.1 hp
  obtain ⟨b, o, rfl, hc⟩ := h6.2 (by omega)
  have hck := (h2.cell (p := ⟨b, o + p, none⟩) (show b ≠ L from h1 (by omega) ⟨b, o, none⟩ rfl) (cell_lt (hc p hlt))).trans (hc p hlt)
  rw [hpe] at hck
  have hcv := fun n => conv_at (w.drewN n) b (o + p) (c - p) ch hck
  clear hc h6 h2 h1 hp hpe
  have hg : decide ((bs.length : Int) - (p : Int) < 1) = false := by simp; omega
  go_enter Tryd.func54, Tryd.ntmps54
  go_wp2
  go_quiet ((go_at_call 37; refine Calls.quiet_of_same (cur_left (H.out.drawn _))))
  go_wp2
  go_ret
  have h9 := (H.out.drawn nq).go (p + 1) hlt
  rw [show ((p + 1 : Nat) : Int) = (p : Int) + 1 by omega] at h9
  exact ⟨rfl, h9⟩
set_option maxHeartbeats 1000000 in
set_option maxRecDepth 100000 in
theorem cur_match_no {w0 w : World} {L : Nat} {A : Option Addr} {c : Nat} {bs : List UInt8} {p : Nat} {ch : UInt8} (h : Cur w0 w L A c bs p) (hcap : bs.length ≤ c) (hp : bs[p]? ≠ some ch) :
    Calls Tryd.prog 54 #[.pointer (some ⟨L, 0, none⟩), .string ⟨#[ch]⟩] w fun e w' => e = .returned (.bool false) ∧ Cur w0 w' L A c bs p := by
  have H := Lib.hid h
  obtain ⟨h1, h2, h3, h4, h5, h6, h7, h8⟩ := h
  by_cases hlt : p < bs.length
  · obtain ⟨b, o, rfl, hc⟩ := h6.2 (by omega)
    have hck := (h2.cell (p := ⟨b, o + p, none⟩) (show b ≠ L from h1 (by omega) ⟨b, o, none⟩ rfl) (cell_lt (hc p hlt))).trans (hc p hlt)
    have hcv := fun n => conv_at (w.drewN n) b (o + p) (c - p) bs[p] hck
    have hne : (bs[p] == ch) = false := by
      rw [beq_eq_false_iff_ne]; intro e; exact hp (by rw [List.getElem?_eq_getElem hlt, e])
    generalize bs[p] = x at *
    clear hc h6 h2 h1 hp
    have hg : decide ((bs.length : Int) - (p : Int) < 1) = false := by simp; omega
    go_enter Tryd.func54, Tryd.ntmps54
    go_wp2
    go_quiet ((go_at_call 37; refine Calls.quiet_of_same (cur_left (H.out.drawn _))))
    go_wp2
    go_ret
    exact ⟨rfl, H.out.drawn _⟩
  · clear h6 h2 h1 hp
    have hg : decide ((bs.length : Int) - (p : Int) < 1) = true := by simp; omega
    go_enter Tryd.func54, Tryd.ntmps54
    go_wp2
    go_quiet ((go_at_call 37; refine Calls.quiet_of_same (cur_left (H.out.drawn _))))
    go_wp2
    go_ret
    exact ⟨rfl, H.out.drawn _⟩
end Go.Proofs.YtgomlebemefdcaaDoor

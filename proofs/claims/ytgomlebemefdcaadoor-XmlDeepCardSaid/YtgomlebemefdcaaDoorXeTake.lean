/- Take of the cursor. No condition. -/
import Derived.Test.YtgomlebemefdcaaDoorXeMatch
import Derived.Test.YtgomlebemefdcaaDoorXeShelf
import Derived.Deep.RegionHeld3
import Derived.Deep.DrawnRows
set_option linter.unusedVariables false
namespace Go.Proofs.YtgomlebemefdcaaDoor
open Go Go.RowKit Go.Wk
attribute [local go_sem ↓] Go.wp_at_zero Go.wp_at_succ
theorem Cur.below {w0 w w1 : World} {L : Nat} {A : Option Addr} {c : Nat} {bs : List UInt8} {p : Nat} (h : Cur w0 w L A c bs p) (hb : Below w.heap.size w w1) : Cur w0 w1 L A c bs p := by
  have hl := cell_lt h.cb
  exact ⟨h.ne, h.bel.trans (Save.of_below hb), (hb.cell hl).trans h.cb, (hb.cell (p := ⟨L, 1, none⟩) hl).trans h.ca, (hb.frozen (p := ⟨L, 1, none⟩) hl).trans h.fr, h.byt, h.le, h.small⟩
/-- what Take answers -/
def takeS (bs : List UInt8) (p n : Nat) : List UInt8 := if p + n ≤ bs.length then (bs.drop p).take n else []
def takeB (bs : List UInt8) (p n : Nat) : Bool := decide (p + n ≤ bs.length)
def TakeR (w0 w : World) (L : Nat) (A : Option Addr) (c : Nat) (bs : List UInt8) (p n : Nat) (e : Ending) (w' : World) : Prop :=
  ∃ A' c', e = .returned (.tuple #[.slice A' (takeS bs p n).length c', .bool (takeB bs p n)]) ∧ Byt w' A' (takeS bs p n) ∧ Cur w0 w' L A c bs (if takeB bs p n then p + n else p)
theorem own_byt2 {w : World} {B e : Nat} {v : Value} {bs : List UInt8} (h : w.ownsRow B e 1 v bs.length (valsB bs)) (h0 : v ≠ .slice none 0 0) (hm : bs.length ≤ maxLen) :
    ∃ g c, B ≤ g ∧ v = .slice (some ⟨g, 0, none⟩) bs.length c ∧ Byt w (some ⟨g, 0, none⟩) bs := by
  obtain ⟨A, c, hv, hb⟩ := own_byt h
  rcases h.2 with ⟨rfl, _⟩ | ⟨g, cap, cur, rfl, hB, _⟩
  · exact absurd rfl h0
  · injection hv with h1 h2 h3
    subst h1
    exact ⟨g, cap, hB, rfl, hb hm⟩
theorem Byt.store {w : World} {g o : Nat} {bs : List UInt8} (h : Byt w (some ⟨g, o, none⟩) bs) {p : Addr} (hp : g ≠ p.block) (u : Value) : Byt (w.setCell p u) (some ⟨g, o, none⟩) bs := by
  refine ⟨h.1, fun h0 => ?_⟩
  obtain ⟨b, o', e, hc⟩ := h.2 h0
  cases e
  refine ⟨g, o, rfl, fun i hi => ?_⟩
  rw [World.cell?_setCell_other _ _ _ _ (by intro e; apply hp; rw [e])]
  exact hc i hi
theorem valsB_map (l : List UInt8) : (l.map fun x => (x.toNat : Int)).map (Value.int .u8) = valsB l := by simp [valsB]
set_option maxHeartbeats 1000000 in
set_option maxRecDepth 100000 in
theorem cur_take {w0 w : World} {L : Nat} {A : Option Addr} {c : Nat} {bs : List UInt8} {p : Nat} (n : Nat) (h : Cur w0 w L A c bs p) (hcap : bs.length ≤ c) (hn : 1 ≤ n) (hn2 : n ≤ 100000) :
    Calls Tryd.prog 26 #[.pointer (some ⟨L, 0, none⟩), .int .i64 n] w (TakeR w0 w L A c bs p n) := by
  have H := Lib.hid h
  obtain ⟨h1, h2, h3, h4, h5, h6, h7, h8⟩ := h
  by_cases hle : p + n ≤ bs.length
  · obtain ⟨b, o, rfl, hc⟩ := h6.2 (by omega)
    have hpc : ¬ c = p := by omega
    have cl := Tryd.bytes_Clone_at ⟨b, o + p, none⟩ n (c - p) (((bs.drop p).take n).map fun x => (x.toNat : Int)) w.drew (by simp; omega) (by omega) (fun i hi => by
      have := (h2.cell (p := ⟨b, o + (p + i), none⟩) (show b ≠ L from h1 (by omega) ⟨b, o, none⟩ rfl) (cell_lt (hc (p + i) (by omega)))).trans (hc (p + i) (by omega))
      rw [Wk.add_none, Nat.add_assoc]
      show w.cell? _ = _
      rw [this]
      simp [List.getD, hi, show p + i < bs.length by omega])
    have hts := Lib.hid (show takeS bs p n = (bs.drop p).take n by simp [takeS, hle])
    have htb := Lib.hid (show takeB bs p n = true by simp [takeB, hle])
    have hl : ((bs.drop p).take n).length = n := by simp; omega
    generalize hT : (bs.drop p).take n = T at *
    replace hT := Lib.hid hT
    replace cl := Lib.hid cl
    have kp := Lib.hid fun (w1 : World) (hb : Below w.heap.size w w1) => (⟨(H.out.below hb).cb, (H.out.below hb).ca⟩ : w1.cell? ⟨L, 0, none⟩ = some (.slice (some ⟨b, o, none⟩) bs.length c) ∧ w1.cell? ⟨L, 1, none⟩ = some (.int .i64 (p : Nat)))
    have hp0 : (0 : Int) ≤ (p : Int) := by omega
    have hpn : (p : Int) + (n : Int) ≤ (bs.length : Int) := by omega
    have hbc : (bs.length : Int) ≤ (c : Int) := by omega
    have hw : IntKind.i64.wrap ((p : Int) + (n : Int)) = (p : Int) + (n : Int) := IntWalk.i64_in _ (by omega)
    clear hc h6 h2 h1
    go_enter Tryd.func26, Tryd.ntmps26
    go_wp2_with (go_at_call 37; (with_reducible refine (cur_left H.out).mono ?_); rintro e w1 ⟨rfl, rfl⟩)
    go_region_held (fun w' => w'.cell? ⟨L, 0, none⟩ = some (.slice (some ⟨b, o, none⟩) bs.length c) ∧ w'.cell? ⟨L, 1, none⟩ = some (.int .i64 (p : Nat)))
      (first | go_keep | exact kp.out _ ((Below.refl _ _).drew.trans hw2))
      ((go_at_call 38; (with_reducible refine cl.out.mono ?_); rintro e w2 ⟨v, rfl, hown, hne, hw2⟩))
    have hb2 : Below w1.heap.size w1 w2 := (Below.refl w1.heap.size w1).drew.trans hw2
    have hC2 := Lib.hid (H.out.below hb2)
    have k5 := hC2.out.fr
    obtain ⟨k3, k4⟩ := kp.out _ hb2
    rw [valsB_map] at hown
    have hlm : T.length ≤ maxLen := by unfold maxLen; omega
    subst hl
    obtain ⟨g, c', hg, rfl, hby⟩ := own_byt2 hown hne hlm
    have hgL : g ≠ L := by
      have hlt : L < w1.heap.size := cell_lt H.out.cb
      have hg : w1.heap.size ≤ g := hg
      intro e; omega
    replace hby := Lib.hid (Byt.store hby (p := ⟨L, 1, none⟩) hgL (.int .i64 ((p : Int) + (T.length : Int))))
    clear hown hne hw2 hw
    have hw : IntKind.i64.wrap ((p : Int) + (T.length : Int)) = (p : Int) + (T.length : Int) := IntWalk.i64_in _ (by omega)
    go_wp2
    go_ret2
    refine ⟨some ⟨g, 0, none⟩, c', ?_, ?_, ?_⟩
    · rw [hts.out, htb.out]; rfl
    · rw [hts.out]; exact hby.out
    · rw [htb.out, if_pos rfl]
      have h9 := hC2.out.go (p + T.length) hle
      rw [show ((p + T.length : Nat) : Int) = (p : Int) + (T.length : Int) by omega] at h9
      exact h9
  · have hts := Lib.hid (show takeS bs p n = [] by simp [takeS, hle])
    have htb := Lib.hid (show takeB bs p n = false by simp [takeB, hle])
    have hg : decide ((bs.length : Int) - (p : Int) < (n : Int)) = true := by rw [decide_eq_true_eq]; omega
    clear h6 h2 h1
    go_enter Tryd.func26, Tryd.ntmps26
    go_wp2_with (go_at_call 37; (with_reducible refine (cur_left H.out).mono ?_); rintro e w1 ⟨rfl, rfl⟩)
    go_ret2
    refine ⟨none, 0, ?_, ?_, ?_⟩
    · rw [hts.out, htb.out]; rfl
    · rw [hts.out]; exact Byt.nil
    · rw [htb.out]; exact H.out
end Go.Proofs.YtgomlebemefdcaaDoor

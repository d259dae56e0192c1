/- Match of the cursor, whatever text. No condition. -/
import Derived.Test.YtgomlebemefdcaaDoorXeCur
namespace Go.Proofs.YtgomlebemefdcaaDoor
open Go Go.RowKit Go.Wk
def stands (bs : List UInt8) (p : Nat) (s : List UInt8) : Bool := decide (p + s.length ≤ bs.length) && ((bs.drop p).take s.length == s)
set_option maxRecDepth 100000 in
theorem conv_many (W : World) (b o n cap : Nat) (l : List UInt8) (hl : l.length = n) (h : ∀ i (hi : i < l.length), W.cell? ⟨b, o + i, none⟩ = some (.int .u8 (l[i].toNat : Int))) : (convert 22 9 (.slice (some ⟨b, o, none⟩) n cap)).run Tryd.prog W = .ok (.string ⟨l.toArray⟩) W := by
  subst hl
  exact run_convert_bytes_back W 22 9 5 ⟨b, o, none⟩ cap l Tryd.underlying22 Tryd.underlying5 Tryd.underlying9 (fun j hj => by rw [Lib.add_plain]; exact h j hj)
set_option maxHeartbeats 1000000 in
set_option maxRecDepth 100000 in
theorem cur_match {w0 w : World} {L : Nat} {A : Option Addr} {c : Nat} {bs : List UInt8} {p : Nat} (s : ByteArray) (h : Cur w0 w L A c bs p) (hcap : bs.length ≤ c) (hs : 1 ≤ s.size) (hs2 : s.size ≤ 100000) :
    Calls Tryd.prog 54 #[.pointer (some ⟨L, 0, none⟩), .string s] w fun e w' => e = .returned (.bool (stands bs p s.data.toList)) ∧ Cur w0 w' L A c bs (if stands bs p s.data.toList then p + s.size else p) := by
  have H := Lib.hid h
  have hsl : s.data.toList.length = s.size := Array.length_toList
  obtain ⟨h1, h2, h3, h4, h5, h6, h7, h8⟩ := h
  by_cases hle : p + s.size ≤ bs.length
  · obtain ⟨b, o, rfl, hc⟩ := h6.2 (by omega)
    have hcv := fun n => conv_many (w.drewN n) b (o + p) s.size (c - p) ((bs.drop p).take s.size) (by simp; omega) (fun i hi => by
      have hi2 : i < s.size := by simp at hi; omega
      have := (h2.cell (p := ⟨b, o + (p + i), none⟩) (show b ≠ L from h1 (by omega) ⟨b, o, none⟩ rfl) (cell_lt (hc (p + i) (by omega)))).trans (hc (p + i) (by omega))
      rw [Nat.add_assoc, List.getElem_take, List.getElem_drop]
      exact this)
    have hpc : ¬ c = p := by omega
    have hg : decide ((bs.length : Int) - (p : Int) < (s.size : Int)) = false := by simp; omega
    by_cases heq : (bs.drop p).take s.size = s.data.toList
    · have hst : stands bs p s.data.toList = true := by simp [stands, hsl, hle, heq]
      rw [hst]
      have hX : ({ data := (List.take s.size (List.drop p bs)).toArray } : ByteArray) = s := by apply bytes_ext; simpa using heq
      rw [hX] at hcv
      clear hc h6 h2 h1 heq hX hst hsl
      go_enter Tryd.func54, Tryd.ntmps54
      go_wp2
      go_quiet ((go_at_call 37; refine Calls.quiet_of_same (cur_left (H.out.drawn _))))
      go_wp2
      go_ret
      have h9 := (H.out.drawn nq).go (p + s.size) hle
      rw [show ((p + s.size : Nat) : Int) = (p : Int) + (s.size : Int) by omega] at h9
      exact ⟨rfl, h9⟩
    · have hst : stands bs p s.data.toList = false := by
        unfold stands
        rw [hsl]
        simp [heq]
      rw [hst]
      generalize hX : ({ data := (List.take s.size (List.drop p bs)).toArray } : ByteArray) = X at hcv
      have hXl : X.data.toList = (bs.drop p).take s.size := by rw [← hX]
      have hne := str_ne (a := X) (b := s) (by rw [hXl]; exact heq)
      clear hXl
      clear hc h6 h2 h1 heq hX hst hsl
      go_enter Tryd.func54, Tryd.ntmps54
      go_wp2
      go_quiet ((go_at_call 37; refine Calls.quiet_of_same (cur_left (H.out.drawn _))))
      go_wp2
      go_ret
      exact ⟨rfl, H.out.drawn _⟩
  · have hst : stands bs p s.data.toList = false := by
      unfold stands
      rw [hsl]
      simp [hle]
    rw [hst]
    have hg : decide ((bs.length : Int) - (p : Int) < (s.size : Int)) = true := by
      rw [decide_eq_true_eq]; omega
    clear h6 h2 h1 hst hsl
    go_enter Tryd.func54, Tryd.ntmps54
    go_wp2
    go_quiet ((go_at_call 37; refine Calls.quiet_of_same (cur_left (H.out.drawn _))))
    go_wp2
    go_ret
    exact ⟨rfl, H.out.drawn _⟩
end Go.Proofs.YtgomlebemefdcaaDoor

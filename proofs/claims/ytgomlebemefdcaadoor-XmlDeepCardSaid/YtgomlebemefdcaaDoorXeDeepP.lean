/- Elements in one another: they are read; one too many is too deep. No condition. -/
import Derived.Test.YtgomlebemefdcaaDoorXeGram
namespace Go.Xe
def low (n : UInt8) : Prop := 97 ≤ n.toNat ∧ n.toNat ≤ 122
def nestS : Bs → Bs
  | [] => [116]
  | n :: l => [60, n, 62] ++ nestS l ++ [60, 47, n, 62]
def nestN : Bs → Nd
  | [] => .tx [116]
  | n :: l => .el [n] [] [nestN l]
theorem low_begins {n : UInt8} (h : low n) : beginsB n = true := by
  unfold beginsB; simp [h.1, h.2]
theorem low_goes {n : UInt8} (h : low n) : goesB n = true := by unfold goesB; rw [low_begins h]; rfl
theorem goes_62 : goesB 62 = false := by decide
theorem name_low {n : UInt8} (h : low n) (r : Bs) : nameS (n :: 62 :: r) = [n] := by
  unfold nameS
  simp [low_begins h, List.takeWhile_cons, low_goes h, goes_62]
theorem ws_62 (r : Bs) : ws (62 :: r) = 0 := by simp [ws, List.takeWhile_cons, whiteB]
theorem mark_low {n : UInt8} (h : low n) (r : Bs) : Mark (60 :: n :: 62 :: r) [n] [] false r := by
  refine .open _ [n] [] (62 :: r) r (name_low h r) (by simp) rfl (by simp [List.cons_prefix_cons]) (.nil _ _ 62 (by rw [ws_62]; rfl) (.inr rfl))
theorem low_ne {n : UInt8} (h : low n) (k : UInt8) (hk : k.toNat < 97) : n ≠ k := by rintro rfl; have := h.1; omega
theorem misc_low {n : UInt8} (h : low n) (r : Bs) : Misc (60 :: n :: r) false (60 :: n :: r) :=
  .no _ (by simp [List.cons_prefix_cons]; intro e; exact absurd e.symm (low_ne h 33 (by decide))) (by simp [List.cons_prefix_cons]; exact fun e => absurd e.symm (low_ne h 63 (by decide)))
theorem misc_end (r : Bs) : Misc (60 :: 47 :: r) false (60 :: 47 :: r) := .no _ (by simp [List.cons_prefix_cons]) (by simp [List.cons_prefix_cons])
theorem cont_end (d m : Nat) (r : Bs) : Cont d m [] (60 :: 47 :: r) [] m r := by
  have := Cont.done d m [] (60 :: 47 :: r) [] (60 :: 47 :: r) r (.stop 60 _ (.inl rfl)) (misc_end r) rfl
  simpa using this
theorem deep_elem : ∀ (l : Bs) (d m : Nat) (r : Bs), l ≠ [] → (∀ n ∈ l, low n) → l.length ≤ d → m + l.length ≤ 4000 → Elem d m (nestS l ++ r) (nestN l) (m + l.length) r := by
  intro l
  induction l with
  | nil => intro d m r h; exact absurd rfl h
  | cons n l ih =>
    intro d m r _ hl hd hm
    have hn := hl n (by simp)
    obtain ⟨d, rfl⟩ : ∃ d', d = d' + 1 := ⟨d - 1, by simp at hd; omega⟩
    have e : nestS (n :: l) ++ r = 60 :: n :: 62 :: (nestS l ++ ([60, 47, n, 62] ++ r)) := by simp [nestS]
    rw [e]
    have hc : Cont (d + 1) (m + 1) [] (nestS l ++ ([60, 47, n, 62] ++ r)) [nestN l] (m + (n :: l).length) (n :: 62 :: r) := by
      cases l with
      | nil =>
        have := Cont.done (d + 1) (m + 1) [] (116 :: 60 :: 47 :: n :: 62 :: r) [116] (60 :: 47 :: n :: 62 :: r) (n :: 62 :: r) (.byte 116 _ _ _ (by decide) (by decide) (by decide) (.stop 60 _ (.inl rfl))) (misc_end _) rfl
        exact this
      | cons n' l' =>
        have hn' := hl n' (by simp)
        have := ih d (m + 1) ([60, 47, n, 62] ++ r) (by simp) (fun x hx => hl x (by simp at hx ⊢; right; exact hx)) (by simp at hd ⊢; omega) (by simp at hm ⊢; omega)
        have e2 : nestS (n' :: l') ++ ([60, 47, n, 62] ++ r) = 60 :: n' :: 62 :: (nestS l' ++ ([60, 47, n', 62] ++ ([60, 47, n, 62] ++ r))) := by simp [nestS]
        have hz : (m + 1) + (n' :: l').length = m + (n :: n' :: l').length := by simp; omega
        rw [hz] at this
        have h2 := Cont.elem d (m + 1) _ _ [] _ [] _ _ (nestN (n' :: l')) [] (n :: 62 :: r) (by rw [e2]; exact .stop 60 _ (.inl rfl)) (by rw [e2]; exact misc_low hn' _) (by rw [e2]; simp [List.cons_prefix_cons]; exact fun e => absurd e.symm (low_ne hn' 47 (by decide))) this (cont_end _ _ _)
        rw [e2]; exact h2
    refine .open d m _ _ [n] [] _ [nestN l] (n :: 62 :: r) (62 :: r) r (by simp at hm; omega) (mark_low hn _) hc (name_low hn r) rfl (by simp [List.cons_prefix_cons]) (by rw [ws_62]; rfl)
mutual
/-- too deep -/
inductive ElemD : Nat → Nat → Bs → Prop
  | here (m : Nat) (r nm : Bs) : nameS r = nm → nm ≠ [] → ¬ [58] <+: r.drop nm.length → m < 4000 → ElemD 0 m (60 :: r)
  | in_ (d m : Nat) (r nm : Bs) (l : List (Bs × Bs)) (r1 : Bs) : m < 4000 → Mark r nm l false r1 → ContD (d + 1) (m + 1) [] r1 → ElemD (d + 1) m r
inductive ContD : Nat → Nat → Bs → Bs → Prop
  | elem (d m : Nat) (r : Bs) : Txt (-1) r [] r → Misc r false r → ¬ [60, 47] <+: r → ElemD d m r → ContD (d + 1) m [] r
end
theorem deep_too : ∀ (l : Bs) (d m : Nat) (r : Bs), (∀ n ∈ l, low n) → d < l.length → m + l.length ≤ 4000 → ElemD d m (nestS l ++ r) := by
  intro l
  induction l with
  | nil => intro d m r _ h; simp at h
  | cons n l ih =>
    intro d m r hl hd hm
    have hn := hl n (by simp)
    have e : nestS (n :: l) ++ r = 60 :: n :: 62 :: (nestS l ++ ([60, 47, n, 62] ++ r)) := by simp [nestS]
    rw [e]
    cases d with
    | zero => exact .here m _ [n] (name_low hn _) (by simp) (by simp [List.cons_prefix_cons]) (by simp at hm; omega)
    | succ d =>
      cases l with
      | nil => simp at hd
      | cons n' l' =>
        have hn' := hl n' (by simp)
        have := ih d (m + 1) ([60, 47, n, 62] ++ r) (fun x hx => hl x (by simp at hx ⊢; right; exact hx)) (by simp at hd ⊢; omega) (by simp at hm ⊢; omega)
        have e2 : nestS (n' :: l') ++ ([60, 47, n, 62] ++ r) = 60 :: n' :: 62 :: (nestS l' ++ ([60, 47, n', 62] ++ ([60, 47, n, 62] ++ r))) := by simp [nestS]
        exact .in_ d m _ [n] [] _ (by simp at hm; omega) (mark_low hn _) (.elem d (m + 1) _ (by rw [e2]; exact .stop 60 _ (.inl rfl)) (by rw [e2]; exact misc_low hn' _) (by rw [e2]; simp [List.cons_prefix_cons]; exact fun e => absurd e.symm (low_ne hn' 47 (by decide))) this)
end Go.Xe

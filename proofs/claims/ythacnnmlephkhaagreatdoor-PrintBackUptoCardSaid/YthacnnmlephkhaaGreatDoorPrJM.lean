/- Walks and laws, joined: part M. No condition. -/
import Derived.Test.YthacnnmlephkhaaGreatDoorPrJL
import Derived.Test.YthacnnmlephkhaaGreatDoorPrJB
import Derived.Test.YthacnnmlephkhaaGreatDoorPrJA
set_option linter.unusedSimpArgs false
set_option linter.unusedVariables false
/- Objects that may be have the same bytes just if they are the same: plain, whole. No condition. -/
namespace Go.Wk
open Go
theorem may_kind {dep : Nat} {k n : Int} {b : List UInt8} {l : List Ob} {d : List (List UInt8 × Ob)} (h : (Ob.mk k n b l d).may dep = true) : k = 0 ∨ k = 1 ∨ k = 2 ∨ k = 3 ∨ k = 4 ∨ k = 5 ∨ k = 6 ∨ k = 7 ∨ k = 8 ∨ k = 9 := by
 simp only [Ob.may, Bool.and_eq_true] at h
 have h := h.2
 by_cases k0 : k = 0
 ·simp [k0]
 by_cases k1 : k = 1
 ·simp [k1]
 by_cases k2 : k = 2
 ·simp [k2]
 by_cases k3 : k = 3
 ·simp [k3]
 by_cases k4 : k = 4
 ·simp [k4]
 by_cases k5 : k = 5
 ·simp [k5]
 by_cases k6 : k = 6
 ·simp [k6]
 by_cases k7 : k = 7
 ·simp [k7]
 by_cases k8 : k = 8
 ·simp [k8]
 by_cases k9 : k = 9
 ·simp [k9]
 simp [k0, k1, k2, k3, k4, k5, k6, k7, k8, k9] at h
def cls : List UInt8 → Nat
 | [] => 20
 | c :: r => if c = 110 then 0 else if c = 116 ∨ c = 102 then 1 else if c = 40 then 4 else if c = 47 then 5 else if c = 91 then 6 else if c = 60 then (if r.head? = some 60 then 7 else 4) else if numB c = true then 2 else 20
def kc (k : Int) : Nat := if k = 0 then 0 else if k = 1 then 1 else if k = 4 then 4 else if k = 5 then 5 else if k = 6 then 6 else if k = 7 then 7 else 2
theorem num_head (n : Int) (w : Bool) : ∃ c r, numT n w = c :: r ∧ numB c = true := by
 have h := num_all n w
 cases e : numT n w with
 | nil =>
  exfalso
  obtain ⟨c, r, e1, _⟩ := dec_head n.toNat
  unfold numT Lib.itoa at e
  cases w with
  | true =>
   simp only [if_true] at e
   split at e
   ·cases e
   ·rw [e1] at e; cases e
  | false => simp at e
 | cons c r => rw [e] at h; simp only [List.all_cons, Bool.and_eq_true] at h; exact ⟨c, r, rfl, h.1⟩
theorem cls_num {c : UInt8} (r : List UInt8) (h : numB c = true) : cls (c :: r) = 2 := by
 have key : ∀ c : UInt8, numB c = true → c ≠ 110 ∧ c ≠ 116 ∧ c ≠ 102 ∧ c ≠ 40 ∧ c ≠ 47 ∧ c ≠ 91 ∧ c ≠ 60 := by
  intro c hc
  refine ⟨?_, ?_, ?_, ?_, ?_, ?_, ?_⟩ <;> (rintro rfl; revert hc; decide)
 have := key c h
 unfold cls
 simp [this, h]
theorem cls_show {dep : Nat} {k n : Int} {b : List UInt8} {l : List Ob} {d : List (List UInt8 × Ob)} (h : (Ob.mk k n b l d).may dep = true) (h8 : k ≠ 8) (s : List UInt8) : cls ((Ob.mk k n b l d).show ++ s) = kc k := by
 obtain ⟨c1, r1, e1, n1⟩ := num_head n true
 obtain ⟨c2, r2, e2, n2⟩ := num_head n false
 rcases may_kind h with rfl | rfl | rfl | rfl | rfl | rfl | rfl | rfl | rfl | rfl
 ·simp [Ob.show, cls, kc]
 ·by_cases hn : n = 1 <;> simp [Ob.show, cls, kc, hn]
 ·simp only [Ob.show]; simp [e1, cls_num _ n1, kc]
 ·simp only [Ob.show]; simp [e2, cls_num _ n2, kc]
 ·simp only [Ob.show]
  unfold textT
  by_cases hb : b.all plainB = true
  ·simp [hb, cls, kc]
  ·simp only [hb]
   have : ((hexS b ++ [62]) ++ s).head? ≠ some 60 := by
    cases b with
    | nil => simp [hexS]
    | cons x b =>
     have := x.toNat_lt
     simp [hexS, (hexD_reg (x.toNat / 16) (by omega)).2.2]
   simp at this
   simp [cls, kc, this]
 ·simp [Ob.show, nameT, cls, kc]
 ·simp [Ob.show, cls, kc]
 ·simp [Ob.show, cls, kc]
 ·exact absurd rfl h8
 ·simp only [Ob.show]; simp [e1, cls_num _ n1, kc]
def Fol (s : List UInt8) : Prop := Stop s ∧ ∀ r, s ≠ 32 :: 48 :: 32 :: 82 :: r
theorem kc_two {k : Int} (h : kc k = 2) (hk : k = 0 ∨ k = 1 ∨ k = 2 ∨ k = 3 ∨ k = 4 ∨ k = 5 ∨ k = 6 ∨ k = 7 ∨ k = 8 ∨ k = 9) (h8 : k ≠ 8) : k = 2 ∨ k = 3 ∨ k = 9 := by
 rcases hk with rfl | rfl | rfl | rfl | rfl | rfl | rfl | rfl | rfl | rfl <;> simp [kc] at h h8 ⊢
theorem kc_eq {k k' : Int} (h : kc k = kc k') (hk : k = 0 ∨ k = 1 ∨ k = 2 ∨ k = 3 ∨ k = 4 ∨ k = 5 ∨ k = 6 ∨ k = 7 ∨ k = 8 ∨ k = 9) (hk' : k' = 0 ∨ k' = 1 ∨ k' = 2 ∨ k' = 3 ∨ k' = 4 ∨ k' = 5 ∨ k' = 6 ∨ k' = 7 ∨ k' = 8 ∨ k' = 9) (h8 : k ≠ 8) (h8' : k' ≠ 8) : k = k' ∨ kc k = 2 := by
 rcases hk with rfl | rfl | rfl | rfl | rfl | rfl | rfl | rfl | rfl | rfl <;> rcases hk' with rfl | rfl | rfl | rfl | rfl | rfl | rfl | rfl | rfl | rfl <;> simp [kc] at h h8 h8' ⊢
theorem num_show {dep : Nat} {k n : Int} {b : List UInt8} {l : List Ob} {d : List (List UInt8 × Ob)} (hk : k = 2 ∨ k = 3 ∨ k = 9) (s : List UInt8) :
 (Ob.mk k n b l d).show ++ s = numT n (k != 3) ++ (if k = 9 then 32 :: 48 :: 32 :: 82 :: s else s) := by
 rcases hk with rfl | rfl | rfl <;> simp [Ob.show]
theorem stop_if {k : Int} {s : List UInt8} (h : Stop s) : Stop (if k = 9 then 32 :: 48 :: 32 :: 82 :: s else s) := by
 split
 ·intro c r e; injection e with e _; exact .inl e.symm
 ·exact h
theorem not_zero_R {dep : Nat} {o : Ob} (h : o.may dep = true) (h8 : o.kind ≠ 8) {Y : List UInt8} (hY : Stop Y) (hR : ∀ r, Y ≠ 32 :: 82 :: r) (r : List UInt8) : o.show ++ Y ≠ 48 :: 32 :: 82 :: r := by
 intro e
 obtain ⟨k, n, b, l, d⟩ := o
 have h8 : k ≠ 8 := h8
 have hc := cls_show h h8 Y
 rw [e, cls_num _ (by decide)] at hc
 have hk := kc_two hc.symm (may_kind h) h8
 rw [num_show (dep := dep) hk] at e
 have e' : numT n (k != 3) ++ (if k = 9 then 32 :: 48 :: 32 :: 82 :: Y else Y) = [48] ++ (32 :: 82 :: r) := e
 obtain ⟨_, e2⟩ := cut_while (num_all n _) (by decide) (stop_if hY).num (fun c r e => by injection e with e _; subst e; decide) e'
 split at e2
 ·injection e2 with _ e2
  injection e2 with e2 _
  cases e2
 ·exact hR r e2
theorem head_R {dep : Nat} {o : Ob} (h : o.may dep = true) (h8 : o.kind ≠ 8) (Y r : List UInt8) : o.show ++ Y ≠ 82 :: r := by
 intro e
 obtain ⟨k, n, b, l, d⟩ := o
 have h8 : k ≠ 8 := h8
 have hc := cls_show h h8 Y
 rw [e] at hc
 have : cls (82 :: r) = 20 := by unfold cls; simp; decide
 rw [this] at hc
 unfold kc at hc
 split at hc
 ·cases hc
 repeat (first | cases hc | split at hc)
theorem fol_L {dep : Nat} : ∀ (l : List Ob), mayL dep l = true → ∀ s, Fol (showL false l ++ 93 :: s) ∧ ∀ r, showL false l ++ 93 :: s ≠ 32 :: 82 :: r := by
 intro l
 induction l with
 | nil =>
  intro _ s
  refine ⟨⟨fun c r e => ?_, fun r e => ?_⟩, fun r e => ?_⟩
  ·simp [showL] at e; exact .inr (.inl e.1.symm)
  ·simp [showL] at e
  ·simp [showL] at e
 | cons o l ih =>
  intro h s
  simp only [mayL, Bool.and_eq_true, bne_iff_ne, ne_eq] at h
  obtain ⟨⟨h8, ho⟩, hl⟩ := h
  obtain ⟨f1, f2⟩ := ih hl s
  have e0 : showL false (o :: l) ++ 93 :: s = 32 :: (o.show ++ (showL false l ++ 93 :: s)) := by simp [showL]
  rw [e0]
  refine ⟨⟨fun c r e => ?_, fun r e => ?_⟩, fun r e => ?_⟩
  ·injection e with e _; exact .inl e.symm
  ·injection e with _ e; exact not_zero_R ho h8 f1.1 f2 r e
  ·injection e with _ e; exact head_R ho h8 _ r e
theorem fol_D : ∀ (d : List (List UInt8 × Ob)) (s : List UInt8), Fol (showD d ++ 62 :: 62 :: s) := by
 intro d s
 cases d with
 | nil => refine ⟨fun c r e => ?_, fun r e => ?_⟩ <;> simp [showD] at e; exact .inr (.inr (.inr e.1.symm))
 | cons e d => refine ⟨fun c r e => ?_, fun r e => ?_⟩ <;> simp [showD, nameT] at e; exact .inr (.inr (.inl e.1.symm))
mutual
theorem show_cut : ∀ (a b : Ob) (dep dep' : Nat), a.may dep = true → b.may dep' = true → a.kind ≠ 8 → b.kind ≠ 8 → ∀ s t, Fol s → Fol t → a.show ++ s = b.show ++ t → sameB a b = true ∧ s = t
 | .mk k n b l d, .mk k' n' b' l' d', dep, dep', ha, hb, h8, h8', s, t, hs, ht, e => by
  have h8 : k ≠ 8 := h8
  have h8' : k' ≠ 8 := h8'
  have hka := may_kind ha
  have hkb := may_kind hb
  have hc : kc k = kc k' := by rw [← cls_show ha h8 s, ← cls_show hb h8' t, e]
  by_cases h2 : kc k = 2
  ·have q1 := kc_two h2 hka h8
   have q2 := kc_two (hc ▸ h2) hkb h8'
   rw [num_show (dep := dep) q1, num_show (dep := dep') q2] at e
   obtain ⟨e1, e2⟩ := cut_while (num_all _ _) (num_all _ _) (stop_if hs.1).num (stop_if ht.1).num e
   obtain ⟨rfl, ew⟩ := num_inj e1
   have key : k = k' ∧ s = t := by
    rcases q1 with rfl | rfl | rfl <;> rcases q2 with rfl | rfl | rfl <;> simp at ew e2
    ·exact ⟨rfl, e2⟩
    ·exact absurd e2 (hs.2 t)
    ·exact ⟨rfl, e2⟩
    ·exact absurd e2.symm (ht.2 s)
    ·exact ⟨rfl, e2⟩
   obtain ⟨rfl, rfl⟩ := key
   refine ⟨?_, rfl⟩
   rcases q1 with rfl | rfl | rfl <;> simp [sameB]
  ·obtain rfl : k = k' := (kc_eq hc hka hkb h8 h8').resolve_right h2
   rcases hka with rfl | rfl | rfl | rfl | rfl | rfl | rfl | rfl | rfl | rfl
   ·simp [Ob.show] at e; exact ⟨by simp [sameB], e⟩
   ·have hn := ha
    have hm := hb
    simp [Ob.may] at hn hm
    have hn : n = 0 ∨ n = 1 := by omega
    have hm : n' = 0 ∨ n' = 1 := by omega
    rcases hn with rfl | rfl <;> rcases hm with rfl | rfl <;> simp [Ob.show] at e
    ·exact ⟨by simp [sameB], e⟩
    ·exact ⟨by simp [sameB], e⟩
   ·exact absurd rfl h2
   ·exact absurd rfl h2
   ·have e : textT b ++ s = textT b' ++ t := by simpa [Ob.show] using e
    obtain ⟨rfl, rfl⟩ := textT_cut e
    exact ⟨by simp [sameB], rfl⟩
   ·have e : nameT b ++ s = nameT b' ++ t := by simpa [Ob.show] using e
    obtain ⟨rfl, rfl⟩ := nameT_cut hs.1 ht.1 e
    exact ⟨by simp [sameB], rfl⟩
   ·have e : showL true l ++ 93 :: s = showL true l' ++ 93 :: t := by simpa [Ob.show] using e
    have m1 : mayL (dep - 1) l = true := by simp [Ob.may] at ha; exact ha.2.2
    have m2 : mayL (dep' - 1) l' = true := by simp [Ob.may] at hb; exact hb.2.2
    obtain ⟨h1, h3⟩ := showL_cut l l' _ _ m1 m2 true s t e
    exact ⟨by simp [sameB, h1], h3⟩
   ·have e : showD d ++ 62 :: 62 :: s = showD d' ++ 62 :: 62 :: t := by simpa [Ob.show] using e
    have m1 : mayD (dep - 1) d = true := by simp [Ob.may] at ha; exact ha.2.2
    have m2 : mayD (dep' - 1) d' = true := by simp [Ob.may] at hb; exact hb.2.2
    obtain ⟨h1, h3⟩ := showD_cut d d' _ _ m1 m2 s t e
    exact ⟨by simp [sameB, h1], h3⟩
   ·exact absurd rfl h8
   ·exact absurd rfl h2
theorem showL_cut : ∀ (l l' : List Ob) (dep dep' : Nat), mayL dep l = true → mayL dep' l' = true → ∀ f s t, showL f l ++ 93 :: s = showL f l' ++ 93 :: t → sameL l l' = true ∧ s = t
 | [], [], _, _, _, _, f, s, t, e => by simp [showL] at e; exact ⟨rfl, e⟩
 | [], o :: r, dep, dep', _, h, f, s, t, e => by
  exfalso
  simp only [mayL, Bool.and_eq_true, bne_iff_ne, ne_eq] at h
  cases f with
  | false => simp [showL] at e
  | true =>
   obtain ⟨k, n, b, l, d⟩ := o
   have h8 : k ≠ 8 := h.1.1
   have e : (93 : UInt8) :: s = (Ob.mk k n b l d).show ++ (showL false r ++ 93 :: t) := by simpa [showL] using e
   have hc := cls_show h.1.2 h8 (showL false r ++ 93 :: t)
   rw [← e] at hc
   have : cls (93 :: s) = 20 := by unfold cls; simp; decide
   rw [this] at hc
   unfold kc at hc
   repeat (first | cases hc | split at hc)
 | o :: r, [], dep, dep', h, _, f, s, t, e => by
  exfalso
  simp only [mayL, Bool.and_eq_true, bne_iff_ne, ne_eq] at h
  cases f with
  | false => simp [showL] at e
  | true =>
   obtain ⟨k, n, b, l, d⟩ := o
   have h8 : k ≠ 8 := h.1.1
   have e : (Ob.mk k n b l d).show ++ (showL false r ++ 93 :: s) = (93 : UInt8) :: t := by simpa [showL] using e
   have hc := cls_show h.1.2 h8 (showL false r ++ 93 :: s)
   rw [e] at hc
   have : cls (93 :: t) = 20 := by unfold cls; simp; decide
   rw [this] at hc
   unfold kc at hc
   repeat (first | cases hc | split at hc)
 | o :: r, o' :: r', dep, dep', h, h', f, s, t, e => by
  simp only [mayL, Bool.and_eq_true, bne_iff_ne, ne_eq] at h h'
  have e : o.show ++ (showL false r ++ 93 :: s) = o'.show ++ (showL false r' ++ 93 :: t) := by simpa [showL] using e
  obtain ⟨h1, h2⟩ := show_cut o o' dep dep' h.1.2 h'.1.2 h.1.1 h'.1.1 _ _ (fol_L r h.2 s).1 (fol_L r' h'.2 t).1 e
  obtain ⟨h3, h4⟩ := showL_cut r r' dep dep' h.2 h'.2 false s t h2
  exact ⟨by simp [sameL, h1, h3], h4⟩
theorem showD_cut : ∀ (l l' : List (List UInt8 × Ob)) (dep dep' : Nat), mayD dep l = true → mayD dep' l' = true → ∀ s t, showD l ++ 62 :: 62 :: s = showD l' ++ 62 :: 62 :: t → sameD l l' = true ∧ s = t
 | [], [], _, _, _, _, s, t, e => by simp [showD] at e; exact ⟨rfl, e⟩
 | [], o :: r, _, _, _, h, s, t, e => by simp [showD, nameT] at e
 | o :: r, [], _, _, h, _, s, t, e => by simp [showD, nameT] at e
 | e1 :: r, e2 :: r', dep, dep', h, h', s, t, e => by
  simp only [mayD, Bool.and_eq_true, bne_iff_ne, ne_eq] at h h'
  have e : nameT e1.1 ++ (32 :: (e1.2.show ++ (showD r ++ 62 :: 62 :: s))) = nameT e2.1 ++ (32 :: (e2.2.show ++ (showD r' ++ 62 :: 62 :: t))) := by simpa [showD] using e
  have st : ∀ X : List UInt8, Stop (32 :: X) := fun X c r e => by injection e with e _; exact .inl e.symm
  obtain ⟨k1, k2⟩ := nameT_cut (st _) (st _) e
  injection k2 with _ k2
  obtain ⟨h1, h2⟩ := show_cut e1.2 e2.2 dep dep' h.1.2 h'.1.2 h.1.1.2 h'.1.1.2 _ _ (fol_D r s) (fol_D r' t) k2
  obtain ⟨h3, h4⟩ := showD_cut r r' dep dep' h.2 h'.2 s t h2
  exact ⟨by simp [sameD, h1, h3, k1], h4⟩
end
end Go.Wk

/- Two lists held against each other: plain. No condition. -/
namespace Go.Wk
open Go
def atS (l l' : List Ob) (i : Nat) : Bool := match l[i]?, l'[i]? with
 | some a, some b => sameB a b
 | _, _ => true
def atT (l l' : List (List UInt8 × Ob)) (i : Nat) : Bool := match l[i]?, l'[i]? with
 | some a, some b => a.1 == b.1 && sameB a.2 b.2
 | _, _ => true
theorem sameL_len : ∀ (l l' : List Ob), l.length ≠ l'.length → sameL l l' = false
 | [], [], h => absurd rfl h
 | [], _ :: _, _ => rfl
 | _ :: _, [], _ => rfl
 | o :: r, o' :: r', h => by simp only [sameL, sameL_len r r' (fun e => h (by simp [e])), Bool.and_false]
theorem sameD_len : ∀ (l l' : List (List UInt8 × Ob)), l.length ≠ l'.length → sameD l l' = false
 | [], [], h => absurd rfl h
 | [], _ :: _, _ => rfl
 | _ :: _, [], _ => rfl
 | o :: r, o' :: r', h => by simp only [sameD, sameD_len r r' (fun e => h (by simp [e])), Bool.and_false]
theorem all_succ (n : Nat) (f : Nat → Bool) : (List.range (n + 1)).all f = (f 0 && (List.range n).all fun i => f (i + 1)) := by
 rw [List.range_succ_eq_map, List.all_cons, List.all_map]; rfl
theorem sameL_all : ∀ (l l' : List Ob), l.length = l'.length → sameL l l' = (List.range l.length).all (atS l l')
 | [], [], _ => rfl
 | [], _ :: _, h => by simp at h
 | _ :: _, [], h => by simp at h
 | o :: r, o' :: r', h => by
  rw [List.length_cons, all_succ]
  simp only [sameL]
  rw [sameL_all r r' (by simpa using h)]
  rfl
theorem sameD_all : ∀ (l l' : List (List UInt8 × Ob)), l.length = l'.length → sameD l l' = (List.range l.length).all (atT l l')
 | [], [], _ => rfl
 | [], _ :: _, h => by simp at h
 | _ :: _, [], h => by simp at h
 | o :: r, o' :: r', h => by
  rw [List.length_cons, all_succ]
  simp only [sameD]
  rw [sameD_all r r' (by simpa using h)]
  rfl
end Go.Wk
namespace Go.Proofs.YthacnnmlephkhaaGreatDoor
open Go Go.RowKit Go.Wk
theorem ten_cells {w W1 W2 : World} {v0 v1 v2 v3 v4 u0 u1 u2 u3 u4 : Value} (h1 : W1 = w.alloc (.cells #[v0, v1, v2, v3, v4] 26)) (h2 : W2 = W1.alloc (.cells #[u0, u1, u2, u3, u4] 26)) :
 (W2.cell? ⟨w.heap.size, 0, none⟩ = some v0 ∧ W2.cell? ⟨w.heap.size, 1, none⟩ = some v1 ∧ W2.cell? ⟨w.heap.size, 2, none⟩ = some v2 ∧ W2.cell? ⟨w.heap.size, 3, none⟩ = some v3 ∧ W2.cell? ⟨w.heap.size, 4, none⟩ = some v4) ∧
 (W2.cell? ⟨w.heap.size + 1, 0, none⟩ = some u0 ∧ W2.cell? ⟨w.heap.size + 1, 1, none⟩ = some u1 ∧ W2.cell? ⟨w.heap.size + 1, 2, none⟩ = some u2 ∧ W2.cell? ⟨w.heap.size + 1, 3, none⟩ = some u3 ∧ W2.cell? ⟨w.heap.size + 1, 4, none⟩ = some u4) := by
 have f := five_kept (five_cells h1) (W' := W2) (by rw [h2]; exact (Below.refl _ _).alloc (Nat.le_refl _) _)
 have g := five_cells h2
 rw [show W1.heap.size = w.heap.size + 1 by rw [h1, World.size_alloc]] at g
 exact ⟨f, g⟩
def SameC (N : Nat) : Prop := ∀ (a b : Ob) (vs us : List Value) (w : World), ObAt w a vs → ObAt w b us → a.bulk ≤ N → b.bulk ≤ 1048576 → Calls Tryz.prog 23 #[.agg vs.toArray, .agg us.toArray] w fun e w' => e = .returned (.bool (sameB a b)) ∧ Below w.heap.size w w'
set_option maxHeartbeats 8000000 in
set_option maxRecDepth 100000 in
theorem same_arr (N : Nat) (hN : N ≤ 1048576) (hs : SameC N) (n n' : Int) (b b' : List UInt8) (l l' : List Ob) (d d' : List (List UInt8 × Ob)) (vs us : List Value) (w : World) (h : ObAt w (.mk 6 n b l d) vs) (h' : ObAt w (.mk 6 n' b' l' d') us) (hbk : bulkL l ≤ N) (hbk' : bulkL l' ≤ 1048576) :
 Calls Tryz.prog 23 #[.agg vs.toArray, .agg us.toArray] w fun e w' => e = .returned (.bool (sameL l l')) ∧ Below w.heap.size w w' := by
 have zl := bulkL_len l
 have zl' := bulkL_len l'
 cases h with
 | mk k n b l d A AL AD c cL cD gL oL gD oD vl vd h1 h2 h3 h4 h5 h6 h7 h8 h9 h10 h11 hA hl hlv h15 h16 h17 h18 =>
 cases h' with
 | mk k' n' b' l' d' A' AL' AD' c' cL' cD' gL' oL' gD' oD' vl' vd' i1 i2 i3 i4 i5 i6 i7 i8 i9 i10 i11 hA' hl' hlv' i15 i16 i17 i18 =>
 obtain ⟨m, hm⟩ : ∃ m, m = l.length := ⟨_, rfl⟩
 obtain ⟨m', hm'⟩ : ∃ m, m = l'.length := ⟨_, rfl⟩
 rw [← hm] at zl ⊢
 rw [← hm'] at zl' ⊢
 have zm : m ≤ 1048576 := by omega
 have zm' : m' ≤ 1048576 := by omega
 obtain ⟨W1, hW1⟩ : ∃ W, W = w.alloc (.cells #[.int .i64 6, .int .i64 n, .slice A b.length c, .slice AL m cL, .slice AD d.length cD] 26) := ⟨_, rfl⟩
 obtain ⟨W2, hW2⟩ : ∃ W, W = W1.alloc (.cells #[.int .i64 6, .int .i64 n', .slice A' b'.length c', .slice AL' m' cL', .slice AD' d'.length cD'] 26) := ⟨_, rfl⟩
 have hb2 : Below w.heap.size w W2 := by rw [hW2, hW1]; exact ((Below.refl _ _).alloc (Nat.le_refl _) _).alloc (by rw [World.size_alloc]; omega) _
 have ff := ten_cells hW1 hW2
 obtain ⟨⟨f0, f1, f2, f3, f4⟩, g0, g1, g2, g3, g4⟩ := id ff
 obtain ⟨E, hE⟩ : ∃ E, E = sameL l l' := ⟨_, rfl⟩
 rw [← hE]
 have hne : m ≠ m' → E = false := fun h => by rw [hE]; exact sameL_len l l' (by omega)
 have hall : m = m' → E = (List.range m).all (atS l l') := fun h => by rw [hE, hm]; exact sameL_all l l' (by omega)
 clear h1 h2 h3 h4 h5 h6 h7 h8 h9 h10 h11 h15 h16 h17 h18 i1 i2 i3 i4 i5 i6 i7 i8 i9 i10 i11 i15 i16 i17 i18
 replace hE := hi_ hE
 replace hm := hi_ hm
 replace hm' := hi_ hm'
 replace hA := hi_ hA
 replace hl := hi_ hl
 replace hlv := hi_ hlv
 replace hA' := hi_ hA'
 replace hl' := hi_ hl'
 replace hlv' := hi_ hlv'
 replace hs := hi_ hs
 replace hb2 := hi_ hb2
 replace ff := hi_ ff
 replace hne := hi_ hne
 replace hall := hi_ hall
 go_enter Tryz.func23, Tryz.ntmps23
 go_upto_region 1 with (fail)
 rw [← hW1, ← hW2]
 replace hW1 := hi_ hW1
 replace hW2 := hi_ hW2
 by_cases hmm : m = m'
 ·subst hmm
  have hal2 := hall.out rfl
  replace hal2 := hi_ hal2
  clear hne hall
  go_wp2
  go_loopw [5] (fun s5 wr => ∃ k : Nat, k ≤ m ∧ s5 = .int .i64 k ∧ (∀ j, j < k → atS l l' j = true) ∧ Below W2.heap.size W2 wr) (fun s5 _ => m - (RowKit.intOf s5).toNat)
  case atStart => exact ⟨0, by omega, rfl, fun j hj => by omega, Below.refl _ _⟩
  case round =>
   obtain ⟨k, hk, rfl, hP, hB⟩ := hrel
   have lB := hB.size
   obtain ⟨p0, p1, p2, p3, p4⟩ := five_kept ff.out.1 hB
   obtain ⟨q0, q1, q2, q3, q4⟩ := five_kept ff.out.2 hB
   by_cases hkm : k < m
   ·have hkl : k < l.length := by rw [← hm.out]; exact hkm
    have hkl' : k < l'.length := by rw [← hm'.out]; exact hkm
    have hAe := hA.out (by omega)
    have hAe' := hA'.out (by omega)
    subst hAe hAe'
    have hbw : Below w.heap.size w wr := bthen hb2.out hB
    obtain ⟨o, ho⟩ : ∃ o, o = l[k] := ⟨_, rfl⟩
    obtain ⟨o', ho'⟩ : ∃ o, o = l'[k] := ⟨_, rfl⟩
    have hob := (hl.out k hkl).kept hbw
    have hob' := (hl'.out k hkl').kept hbw
    have hcv := hlv.out k hkl
    have hcv' := hlv'.out k hkl'
    rw [← ho] at hob
    rw [← ho'] at hob'
    have hzo : o.bulk ≤ N := by have := bulkL_at l k hkl; rw [← ho] at this; omega
    have hzo' : o'.bulk ≤ 1048576 := by have := bulkL_at l' k hkl'; rw [← ho'] at this; omega
    obtain ⟨us, hus⟩ : ∃ us, us = vl k := ⟨_, rfl⟩
    obtain ⟨us', hus'⟩ : ∃ us, us = vl' k := ⟨_, rfl⟩
    rw [← hus] at hob hcv
    rw [← hus'] at hob' hcv'
    obtain ⟨en, E1, E2, E3, en1, ec1, en2, ec2, en3, ec3, hys⟩ := ob_five2 hob
    obtain ⟨en', E1', E2', E3', en1', ec1', en2', ec2', en3', ec3', hys'⟩ := ob_five2 hob'
    obtain ⟨kk, hkk⟩ : ∃ k, k = o.kind := ⟨_, rfl⟩
    obtain ⟨kk', hkk'⟩ : ∃ k, k = o'.kind := ⟨_, rfl⟩
    rw [← hkk] at hys
    rw [← hkk'] at hys'
    subst hys hys'
    have five : ∀ j u, [Value.int .i64 kk, .int .i64 en, .slice E1 en1 ec1, .slice E2 en2 ec2, .slice E3 en3 ec3][j]? = some u → wr.cell? ⟨gL, oL + k * 5 + j, none⟩ = some u := fun j u hj => by
     have h0 := hcv j (by have := (List.getElem?_eq_some_iff.1 hj).1; simpa using this)
     rw [hj] at h0
     have h1 := (hbw.cell (cell_lt h0)).trans h0
     rw [show oL + (5 * k + j) = oL + k * 5 + j by omega] at h1
     exact h1
    have five' : ∀ j u, [Value.int .i64 kk', .int .i64 en', .slice E1' en1' ec1', .slice E2' en2' ec2', .slice E3' en3' ec3'][j]? = some u → wr.cell? ⟨gL', oL' + k * 5 + j, none⟩ = some u := fun j u hj => by
     have h0 := hcv' j (by have := (List.getElem?_eq_some_iff.1 hj).1; simpa using this)
     rw [hj] at h0
     have h1 := (hbw.cell (cell_lt h0)).trans h0
     rw [show oL' + (5 * k + j) = oL' + k * 5 + j by omega] at h1
     exact h1
    have x0 : wr.cell? ⟨gL, oL + k * 5, none⟩ = some (.int .i64 kk) := five 0 _ rfl
    have x1 : wr.cell? ⟨gL, oL + k * 5 + 1, none⟩ = some (.int .i64 en) := five 1 _ rfl
    have x2 : wr.cell? ⟨gL, oL + k * 5 + 2, none⟩ = some (.slice E1 en1 ec1) := five 2 _ rfl
    have x3 : wr.cell? ⟨gL, oL + k * 5 + 3, none⟩ = some (.slice E2 en2 ec2) := five 3 _ rfl
    have x4 : wr.cell? ⟨gL, oL + k * 5 + 4, none⟩ = some (.slice E3 en3 ec3) := five 4 _ rfl
    have y0 : wr.cell? ⟨gL', oL' + k * 5, none⟩ = some (.int .i64 kk') := five' 0 _ rfl
    have y1 : wr.cell? ⟨gL', oL' + k * 5 + 1, none⟩ = some (.int .i64 en') := five' 1 _ rfl
    have y2 : wr.cell? ⟨gL', oL' + k * 5 + 2, none⟩ = some (.slice E1' en1' ec1') := five' 2 _ rfl
    have y3 : wr.cell? ⟨gL', oL' + k * 5 + 3, none⟩ = some (.slice E2' en2' ec2') := five' 3 _ rfl
    have y4 : wr.cell? ⟨gL', oL' + k * 5 + 4, none⟩ = some (.slice E3' en3' ec3') := five' 4 _ rfl
    have hat : atS l l' k = sameB o o' := by unfold atS; rw [List.getElem?_eq_getElem hkl, List.getElem?_eq_getElem hkl', ho, ho']
    have c8 := hs.out o o' _ _ wr.drew (hob.kept ((Below.refl _ _).drew)) (hob'.kept ((Below.refl _ _).drew)) hzo hzo'
    clear five five' hcv hcv' hob hob' hus hus' hkk hkk'
    obtain ⟨sb, hsb⟩ : ∃ sb, sb = sameB o o' := ⟨_, rfl⟩
    rw [← hsb] at hat c8
    replace ho := hi_ ho
    replace ho' := hi_ ho'
    replace hsb := hi_ hsb
    replace hB := hi_ hB
    replace hbw := hi_ hbw
    replace hP := hi_ hP
    replace hat := hi_ hat
    cases sb with
    | true =>
     have hP2 : ∀ j, j < k + 1 → atS l l' j = true := fun j hj => by
      by_cases h : j = k
      ·rw [h]; exact hat.out
      ·exact hP.out j (by omega)
     replace hP2 := hi_ hP2
     go_upto_region 18 with (fail)
     go_region_with (go_at_call 23; (with_reducible refine c8.mono ?_); rintro e w2 ⟨rfl, hB2⟩; have hB2 : Below wr.heap.size wr w2 := ((Below.refl _ _).drew : Below wr.heap.size wr wr.drew).trans hB2; replace hB2 := hi_ hB2)
     all_goals
      go_wp2
      go_roundw
      case rel => exact ⟨k + 1, by omega, by go_num, hP2.out, hB.out.trans (hB2.out.mono lB)⟩
      case measure => simp [RowKit.intOf]; omega
    | false =>
     have hF : E = false := by
      rw [hal2.out, List.all_eq_false]; refine ⟨k, List.mem_range.2 hkm, ?_⟩; rw [hat.out]; decide
     subst hF
     go_upto_region 18 with (fail)
     go_region_with (go_at_call 23; (with_reducible refine c8.mono ?_); rintro e w2 ⟨rfl, hB2⟩; have hB2 : Below wr.heap.size wr w2 := ((Below.refl _ _).drew : Below wr.heap.size wr wr.drew).trans hB2; replace hB2 := hi_ hB2)
     all_goals
      go_wp2
      go_ret
      exact ⟨rfl, bthen hbw.out hB2.out⟩
   ·obtain rfl : k = m := by omega
    have hT : E = true := by
     rw [hal2.out, List.all_eq_true]; intro j hj; exact hP j (List.mem_range.1 hj)
    subst hT
    have hbw : Below w.heap.size w wr := bthen hb2.out hB
    replace hbw := hi_ hbw
    replace hB := hi_ hB
    replace hP := hi_ hP
    go_wp2
    go_ret
    exact ⟨rfl, hbw.out⟩
 ·have hF := hne.out hmm
  subst hF
  have qm : ((m : Int) == (m' : Int)) = false := by rw [beq_eq_false_iff_ne]; omega
  clear hall
  replace hmm := hi_ hmm
  go_wp2
  go_ret
  exact ⟨rfl, hb2.out⟩
end Go.Proofs.YthacnnmlephkhaaGreatDoor

/- Entries held against each other, by the document. No condition. -/
namespace Go.Proofs.YthacnnmlephkhaaGreatDoor
open Go Go.RowKit Go.Wk
def GU (p q gD oD gD' oD' m cD cD' k : Nat) (K K' : ByteArray) (ag ag' : Array Value) (kn sb : Bool) : Nat → Value → World → Prop := fun j v w => match j with
 | 0 => v = .pointer (some ⟨p, 4, none⟩)
 | 1 => v = .slice (some ⟨gD, oD, none⟩) m cD
 | 2 | 8 => v = .int .i64 (k : Int)
 | 3 | 4 => v = .pointer (some ⟨gD, oD + k * 6, none⟩)
 | 5 => v = .string K
 | 6 => v = .pointer (some ⟨q, 4, none⟩)
 | 7 => v = .slice (some ⟨gD', oD', none⟩) m cD'
 | 9 | 10 => v = .pointer (some ⟨gD', oD' + k * 6, none⟩)
 | 11 => v = .string K'
 | 12 | 13 => v = .bool kn
 | 14 => kn = false → v = .pointer (some ⟨p, 4, none⟩)
 | 15 => kn = false → v = .slice (some ⟨gD, oD, none⟩) m cD
 | 16 | 22 => kn = false → v = .int .i64 (k : Int)
 | 17 => kn = false → v = .pointer (some ⟨gD, oD + k * 6, none⟩)
 | 18 => kn = false → v = .pointer (some ⟨gD, oD + k * 6 + 1, none⟩)
 | 19 => kn = false → v = .agg ag
 | 20 => kn = false → v = .pointer (some ⟨q, 4, none⟩)
 | 21 => kn = false → v = .slice (some ⟨gD', oD', none⟩) m cD'
 | 23 => kn = false → v = .pointer (some ⟨gD', oD' + k * 6, none⟩)
 | 24 => kn = false → v = .pointer (some ⟨gD', oD' + k * 6 + 1, none⟩)
 | 25 => kn = false → v = .agg ag'
 | 26 => kn = false → v = .bool sb
 | _ => kn = false → v = .bool (!sb)
theorem GU_mono {p q gD oD gD' oD' m cD cD' k : Nat} {K K' : ByteArray} {ag ag' : Array Value} {kn sb : Bool} (j : Nat) (v : Value) (w w' : World) (hG : GU p q gD oD gD' oD' m cD cD' k K K' ag ag' kn sb j v w) (hk : Below w.heap.size w w') : GU p q gD oD gD' oD' m cD cD' k K K' ag ag' kn sb j v w' := by
 unfold GU at hG ⊢
 split at hG <;> exact hG
theorem bytes_toList (a : List UInt8) : (bytes a).toList = a := by
 rw [ByteArray.toList_eq]; rfl
theorem bytes_eq2 (a b : List UInt8) : (a == b) = !(!((bytes a).toList == (bytes b).toList)) := by
 rw [Bool.not_not, bytes_toList, bytes_toList]
set_option maxHeartbeats 8000000 in
set_option maxRecDepth 100000 in
theorem same_dict7 (N : Nat) (hN : N ≤ 1048576) (hs : SameC N) (n n' : Int) (b b' : List UInt8) (l l' : List Ob) (d d' : List (List UInt8 × Ob)) (vs us : List Value) (w : World) (h : ObAt w (.mk 7 n b l d) vs) (h' : ObAt w (.mk 7 n' b' l' d') us) (hbk : b.length + bulkD d ≤ N) (hbk' : b'.length + bulkD d' ≤ 1048576) :
 Calls Tryz.prog 23 #[.agg vs.toArray, .agg us.toArray] w fun e w' => e = .returned (.bool (sameD d d')) ∧ Below w.heap.size w w' := by
 have zl := bulkD_len d
 have zl' := bulkD_len d'
 have zb1 : b.length ≤ 1048576 := by omega
 have zb1' : b'.length ≤ 1048576 := by omega
 cases h with
 | mk k n b l d A AL AD c cL cD gL oL gD oD vl vd h1 h2 h3 h4 hB5 h6 h7 h8 h9 h10 h11 h12 h13 h14 hA hl hkey hlv =>
 cases h' with
 | mk k' n' b' l' d' A' AL' AD' c' cL' cD' gL' oL' gD' oD' vl' vd' i1 i2 i3 i4 iB5 i6 i7 i8 i9 i10 i11 i12 i13 i14 hA' hl' hkey' hlv' =>
 obtain ⟨m, hm⟩ : ∃ m, m = d.length := ⟨_, rfl⟩
 obtain ⟨m', hm'⟩ : ∃ m, m = d'.length := ⟨_, rfl⟩
 rw [← hm] at zl ⊢
 rw [← hm'] at zl' ⊢
 have zm : m ≤ 1048576 := by omega
 have zm' : m' ≤ 1048576 := by omega
 obtain ⟨W1, hW1⟩ : ∃ W, W = w.alloc (.cells #[.int .i64 7, .int .i64 n, .slice A b.length c, .slice AL l.length cL, .slice AD m cD] 26) := ⟨_, rfl⟩
 obtain ⟨W2, hW2⟩ : ∃ W, W = W1.alloc (.cells #[.int .i64 7, .int .i64 n', .slice A' b'.length c', .slice AL' l'.length cL', .slice AD' m' cD'] 26) := ⟨_, rfl⟩
 have hb2 : Below w.heap.size w W2 := by rw [hW2, hW1]; exact ((Below.refl _ _).alloc (Nat.le_refl _) _).alloc (by rw [World.size_alloc]; omega) _
 have ff := ten_cells hW1 hW2
 obtain ⟨⟨f0, f1, f2, f3, f4⟩, g0, g1, g2, g3, g4⟩ := id ff
 obtain ⟨E, hE⟩ : ∃ E, E = sameD d d' := ⟨_, rfl⟩
 rw [← hE]
 have hne : m ≠ m' → E = false := fun h => by rw [hE]; exact sameD_len d d' (by omega)
 have hall : m = m' → E = (List.range m).all (atT d d') := fun h => by rw [hE, hm]; exact sameD_all d d' (by omega)
 have c7 := ref_Same A A' c c' b b' W2 (hB5.below hb2) (iB5.below hb2) (by omega) (by omega)
 have hbe : (b == b') = decide (b = b') := by by_cases h : b = b' <;> simp [h]
 clear hbe c7
 clear h1 h2 h3 h4 hB5 h6 h7 h8 h9 h10 h11 h12 h13 h14 i1 i2 i3 i4 iB5 i6 i7 i8 i9 i10 i11 i12 i13 i14
 replace hE := hi_ hE
 replace hm := hi_ hm
 replace hm' := hi_ hm'
 replace hA := hi_ hA
 replace hl := hi_ hl
 replace hlv := hi_ hlv
 replace hkey := hi_ hkey
 replace hA' := hi_ hA'
 replace hl' := hi_ hl'
 replace hlv' := hi_ hlv'
 replace hkey' := hi_ hkey'
 replace hs := hi_ hs
 replace hb2 := hi_ hb2
 replace ff := hi_ ff
 replace hne := hi_ hne
 replace hall := hi_ hall
 go_enter Tryz.func23, Tryz.ntmps23
 go_upto_region 1 with (fail)
 rw [← hW1, ← hW2]
 replace hW1 := hi_ hW1
 replace hW2 := hi_ hW2
 by_cases hmm : m = m'
 ·subst hmm
  have hal2 := hall.out rfl
  replace hal2 := hi_ hal2
  clear hne hall
  go_wp2
  go_loopw [6] (fun s6 wr => ∃ k : Nat, k ≤ m ∧ s6 = .int .i64 k ∧ (∀ j, j < k → atT d d' j = true) ∧ Below W2.heap.size W2 wr) (fun s6 _ => m - (RowKit.intOf s6).toNat)
  case atStart => exact ⟨0, by omega, rfl, fun j hj => by omega, Below.refl _ _⟩
  case round =>
   obtain ⟨k, hk, rfl, hP, hB⟩ := hrel
   have lB := hB.size
   obtain ⟨p0, p1, p2, p3, p4⟩ := five_kept ff.out.1 hB
   obtain ⟨q0, q1, q2, q3, q4⟩ := five_kept ff.out.2 hB
   by_cases hkm : k < m
   ·have hkl : k < d.length := by rw [← hm.out]; exact hkm
    have hkl' : k < d'.length := by rw [← hm'.out]; exact hkm
    have hAe := hA.out (by omega)
    have hAe' := hA'.out (by omega)
    subst hAe hAe'
    have hbw : Below w.heap.size w wr := bthen hb2.out hB
    obtain ⟨o, ho⟩ : ∃ o, o = d[k] := ⟨_, rfl⟩
    obtain ⟨o', ho'⟩ : ∃ o, o = d'[k] := ⟨_, rfl⟩
    have hob := (hl.out k hkl).kept hbw
    have hob' := (hl'.out k hkl').kept hbw
    have hcv := hlv.out k hkl
    have hcv' := hlv'.out k hkl'
    have hky := (hkey.out k hkl).2
    have hky' := (hkey'.out k hkl').2
    rw [← ho] at hob hky
    rw [← ho'] at hob' hky'
    have hzo : o.2.bulk ≤ N := by have := bulkD_at d k hkl; rw [← ho] at this; omega
    have hzo' : o'.2.bulk ≤ 1048576 := by have := bulkD_at d' k hkl'; rw [← ho'] at this; omega
    obtain ⟨us, hus⟩ : ∃ us, us = vd k := ⟨_, rfl⟩
    obtain ⟨us', hus'⟩ : ∃ us, us = vd' k := ⟨_, rfl⟩
    rw [← hus] at hob hcv
    rw [← hus'] at hob' hcv'
    obtain ⟨en, E1, E2, E3, en1, ec1, en2, ec2, en3, ec3, hys⟩ := ob_five2 hob
    obtain ⟨en', E1', E2', E3', en1', ec1', en2', ec2', en3', ec3', hys'⟩ := ob_five2 hob'
    obtain ⟨kk, hkk⟩ : ∃ k, k = o.2.kind := ⟨_, rfl⟩
    obtain ⟨kk', hkk'⟩ : ∃ k, k = o'.2.kind := ⟨_, rfl⟩
    rw [← hkk] at hys
    rw [← hkk'] at hys'
    subst hys hys'
    obtain ⟨K, hK⟩ : ∃ K, K = bytes o.1 := ⟨_, rfl⟩
    obtain ⟨K', hK'⟩ : ∃ K, K = bytes o'.1 := ⟨_, rfl⟩
    have kp : ∀ W, Below wr.heap.size wr W → W.cell? ⟨gD, oD + k * 6, none⟩ = some (.string K) ∧ W.cell? ⟨gD', oD' + k * 6, none⟩ = some (.string K') := fun W hW => by
     have h1 := (bthen hbw hW).cell (cell_lt hky) |>.trans hky
     have h2 := (bthen hbw hW).cell (cell_lt hky') |>.trans hky'
     rw [Nat.mul_comm] at h1 h2
     rw [h1, h2, hK, hK']; exact ⟨rfl, rfl⟩
    have five : ∀ W, Below wr.heap.size wr W → ∀ j u, [Value.int .i64 kk, .int .i64 en, .slice E1 en1 ec1, .slice E2 en2 ec2, .slice E3 en3 ec3][j]? = some u → W.cell? ⟨gD, oD + k * 6 + 1 + j, none⟩ = some u := fun W hW j u hj => by
     have h0 := hcv j (by have := (List.getElem?_eq_some_iff.1 hj).1; simpa using this)
     rw [hj] at h0
     have h1 := ((bthen hbw hW).cell (cell_lt h0)).trans h0
     rw [show oD + (6 * k + 1 + j) = oD + k * 6 + 1 + j by omega] at h1
     exact h1
    have five' : ∀ W, Below wr.heap.size wr W → ∀ j u, [Value.int .i64 kk', .int .i64 en', .slice E1' en1' ec1', .slice E2' en2' ec2', .slice E3' en3' ec3'][j]? = some u → W.cell? ⟨gD', oD' + k * 6 + 1 + j, none⟩ = some u := fun W hW j u hj => by
     have h0 := hcv' j (by have := (List.getElem?_eq_some_iff.1 hj).1; simpa using this)
     rw [hj] at h0
     have h1 := ((bthen hbw hW).cell (cell_lt h0)).trans h0
     rw [show oD' + (6 * k + 1 + j) = oD' + k * 6 + 1 + j by omega] at h1
     exact h1
    have zz : ∀ W, Below wr.heap.size wr W → (W.cell? ⟨w.heap.size, 0, none⟩ = some (.int .i64 7) ∧ W.cell? ⟨w.heap.size, 1, none⟩ = some (.int .i64 n) ∧ W.cell? ⟨w.heap.size, 2, none⟩ = some (.slice A b.length c) ∧ W.cell? ⟨w.heap.size, 3, none⟩ = some (.slice AL l.length cL) ∧ W.cell? ⟨w.heap.size, 4, none⟩ = some (.slice (some ⟨gD, oD, none⟩) m cD)) ∧
     (W.cell? ⟨w.heap.size + 1, 0, none⟩ = some (.int .i64 7) ∧ W.cell? ⟨w.heap.size + 1, 1, none⟩ = some (.int .i64 n') ∧ W.cell? ⟨w.heap.size + 1, 2, none⟩ = some (.slice A' b'.length c') ∧ W.cell? ⟨w.heap.size + 1, 3, none⟩ = some (.slice AL' l'.length cL') ∧ W.cell? ⟨w.heap.size + 1, 4, none⟩ = some (.slice (some ⟨gD', oD', none⟩) m cD')) ∧
     (W.cell? ⟨gD, oD + k * 6, none⟩ = some (.string K) ∧ W.cell? ⟨gD, oD + k * 6 + 1, none⟩ = some (.int .i64 kk) ∧ W.cell? ⟨gD, oD + k * 6 + 2, none⟩ = some (.int .i64 en) ∧ W.cell? ⟨gD, oD + k * 6 + 3, none⟩ = some (.slice E1 en1 ec1) ∧ W.cell? ⟨gD, oD + k * 6 + 4, none⟩ = some (.slice E2 en2 ec2) ∧ W.cell? ⟨gD, oD + k * 6 + 5, none⟩ = some (.slice E3 en3 ec3)) ∧
     (W.cell? ⟨gD', oD' + k * 6, none⟩ = some (.string K') ∧ W.cell? ⟨gD', oD' + k * 6 + 1, none⟩ = some (.int .i64 kk') ∧ W.cell? ⟨gD', oD' + k * 6 + 2, none⟩ = some (.int .i64 en') ∧ W.cell? ⟨gD', oD' + k * 6 + 3, none⟩ = some (.slice E1' en1' ec1') ∧ W.cell? ⟨gD', oD' + k * 6 + 4, none⟩ = some (.slice E2' en2' ec2') ∧ W.cell? ⟨gD', oD' + k * 6 + 5, none⟩ = some (.slice E3' en3' ec3')) := fun W hW =>
     ⟨five_kept ff.out.1 (bthen hB hW), five_kept ff.out.2 (bthen hB hW), ⟨(kp W hW).1, five W hW 0 _ rfl, five W hW 1 _ rfl, five W hW 2 _ rfl, five W hW 3 _ rfl, five W hW 4 _ rfl⟩, (kp W hW).2, five' W hW 0 _ rfl, five' W hW 1 _ rfl, five' W hW 2 _ rfl, five' W hW 3 _ rfl, five' W hW 4 _ rfl⟩
    have hat : atT d d' k = (o.1 == o'.1 && sameB o.2 o'.2) := by unfold atT; rw [List.getElem?_eq_getElem hkl, List.getElem?_eq_getElem hkl', ho, ho']
    have c8 := fun W (hW : Below wr.heap.size wr W) => hs.out o.2 o'.2 _ _ W (hob.kept hW) (hob'.kept hW) hzo hzo'
    obtain ⟨kn, hkn⟩ : ∃ kn, (!(K.toList == K'.toList)) = kn := ⟨_, rfl⟩
    have hkn3 : (o.1 == o'.1) = !kn := by rw [← hkn, hK, hK']; exact bytes_eq2 _ _
    obtain ⟨sb, hsb⟩ : ∃ sb, sb = sameB o.2 o'.2 := ⟨_, rfl⟩
    rw [← hsb, hkn3] at hat
    rw [← hsb] at c8
    clear five five' hcv hcv' hob hob' hus hus' hkk hkk' kp hky hky' hkn3 hzo hzo'
    replace ho := hi_ ho
    replace ho' := hi_ ho'
    replace hK := hi_ hK
    replace hK' := hi_ hK'
    replace hsb := hi_ hsb
    replace hB := hi_ hB
    replace hbw := hi_ hbw
    replace hP := hi_ hP
    replace hat := hi_ hat
    replace zz := hi_ zz
    replace c8 := hi_ c8
    go_upto_region 27 with (fail)
    refine wp_lin_tail (by kernel_rfl) [none, none, none, none, none, none, none, none, none, none, none, none, none, none, none, none, none, none, none, none, none, none, none, none, none, none, none, none, none, none, none, none, none, none, none, none, none, none, none, none, none, none, none, none, none, none, none, none, none, none, none, none, none, none, none, none, none, none, none, none, none, none, none, none, none, none, none, none, none, none, none, none, none, none, none, none, none, none, none, none, none, none, none, none, none, none, none, none, none, none, some 0, some 1, some 2, some 3, some 4, some 5, some 6, some 7, some 8, some 9, some 10, some 11, some 12, some 13, some 14, some 15, some 16, some 17, some 18, some 19, some 20, some 21, some 22, some 23, some 24, some 25, some 26, some 27, none] (fun w' => Below wr.heap.size wr w') (fun w' w'' => Below w'.heap.size w' w'') (GU w.heap.size (w.heap.size + 1) gD oD gD' oD' m cD cD' k K K' #[.int .i64 kk, .int .i64 en, .slice E1 en1 ec1, .slice E2 en2 ec2, .slice E3 en3 ec3] #[.int .i64 kk', .int .i64 en', .slice E1' en1' ec1', .slice E2' en2' ec2', .slice E3' en3' ec3'] kn sb) (by rfl) (by kernel_rfl) 28 _ rfl (by decide) (by kernel_rfl) [1, 3, 3, 4, 5, 12, 7, 9, 9, 10, 11, 12, 13, 28, 15, 17, 17, 18, 19, 26, 21, 23, 23, 24, 25, 26, 27, 28, 0] (by kernel_rfl) ?hR ?mono (.cons 27 (step_of [26, 13] rfl (by kernel_rfl) ?s27) (.cons 26 (step_of [19, 25, 13] rfl (by kernel_rfl) ?s26) (.cons 25 (step_of [24, 13] rfl (by kernel_rfl) ?s25) (.cons 24 (step_of [23, 13] rfl (by kernel_rfl) ?s24) (.cons 23 (step_of [21, 22, 13] rfl (by kernel_rfl) ?s23) (.cons 22 (step_of [13] rfl (by kernel_rfl) ?s22) (.cons 21 (step_of [20, 13] rfl (by kernel_rfl) ?s21) (.cons 20 (step_of [13] rfl (by kernel_rfl) ?s20) (.cons 19 (step_of [18, 13] rfl (by kernel_rfl) ?s19) (.cons 18 (step_of [17, 13] rfl (by kernel_rfl) ?s18) (.cons 17 (step_of [15, 16, 13] rfl (by kernel_rfl) ?s17) (.cons 16 (step_of [13] rfl (by kernel_rfl) ?s16) (.cons 15 (step_of [14, 13] rfl (by kernel_rfl) ?s15) (.cons 14 (step_of [13] rfl (by kernel_rfl) ?s14) (.cons 13 (step_of [12] rfl (by kernel_rfl) ?s13) (.cons 12 (step_of [5, 11] rfl (by kernel_rfl) ?s12) (.cons 11 (step_of [10] rfl (by kernel_rfl) ?s11) (.cons 10 (step_of [9] rfl (by kernel_rfl) ?s10) (.cons 9 (step_of [7, 8] rfl (by kernel_rfl) ?s9) (.cons 8 (step_of [] rfl (by kernel_rfl) ?s8) (.cons 7 (step_of [6] rfl (by kernel_rfl) ?s7) (.cons 6 (step_of [] rfl (by kernel_rfl) ?s6) (.cons 5 (step_of [4] rfl (by kernel_rfl) ?s5) (.cons 4 (step_of [3] rfl (by kernel_rfl) ?s4) (.cons 3 (step_of [1, 2] rfl (by kernel_rfl) ?s3) (.cons 2 (step_of [] rfl (by kernel_rfl) ?s2) (.cons 1 (step_of [0] rfl (by kernel_rfl) ?s1) (.cons 0 (step_of [] rfl (by kernel_rfl) ?s0) (.nil))))))))))))))))))))))))))))) ?done
    case hR => exact (Below.refl _ _).drew
    case mono => exact GU_mono
    case done =>
     intro x w4 hR2 hG fr hfr
     have e13 := hG 13 (by omega)
     have e27 := hG 27 (by omega)
     simp only [GU] at e13 e27
     clear hG
     simp only [fillL] at hfr
     rw [e13] at hfr
     replace hR2 := hi_ hR2
     cases kn with
     | true =>
      have hF : E = false := by
       rw [hal2.out, List.all_eq_false]; refine ⟨k, List.mem_range.2 hkm, ?_⟩; rw [hat.out]; simp
      subst hfr
      clear e27
      go_wp2
      go_ret
      exact ⟨by first | rfl | (rw [hF]; rfl), bthen hbw.out hR2.out⟩
     | false =>
      rw [e27 rfl] at hfr
      subst hfr
      clear e27
      cases sb with
      | true =>
       have hP2 : ∀ j, j < k + 1 → atT d d' j = true := fun j hj => by
        by_cases h : j = k
        ·rw [h]; exact hat.out
        ·exact hP.out j (by omega)
       replace hP2 := hi_ hP2
       go_wp2
       go_roundw
       case rel => exact ⟨k + 1, by omega, by go_num, hP2.out, hB.out.trans (hR2.out.mono lB)⟩
       case measure => simp [RowKit.intOf]; omega
      | false =>
       have hF : E = false := by
        rw [hal2.out, List.all_eq_false]; refine ⟨k, List.mem_range.2 hkm, ?_⟩; rw [hat.out]; simp
       go_wp2
       go_ret
       exact ⟨by first | rfl | (rw [hF]; rfl), bthen hbw.out hR2.out⟩
    case s0 =>
     intro x w' hRw hd K9 hK
     simp only [All, GU] at hd
     obtain ⟨_⟩ := hd
     simp +decide only [upd, GU, fillL, if_true, if_false] at hK ⊢
     go_simp
     have hK2 := hK _ _ ⟨hRw, Below.refl _ _, rfl⟩
     exact hK2
    case s1 =>
     intro x w' hRw hd K9 hK
     simp only [All, GU] at hd
     obtain ⟨e0, _⟩ := hd
     simp +decide only [upd, GU, fillL, if_true, if_false] at hK ⊢
     obtain ⟨⟨z0, z1, z2, z3, z4⟩, ⟨t0, t1, t2, t3, t4⟩, ⟨x0, x1, x2, x3, x4, x5⟩, y0, y1, y2, y3, y4, y5⟩ := zz.out w' hRw
     simp only [e0] at hK ⊢
     go_simp
     have hK2 := hK _ _ ⟨hRw, Below.refl _ _, rfl⟩
     exact hK2
    case s2 =>
     intro x w' hRw hd K9 hK
     simp only [All, GU] at hd
     obtain ⟨_⟩ := hd
     simp +decide only [upd, GU, fillL, if_true, if_false] at hK ⊢
     go_simp
     have hK2 := hK _ _ ⟨hRw, Below.refl _ _, rfl⟩
     exact hK2
    case s3 =>
     intro x w' hRw hd K9 hK
     simp only [All, GU] at hd
     obtain ⟨e1, e2, _⟩ := hd
     simp +decide only [upd, GU, fillL, if_true, if_false] at hK ⊢
     simp only [e1, e2] at hK ⊢
     go_simp
     have hK2 := hK _ _ ⟨hRw, Below.refl _ _, rfl⟩
     exact hK2
    case s4 =>
     intro x w' hRw hd K9 hK
     simp only [All, GU] at hd
     obtain ⟨e3, _⟩ := hd
     simp +decide only [upd, GU, fillL, if_true, if_false] at hK ⊢
     simp only [e3] at hK ⊢
     go_simp
     have hK2 := hK _ _ ⟨hRw, Below.refl _ _, rfl⟩
     exact hK2
    case s5 =>
     intro x w' hRw hd K9 hK
     simp only [All, GU] at hd
     obtain ⟨e4, _⟩ := hd
     simp +decide only [upd, GU, fillL, if_true, if_false] at hK ⊢
     obtain ⟨⟨z0, z1, z2, z3, z4⟩, ⟨t0, t1, t2, t3, t4⟩, ⟨x0, x1, x2, x3, x4, x5⟩, y0, y1, y2, y3, y4, y5⟩ := zz.out w' hRw
     simp only [e4] at hK ⊢
     go_simp
     have hK2 := hK _ _ ⟨hRw, Below.refl _ _, rfl⟩
     exact hK2
    case s6 =>
     intro x w' hRw hd K9 hK
     simp only [All, GU] at hd
     obtain ⟨_⟩ := hd
     simp +decide only [upd, GU, fillL, if_true, if_false] at hK ⊢
     go_simp
     have hK2 := hK _ _ ⟨hRw, Below.refl _ _, rfl⟩
     exact hK2
    case s7 =>
     intro x w' hRw hd K9 hK
     simp only [All, GU] at hd
     obtain ⟨e6, _⟩ := hd
     simp +decide only [upd, GU, fillL, if_true, if_false] at hK ⊢
     obtain ⟨⟨z0, z1, z2, z3, z4⟩, ⟨t0, t1, t2, t3, t4⟩, ⟨x0, x1, x2, x3, x4, x5⟩, y0, y1, y2, y3, y4, y5⟩ := zz.out w' hRw
     simp only [e6] at hK ⊢
     go_simp
     have hK2 := hK _ _ ⟨hRw, Below.refl _ _, rfl⟩
     exact hK2
    case s8 =>
     intro x w' hRw hd K9 hK
     simp only [All, GU] at hd
     obtain ⟨_⟩ := hd
     simp +decide only [upd, GU, fillL, if_true, if_false] at hK ⊢
     go_simp
     have hK2 := hK _ _ ⟨hRw, Below.refl _ _, rfl⟩
     exact hK2
    case s9 =>
     intro x w' hRw hd K9 hK
     simp only [All, GU] at hd
     obtain ⟨e7, e8, _⟩ := hd
     simp +decide only [upd, GU, fillL, if_true, if_false] at hK ⊢
     simp only [e7, e8] at hK ⊢
     go_simp
     have hK2 := hK _ _ ⟨hRw, Below.refl _ _, rfl⟩
     exact hK2
    case s10 =>
     intro x w' hRw hd K9 hK
     simp only [All, GU] at hd
     obtain ⟨e9, _⟩ := hd
     simp +decide only [upd, GU, fillL, if_true, if_false] at hK ⊢
     simp only [e9] at hK ⊢
     go_simp
     have hK2 := hK _ _ ⟨hRw, Below.refl _ _, rfl⟩
     exact hK2
    case s11 =>
     intro x w' hRw hd K9 hK
     simp only [All, GU] at hd
     obtain ⟨e10, _⟩ := hd
     simp +decide only [upd, GU, fillL, if_true, if_false] at hK ⊢
     obtain ⟨⟨z0, z1, z2, z3, z4⟩, ⟨t0, t1, t2, t3, t4⟩, ⟨x0, x1, x2, x3, x4, x5⟩, y0, y1, y2, y3, y4, y5⟩ := zz.out w' hRw
     simp only [e10] at hK ⊢
     go_simp
     have hK2 := hK _ _ ⟨hRw, Below.refl _ _, rfl⟩
     exact hK2
    case s12 =>
     intro x w' hRw hd K9 hK
     simp only [All, GU] at hd
     obtain ⟨e5, e11, _⟩ := hd
     simp +decide only [upd, GU, fillL, if_true, if_false] at hK ⊢
     simp only [e5, e11] at hK ⊢
     go_simp
     try simp only [hkn]
     have hK2 := hK _ _ ⟨hRw, Below.refl _ _, rfl⟩
     exact hK2
    case s13 =>
     intro x w' hRw hd K9 hK
     simp only [All, GU] at hd
     obtain ⟨e12, _⟩ := hd
     simp +decide only [upd, GU, fillL, if_true, if_false] at hK ⊢
     simp only [e12] at hK ⊢
     go_simp
     have hK2 := hK _ _ ⟨hRw, Below.refl _ _, rfl⟩
     exact hK2
    case s14 =>
     intro x w' hRw hd K9 hK
     simp only [All, GU] at hd
     obtain ⟨e13, _⟩ := hd
     simp +decide only [upd, GU, fillL, if_true, if_false] at hK ⊢
     simp only [e13] at hK ⊢
     cases kn with
     | true =>
      go_simp
      have hK2 := hK undef _ ⟨hRw, Below.refl _ _, fun h => by cases h⟩
      exact hK2
     | false =>
      go_simp
      have hK2 := hK _ _ ⟨hRw, Below.refl _ _, fun _ => rfl⟩
      exact hK2
    case s15 =>
     intro x w' hRw hd K9 hK
     simp only [All, GU] at hd
     obtain ⟨e14, e13, _⟩ := hd
     simp +decide only [upd, GU, fillL, if_true, if_false] at hK ⊢
     obtain ⟨⟨z0, z1, z2, z3, z4⟩, ⟨t0, t1, t2, t3, t4⟩, ⟨x0, x1, x2, x3, x4, x5⟩, y0, y1, y2, y3, y4, y5⟩ := zz.out w' hRw
     simp only [e13] at hK ⊢
     cases kn with
     | true =>
      go_simp
      have hK2 := hK undef _ ⟨hRw, Below.refl _ _, fun h => by cases h⟩
      exact hK2
     | false =>
      simp only [e14 rfl] at hK ⊢
      go_simp
      have hK2 := hK _ _ ⟨hRw, Below.refl _ _, fun _ => rfl⟩
      exact hK2
    case s16 =>
     intro x w' hRw hd K9 hK
     simp only [All, GU] at hd
     obtain ⟨e13, _⟩ := hd
     simp +decide only [upd, GU, fillL, if_true, if_false] at hK ⊢
     simp only [e13] at hK ⊢
     cases kn with
     | true =>
      go_simp
      have hK2 := hK undef _ ⟨hRw, Below.refl _ _, fun h => by cases h⟩
      exact hK2
     | false =>
      go_simp
      have hK2 := hK _ _ ⟨hRw, Below.refl _ _, fun _ => rfl⟩
      exact hK2
    case s17 =>
     intro x w' hRw hd K9 hK
     simp only [All, GU] at hd
     obtain ⟨e15, e16, e13, _⟩ := hd
     simp +decide only [upd, GU, fillL, if_true, if_false] at hK ⊢
     simp only [e13] at hK ⊢
     cases kn with
     | true =>
      go_simp
      have hK2 := hK undef _ ⟨hRw, Below.refl _ _, fun h => by cases h⟩
      exact hK2
     | false =>
      simp only [e15 rfl, e16 rfl] at hK ⊢
      go_simp
      have hK2 := hK _ _ ⟨hRw, Below.refl _ _, fun _ => rfl⟩
      exact hK2
    case s18 =>
     intro x w' hRw hd K9 hK
     simp only [All, GU] at hd
     obtain ⟨e17, e13, _⟩ := hd
     simp +decide only [upd, GU, fillL, if_true, if_false] at hK ⊢
     simp only [e13] at hK ⊢
     cases kn with
     | true =>
      go_simp
      have hK2 := hK undef _ ⟨hRw, Below.refl _ _, fun h => by cases h⟩
      exact hK2
     | false =>
      simp only [e17 rfl] at hK ⊢
      go_simp
      have hK2 := hK _ _ ⟨hRw, Below.refl _ _, fun _ => rfl⟩
      exact hK2
    case s19 =>
     intro x w' hRw hd K9 hK
     simp only [All, GU] at hd
     obtain ⟨e18, e13, _⟩ := hd
     simp +decide only [upd, GU, fillL, if_true, if_false] at hK ⊢
     obtain ⟨⟨z0, z1, z2, z3, z4⟩, ⟨t0, t1, t2, t3, t4⟩, ⟨x0, x1, x2, x3, x4, x5⟩, y0, y1, y2, y3, y4, y5⟩ := zz.out w' hRw
     simp only [e13] at hK ⊢
     cases kn with
     | true =>
      go_simp
      have hK2 := hK undef _ ⟨hRw, Below.refl _ _, fun h => by cases h⟩
      exact hK2
     | false =>
      simp only [e18 rfl] at hK ⊢
      go_simp
      have hK2 := hK _ _ ⟨hRw, Below.refl _ _, fun _ => rfl⟩
      exact hK2
    case s20 =>
     intro x w' hRw hd K9 hK
     simp only [All, GU] at hd
     obtain ⟨e13, _⟩ := hd
     simp +decide only [upd, GU, fillL, if_true, if_false] at hK ⊢
     simp only [e13] at hK ⊢
     cases kn with
     | true =>
      go_simp
      have hK2 := hK undef _ ⟨hRw, Below.refl _ _, fun h => by cases h⟩
      exact hK2
     | false =>
      go_simp
      have hK2 := hK _ _ ⟨hRw, Below.refl _ _, fun _ => rfl⟩
      exact hK2
    case s21 =>
     intro x w' hRw hd K9 hK
     simp only [All, GU] at hd
     obtain ⟨e20, e13, _⟩ := hd
     simp +decide only [upd, GU, fillL, if_true, if_false] at hK ⊢
     obtain ⟨⟨z0, z1, z2, z3, z4⟩, ⟨t0, t1, t2, t3, t4⟩, ⟨x0, x1, x2, x3, x4, x5⟩, y0, y1, y2, y3, y4, y5⟩ := zz.out w' hRw
     simp only [e13] at hK ⊢
     cases kn with
     | true =>
      go_simp
      have hK2 := hK undef _ ⟨hRw, Below.refl _ _, fun h => by cases h⟩
      exact hK2
     | false =>
      simp only [e20 rfl] at hK ⊢
      go_simp
      have hK2 := hK _ _ ⟨hRw, Below.refl _ _, fun _ => rfl⟩
      exact hK2
    case s22 =>
     intro x w' hRw hd K9 hK
     simp only [All, GU] at hd
     obtain ⟨e13, _⟩ := hd
     simp +decide only [upd, GU, fillL, if_true, if_false] at hK ⊢
     simp only [e13] at hK ⊢
     cases kn with
     | true =>
      go_simp
      have hK2 := hK undef _ ⟨hRw, Below.refl _ _, fun h => by cases h⟩
      exact hK2
     | false =>
      go_simp
      have hK2 := hK _ _ ⟨hRw, Below.refl _ _, fun _ => rfl⟩
      exact hK2
    case s23 =>
     intro x w' hRw hd K9 hK
     simp only [All, GU] at hd
     obtain ⟨e21, e22, e13, _⟩ := hd
     simp +decide only [upd, GU, fillL, if_true, if_false] at hK ⊢
     simp only [e13] at hK ⊢
     cases kn with
     | true =>
      go_simp
      have hK2 := hK undef _ ⟨hRw, Below.refl _ _, fun h => by cases h⟩
      exact hK2
     | false =>
      simp only [e21 rfl, e22 rfl] at hK ⊢
      go_simp
      have hK2 := hK _ _ ⟨hRw, Below.refl _ _, fun _ => rfl⟩
      exact hK2
    case s24 =>
     intro x w' hRw hd K9 hK
     simp only [All, GU] at hd
     obtain ⟨e23, e13, _⟩ := hd
     simp +decide only [upd, GU, fillL, if_true, if_false] at hK ⊢
     simp only [e13] at hK ⊢
     cases kn with
     | true =>
      go_simp
      have hK2 := hK undef _ ⟨hRw, Below.refl _ _, fun h => by cases h⟩
      exact hK2
     | false =>
      simp only [e23 rfl] at hK ⊢
      go_simp
      have hK2 := hK _ _ ⟨hRw, Below.refl _ _, fun _ => rfl⟩
      exact hK2
    case s25 =>
     intro x w' hRw hd K9 hK
     simp only [All, GU] at hd
     obtain ⟨e24, e13, _⟩ := hd
     simp +decide only [upd, GU, fillL, if_true, if_false] at hK ⊢
     obtain ⟨⟨z0, z1, z2, z3, z4⟩, ⟨t0, t1, t2, t3, t4⟩, ⟨x0, x1, x2, x3, x4, x5⟩, y0, y1, y2, y3, y4, y5⟩ := zz.out w' hRw
     simp only [e13] at hK ⊢
     cases kn with
     | true =>
      go_simp
      have hK2 := hK undef _ ⟨hRw, Below.refl _ _, fun h => by cases h⟩
      exact hK2
     | false =>
      simp only [e24 rfl] at hK ⊢
      go_simp
      have hK2 := hK _ _ ⟨hRw, Below.refl _ _, fun _ => rfl⟩
      exact hK2
    case s26 =>
     intro x w' hRw hd K9 hK
     simp only [All, GU] at hd
     obtain ⟨e19, e25, e13, _⟩ := hd
     simp +decide only [upd, GU, fillL, if_true, if_false] at hK ⊢
     simp only [e13] at hK ⊢
     cases kn with
     | true =>
      go_simp
      have hK2 := hK undef _ ⟨hRw, Below.refl _ _, fun h => by cases h⟩
      exact hK2
     | false =>
      simp only [e19 rfl, e25 rfl] at hK ⊢
      go_simp
      refine (c8.out w' hRw).mono ?_
      rintro e' w9 ⟨rfl, hB9⟩
      have hK2 := hK _ _ ⟨bthen hRw hB9, hB9, fun _ => rfl⟩
      exact hK2
    case s27 =>
     intro x w' hRw hd K9 hK
     simp only [All, GU] at hd
     obtain ⟨e26, e13, _⟩ := hd
     simp +decide only [upd, GU, fillL, if_true, if_false] at hK ⊢
     simp only [e13] at hK ⊢
     cases kn with
     | true =>
      go_simp
      have hK2 := hK undef _ ⟨hRw, Below.refl _ _, fun h => by cases h⟩
      exact hK2
     | false =>
      simp only [e26 rfl] at hK ⊢
      go_simp
      have hK2 := hK _ _ ⟨hRw, Below.refl _ _, fun _ => rfl⟩
      exact hK2
   ·obtain rfl : k = m := by omega
    have hT : E = true := by
     rw [hal2.out, List.all_eq_true]; intro j hj; exact hP j (List.mem_range.1 hj)
    subst hT
    have hbw : Below w.heap.size w wr := bthen hb2.out hB
    replace hbw := hi_ hbw
    replace hB := hi_ hB
    replace hP := hi_ hP
    go_wp2
    go_ret
    exact ⟨rfl, hbw.out⟩
 ·have hF := hne.out hmm
  subst hF
  have qm : ((m : Int) == (m' : Int)) = false := by rw [beq_eq_false_iff_ne]; omega
  have qm2 : ((m : Int) != (m' : Int)) = true := by rw [bne, qm]; rfl
  clear hall
  replace hmm := hi_ hmm
  go_wp2
  go_ret
  exact ⟨rfl, hb2.out⟩

/- Entries held against each other, by the document. No condition. -/
set_option maxHeartbeats 8000000 in
set_option maxRecDepth 100000 in
theorem same_dict8 (N : Nat) (hN : N ≤ 1048576) (hs : SameC N) (n n' : Int) (b b' : List UInt8) (l l' : List Ob) (d d' : List (List UInt8 × Ob)) (vs us : List Value) (w : World) (h : ObAt w (.mk 8 n b l d) vs) (h' : ObAt w (.mk 8 n' b' l' d') us) (hbk : b.length + bulkD d ≤ N) (hbk' : b'.length + bulkD d' ≤ 1048576) :
 Calls Tryz.prog 23 #[.agg vs.toArray, .agg us.toArray] w fun e w' => e = .returned (.bool ((b == b') && sameD d d')) ∧ Below w.heap.size w w' := by
 have zl := bulkD_len d
 have zl' := bulkD_len d'
 have zb1 : b.length ≤ 1048576 := by omega
 have zb1' : b'.length ≤ 1048576 := by omega
 cases h with
 | mk k n b l d A AL AD c cL cD gL oL gD oD vl vd h1 h2 h3 h4 hB5 h6 h7 h8 h9 h10 h11 h12 h13 h14 hA hl hkey hlv =>
 cases h' with
 | mk k' n' b' l' d' A' AL' AD' c' cL' cD' gL' oL' gD' oD' vl' vd' i1 i2 i3 i4 iB5 i6 i7 i8 i9 i10 i11 i12 i13 i14 hA' hl' hkey' hlv' =>
 obtain ⟨m, hm⟩ : ∃ m, m = d.length := ⟨_, rfl⟩
 obtain ⟨m', hm'⟩ : ∃ m, m = d'.length := ⟨_, rfl⟩
 rw [← hm] at zl ⊢
 rw [← hm'] at zl' ⊢
 have zm : m ≤ 1048576 := by omega
 have zm' : m' ≤ 1048576 := by omega
 obtain ⟨W1, hW1⟩ : ∃ W, W = w.alloc (.cells #[.int .i64 8, .int .i64 n, .slice A b.length c, .slice AL l.length cL, .slice AD m cD] 26) := ⟨_, rfl⟩
 obtain ⟨W2, hW2⟩ : ∃ W, W = W1.alloc (.cells #[.int .i64 8, .int .i64 n', .slice A' b'.length c', .slice AL' l'.length cL', .slice AD' m' cD'] 26) := ⟨_, rfl⟩
 have hb2 : Below w.heap.size w W2 := by rw [hW2, hW1]; exact ((Below.refl _ _).alloc (Nat.le_refl _) _).alloc (by rw [World.size_alloc]; omega) _
 have ff := ten_cells hW1 hW2
 obtain ⟨⟨f0, f1, f2, f3, f4⟩, g0, g1, g2, g3, g4⟩ := id ff
 obtain ⟨E, hE⟩ : ∃ E, E = sameD d d' := ⟨_, rfl⟩
 rw [← hE]
 have hne : m ≠ m' → E = false := fun h => by rw [hE]; exact sameD_len d d' (by omega)
 have hall : m = m' → E = (List.range m).all (atT d d') := fun h => by rw [hE, hm]; exact sameD_all d d' (by omega)
 have c7 := ref_Same A A' c c' b b' W2 (hB5.below hb2) (iB5.below hb2) (by omega) (by omega)
 have hbe : (b == b') = decide (b = b') := by by_cases h : b = b' <;> simp [h]
 rw [hbe]
 clear hbe
 obtain ⟨bb, hbb⟩ : ∃ z, z = decide (b = b') := ⟨_, rfl⟩
 rw [← hbb] at c7 ⊢
 replace hbb := hi_ hbb
 clear h1 h2 h3 h4 hB5 h6 h7 h8 h9 h10 h11 h12 h13 h14 i1 i2 i3 i4 iB5 i6 i7 i8 i9 i10 i11 i12 i13 i14
 replace hE := hi_ hE
 replace hm := hi_ hm
 replace hm' := hi_ hm'
 replace hA := hi_ hA
 replace hl := hi_ hl
 replace hlv := hi_ hlv
 replace hkey := hi_ hkey
 replace hA' := hi_ hA'
 replace hl' := hi_ hl'
 replace hlv' := hi_ hlv'
 replace hkey' := hi_ hkey'
 replace hs := hi_ hs
 replace hb2 := hi_ hb2
 replace ff := hi_ ff
 replace hne := hi_ hne
 replace hall := hi_ hall
 cases bb with
 | false =>
  rw [Bool.false_and]
  go_enter Tryz.func23, Tryz.ntmps23
  go_upto_region 1 with (fail)
  rw [← hW1, ← hW2]
  replace hW1 := hi_ hW1
  replace hW2 := hi_ hW2
  by_cases hmm : m = m'
  ·subst hmm
   clear hne hall
   go_wp2_with (go_at_call 11; (with_reducible refine c7.mono ?_); rintro e w3 ⟨rfl, hB3⟩; replace hB3 := hi_ hB3)
   go_ret
   exact ⟨rfl, bthen hb2.out hB3.out⟩
  ·have qm : ((m : Int) == (m' : Int)) = false := by rw [beq_eq_false_iff_ne]; omega
   have qm2 : ((m : Int) != (m' : Int)) = true := by rw [bne, qm]; rfl
   replace hmm := hi_ hmm
   go_wp2
   go_ret
   exact ⟨rfl, hb2.out⟩
 | true =>
 rw [Bool.true_and]
 go_enter Tryz.func23, Tryz.ntmps23
 go_upto_region 1 with (fail)
 rw [← hW1, ← hW2]
 replace hW1 := hi_ hW1
 replace hW2 := hi_ hW2
 by_cases hmm : m = m'
 ·subst hmm
  have hal2 := hall.out rfl
  replace hal2 := hi_ hal2
  clear hne hall
  go_wp2_with (go_at_call 11; (with_reducible refine c7.mono ?_); rintro e w3 ⟨rfl, hB3⟩; replace hB3 := hi_ hB3)
  go_loopw [6] (fun s6 wr => ∃ k : Nat, k ≤ m ∧ s6 = .int .i64 k ∧ (∀ j, j < k → atT d d' j = true) ∧ Below W2.heap.size W2 wr) (fun s6 _ => m - (RowKit.intOf s6).toNat)
  case atStart => exact ⟨0, by omega, rfl, fun j hj => by omega, hB3.out⟩
  case round =>
   obtain ⟨k, hk, rfl, hP, hB⟩ := hrel
   have lB := hB.size
   obtain ⟨p0, p1, p2, p3, p4⟩ := five_kept ff.out.1 hB
   obtain ⟨q0, q1, q2, q3, q4⟩ := five_kept ff.out.2 hB
   by_cases hkm : k < m
   ·have hkl : k < d.length := by rw [← hm.out]; exact hkm
    have hkl' : k < d'.length := by rw [← hm'.out]; exact hkm
    have hAe := hA.out (by omega)
    have hAe' := hA'.out (by omega)
    subst hAe hAe'
    have hbw : Below w.heap.size w wr := bthen hb2.out hB
    obtain ⟨o, ho⟩ : ∃ o, o = d[k] := ⟨_, rfl⟩
    obtain ⟨o', ho'⟩ : ∃ o, o = d'[k] := ⟨_, rfl⟩
    have hob := (hl.out k hkl).kept hbw
    have hob' := (hl'.out k hkl').kept hbw
    have hcv := hlv.out k hkl
    have hcv' := hlv'.out k hkl'
    have hky := (hkey.out k hkl).2
    have hky' := (hkey'.out k hkl').2
    rw [← ho] at hob hky
    rw [← ho'] at hob' hky'
    have hzo : o.2.bulk ≤ N := by have := bulkD_at d k hkl; rw [← ho] at this; omega
    have hzo' : o'.2.bulk ≤ 1048576 := by have := bulkD_at d' k hkl'; rw [← ho'] at this; omega
    obtain ⟨us, hus⟩ : ∃ us, us = vd k := ⟨_, rfl⟩
    obtain ⟨us', hus'⟩ : ∃ us, us = vd' k := ⟨_, rfl⟩
    rw [← hus] at hob hcv
    rw [← hus'] at hob' hcv'
    obtain ⟨en, E1, E2, E3, en1, ec1, en2, ec2, en3, ec3, hys⟩ := ob_five2 hob
    obtain ⟨en', E1', E2', E3', en1', ec1', en2', ec2', en3', ec3', hys'⟩ := ob_five2 hob'
    obtain ⟨kk, hkk⟩ : ∃ k, k = o.2.kind := ⟨_, rfl⟩
    obtain ⟨kk', hkk'⟩ : ∃ k, k = o'.2.kind := ⟨_, rfl⟩
    rw [← hkk] at hys
    rw [← hkk'] at hys'
    subst hys hys'
    obtain ⟨K, hK⟩ : ∃ K, K = bytes o.1 := ⟨_, rfl⟩
    obtain ⟨K', hK'⟩ : ∃ K, K = bytes o'.1 := ⟨_, rfl⟩
    have kp : ∀ W, Below wr.heap.size wr W → W.cell? ⟨gD, oD + k * 6, none⟩ = some (.string K) ∧ W.cell? ⟨gD', oD' + k * 6, none⟩ = some (.string K') := fun W hW => by
     have h1 := (bthen hbw hW).cell (cell_lt hky) |>.trans hky
     have h2 := (bthen hbw hW).cell (cell_lt hky') |>.trans hky'
     rw [Nat.mul_comm] at h1 h2
     rw [h1, h2, hK, hK']; exact ⟨rfl, rfl⟩
    have five : ∀ W, Below wr.heap.size wr W → ∀ j u, [Value.int .i64 kk, .int .i64 en, .slice E1 en1 ec1, .slice E2 en2 ec2, .slice E3 en3 ec3][j]? = some u → W.cell? ⟨gD, oD + k * 6 + 1 + j, none⟩ = some u := fun W hW j u hj => by
     have h0 := hcv j (by have := (List.getElem?_eq_some_iff.1 hj).1; simpa using this)
     rw [hj] at h0
     have h1 := ((bthen hbw hW).cell (cell_lt h0)).trans h0
     rw [show oD + (6 * k + 1 + j) = oD + k * 6 + 1 + j by omega] at h1
     exact h1
    have five' : ∀ W, Below wr.heap.size wr W → ∀ j u, [Value.int .i64 kk', .int .i64 en', .slice E1' en1' ec1', .slice E2' en2' ec2', .slice E3' en3' ec3'][j]? = some u → W.cell? ⟨gD', oD' + k * 6 + 1 + j, none⟩ = some u := fun W hW j u hj => by
     have h0 := hcv' j (by have := (List.getElem?_eq_some_iff.1 hj).1; simpa using this)
     rw [hj] at h0
     have h1 := ((bthen hbw hW).cell (cell_lt h0)).trans h0
     rw [show oD' + (6 * k + 1 + j) = oD' + k * 6 + 1 + j by omega] at h1
     exact h1
    have zz : ∀ W, Below wr.heap.size wr W → (W.cell? ⟨w.heap.size, 0, none⟩ = some (.int .i64 8) ∧ W.cell? ⟨w.heap.size, 1, none⟩ = some (.int .i64 n) ∧ W.cell? ⟨w.heap.size, 2, none⟩ = some (.slice A b.length c) ∧ W.cell? ⟨w.heap.size, 3, none⟩ = some (.slice AL l.length cL) ∧ W.cell? ⟨w.heap.size, 4, none⟩ = some (.slice (some ⟨gD, oD, none⟩) m cD)) ∧
     (W.cell? ⟨w.heap.size + 1, 0, none⟩ = some (.int .i64 8) ∧ W.cell? ⟨w.heap.size + 1, 1, none⟩ = some (.int .i64 n') ∧ W.cell? ⟨w.heap.size + 1, 2, none⟩ = some (.slice A' b'.length c') ∧ W.cell? ⟨w.heap.size + 1, 3, none⟩ = some (.slice AL' l'.length cL') ∧ W.cell? ⟨w.heap.size + 1, 4, none⟩ = some (.slice (some ⟨gD', oD', none⟩) m cD')) ∧
     (W.cell? ⟨gD, oD + k * 6, none⟩ = some (.string K) ∧ W.cell? ⟨gD, oD + k * 6 + 1, none⟩ = some (.int .i64 kk) ∧ W.cell? ⟨gD, oD + k * 6 + 2, none⟩ = some (.int .i64 en) ∧ W.cell? ⟨gD, oD + k * 6 + 3, none⟩ = some (.slice E1 en1 ec1) ∧ W.cell? ⟨gD, oD + k * 6 + 4, none⟩ = some (.slice E2 en2 ec2) ∧ W.cell? ⟨gD, oD + k * 6 + 5, none⟩ = some (.slice E3 en3 ec3)) ∧
     (W.cell? ⟨gD', oD' + k * 6, none⟩ = some (.string K') ∧ W.cell? ⟨gD', oD' + k * 6 + 1, none⟩ = some (.int .i64 kk') ∧ W.cell? ⟨gD', oD' + k * 6 + 2, none⟩ = some (.int .i64 en') ∧ W.cell? ⟨gD', oD' + k * 6 + 3, none⟩ = some (.slice E1' en1' ec1') ∧ W.cell? ⟨gD', oD' + k * 6 + 4, none⟩ = some (.slice E2' en2' ec2') ∧ W.cell? ⟨gD', oD' + k * 6 + 5, none⟩ = some (.slice E3' en3' ec3')) := fun W hW =>
     ⟨five_kept ff.out.1 (bthen hB hW), five_kept ff.out.2 (bthen hB hW), ⟨(kp W hW).1, five W hW 0 _ rfl, five W hW 1 _ rfl, five W hW 2 _ rfl, five W hW 3 _ rfl, five W hW 4 _ rfl⟩, (kp W hW).2, five' W hW 0 _ rfl, five' W hW 1 _ rfl, five' W hW 2 _ rfl, five' W hW 3 _ rfl, five' W hW 4 _ rfl⟩
    have hat : atT d d' k = (o.1 == o'.1 && sameB o.2 o'.2) := by unfold atT; rw [List.getElem?_eq_getElem hkl, List.getElem?_eq_getElem hkl', ho, ho']
    have c8 := fun W (hW : Below wr.heap.size wr W) => hs.out o.2 o'.2 _ _ W (hob.kept hW) (hob'.kept hW) hzo hzo'
    obtain ⟨kn, hkn⟩ : ∃ kn, (!(K.toList == K'.toList)) = kn := ⟨_, rfl⟩
    have hkn3 : (o.1 == o'.1) = !kn := by rw [← hkn, hK, hK']; exact bytes_eq2 _ _
    obtain ⟨sb, hsb⟩ : ∃ sb, sb = sameB o.2 o'.2 := ⟨_, rfl⟩
    rw [← hsb, hkn3] at hat
    rw [← hsb] at c8
    clear five five' hcv hcv' hob hob' hus hus' hkk hkk' kp hky hky' hkn3 hzo hzo'
    replace ho := hi_ ho
    replace ho' := hi_ ho'
    replace hK := hi_ hK
    replace hK' := hi_ hK'
    replace hsb := hi_ hsb
    replace hB := hi_ hB
    replace hbw := hi_ hbw
    replace hP := hi_ hP
    replace hat := hi_ hat
    replace zz := hi_ zz
    replace c8 := hi_ c8
    go_upto_region 27 with (fail)
    refine wp_lin_tail (by kernel_rfl) [none, none, none, none, none, none, none, none, none, none, none, none, none, none, none, none, none, none, none, none, none, none, none, none, none, none, none, none, none, none, none, none, none, none, none, none, none, none, none, none, none, none, none, none, none, none, none, none, none, none, none, none, none, none, none, none, none, none, none, none, none, none, none, none, none, none, none, none, none, none, none, none, none, none, none, none, none, none, none, none, none, none, none, none, none, none, none, none, none, none, some 0, some 1, some 2, some 3, some 4, some 5, some 6, some 7, some 8, some 9, some 10, some 11, some 12, some 13, some 14, some 15, some 16, some 17, some 18, some 19, some 20, some 21, some 22, some 23, some 24, some 25, some 26, some 27, none] (fun w' => Below wr.heap.size wr w') (fun w' w'' => Below w'.heap.size w' w'') (GU w.heap.size (w.heap.size + 1) gD oD gD' oD' m cD cD' k K K' #[.int .i64 kk, .int .i64 en, .slice E1 en1 ec1, .slice E2 en2 ec2, .slice E3 en3 ec3] #[.int .i64 kk', .int .i64 en', .slice E1' en1' ec1', .slice E2' en2' ec2', .slice E3' en3' ec3'] kn sb) (by rfl) (by kernel_rfl) 28 _ rfl (by decide) (by kernel_rfl) [1, 3, 3, 4, 5, 12, 7, 9, 9, 10, 11, 12, 13, 28, 15, 17, 17, 18, 19, 26, 21, 23, 23, 24, 25, 26, 27, 28, 0] (by kernel_rfl) ?hR ?mono (.cons 27 (step_of [26, 13] rfl (by kernel_rfl) ?s27) (.cons 26 (step_of [19, 25, 13] rfl (by kernel_rfl) ?s26) (.cons 25 (step_of [24, 13] rfl (by kernel_rfl) ?s25) (.cons 24 (step_of [23, 13] rfl (by kernel_rfl) ?s24) (.cons 23 (step_of [21, 22, 13] rfl (by kernel_rfl) ?s23) (.cons 22 (step_of [13] rfl (by kernel_rfl) ?s22) (.cons 21 (step_of [20, 13] rfl (by kernel_rfl) ?s21) (.cons 20 (step_of [13] rfl (by kernel_rfl) ?s20) (.cons 19 (step_of [18, 13] rfl (by kernel_rfl) ?s19) (.cons 18 (step_of [17, 13] rfl (by kernel_rfl) ?s18) (.cons 17 (step_of [15, 16, 13] rfl (by kernel_rfl) ?s17) (.cons 16 (step_of [13] rfl (by kernel_rfl) ?s16) (.cons 15 (step_of [14, 13] rfl (by kernel_rfl) ?s15) (.cons 14 (step_of [13] rfl (by kernel_rfl) ?s14) (.cons 13 (step_of [12] rfl (by kernel_rfl) ?s13) (.cons 12 (step_of [5, 11] rfl (by kernel_rfl) ?s12) (.cons 11 (step_of [10] rfl (by kernel_rfl) ?s11) (.cons 10 (step_of [9] rfl (by kernel_rfl) ?s10) (.cons 9 (step_of [7, 8] rfl (by kernel_rfl) ?s9) (.cons 8 (step_of [] rfl (by kernel_rfl) ?s8) (.cons 7 (step_of [6] rfl (by kernel_rfl) ?s7) (.cons 6 (step_of [] rfl (by kernel_rfl) ?s6) (.cons 5 (step_of [4] rfl (by kernel_rfl) ?s5) (.cons 4 (step_of [3] rfl (by kernel_rfl) ?s4) (.cons 3 (step_of [1, 2] rfl (by kernel_rfl) ?s3) (.cons 2 (step_of [] rfl (by kernel_rfl) ?s2) (.cons 1 (step_of [0] rfl (by kernel_rfl) ?s1) (.cons 0 (step_of [] rfl (by kernel_rfl) ?s0) (.nil))))))))))))))))))))))))))))) ?done
    case hR => exact (Below.refl _ _).drew
    case mono => exact GU_mono
    case done =>
     intro x w4 hR2 hG fr hfr
     have e13 := hG 13 (by omega)
     have e27 := hG 27 (by omega)
     simp only [GU] at e13 e27
     clear hG
     simp only [fillL] at hfr
     rw [e13] at hfr
     replace hR2 := hi_ hR2
     cases kn with
     | true =>
      have hF : E = false := by
       rw [hal2.out, List.all_eq_false]; refine ⟨k, List.mem_range.2 hkm, ?_⟩; rw [hat.out]; simp
      subst hfr
      clear e27
      go_wp2
      go_ret
      exact ⟨by first | rfl | (rw [hF]; rfl), bthen hbw.out hR2.out⟩
     | false =>
      rw [e27 rfl] at hfr
      subst hfr
      clear e27
      cases sb with
      | true =>
       have hP2 : ∀ j, j < k + 1 → atT d d' j = true := fun j hj => by
        by_cases h : j = k
        ·rw [h]; exact hat.out
        ·exact hP.out j (by omega)
       replace hP2 := hi_ hP2
       go_wp2
       go_roundw
       case rel => exact ⟨k + 1, by omega, by go_num, hP2.out, hB.out.trans (hR2.out.mono lB)⟩
       case measure => simp [RowKit.intOf]; omega
      | false =>
       have hF : E = false := by
        rw [hal2.out, List.all_eq_false]; refine ⟨k, List.mem_range.2 hkm, ?_⟩; rw [hat.out]; simp
       go_wp2
       go_ret
       exact ⟨by first | rfl | (rw [hF]; rfl), bthen hbw.out hR2.out⟩
    case s0 =>
     intro x w' hRw hd K9 hK
     simp only [All, GU] at hd
     obtain ⟨_⟩ := hd
     simp +decide only [upd, GU, fillL, if_true, if_false] at hK ⊢
     go_simp
     have hK2 := hK _ _ ⟨hRw, Below.refl _ _, rfl⟩
     exact hK2
    case s1 =>
     intro x w' hRw hd K9 hK
     simp only [All, GU] at hd
     obtain ⟨e0, _⟩ := hd
     simp +decide only [upd, GU, fillL, if_true, if_false] at hK ⊢
     obtain ⟨⟨z0, z1, z2, z3, z4⟩, ⟨t0, t1, t2, t3, t4⟩, ⟨x0, x1, x2, x3, x4, x5⟩, y0, y1, y2, y3, y4, y5⟩ := zz.out w' hRw
     simp only [e0] at hK ⊢
     go_simp
     have hK2 := hK _ _ ⟨hRw, Below.refl _ _, rfl⟩
     exact hK2
    case s2 =>
     intro x w' hRw hd K9 hK
     simp only [All, GU] at hd
     obtain ⟨_⟩ := hd
     simp +decide only [upd, GU, fillL, if_true, if_false] at hK ⊢
     go_simp
     have hK2 := hK _ _ ⟨hRw, Below.refl _ _, rfl⟩
     exact hK2
    case s3 =>
     intro x w' hRw hd K9 hK
     simp only [All, GU] at hd
     obtain ⟨e1, e2, _⟩ := hd
     simp +decide only [upd, GU, fillL, if_true, if_false] at hK ⊢
     simp only [e1, e2] at hK ⊢
     go_simp
     have hK2 := hK _ _ ⟨hRw, Below.refl _ _, rfl⟩
     exact hK2
    case s4 =>
     intro x w' hRw hd K9 hK
     simp only [All, GU] at hd
     obtain ⟨e3, _⟩ := hd
     simp +decide only [upd, GU, fillL, if_true, if_false] at hK ⊢
     simp only [e3] at hK ⊢
     go_simp
     have hK2 := hK _ _ ⟨hRw, Below.refl _ _, rfl⟩
     exact hK2
    case s5 =>
     intro x w' hRw hd K9 hK
     simp only [All, GU] at hd
     obtain ⟨e4, _⟩ := hd
     simp +decide only [upd, GU, fillL, if_true, if_false] at hK ⊢
     obtain ⟨⟨z0, z1, z2, z3, z4⟩, ⟨t0, t1, t2, t3, t4⟩, ⟨x0, x1, x2, x3, x4, x5⟩, y0, y1, y2, y3, y4, y5⟩ := zz.out w' hRw
     simp only [e4] at hK ⊢
     go_simp
     have hK2 := hK _ _ ⟨hRw, Below.refl _ _, rfl⟩
     exact hK2
    case s6 =>
     intro x w' hRw hd K9 hK
     simp only [All, GU] at hd
     obtain ⟨_⟩ := hd
     simp +decide only [upd, GU, fillL, if_true, if_false] at hK ⊢
     go_simp
     have hK2 := hK _ _ ⟨hRw, Below.refl _ _, rfl⟩
     exact hK2
    case s7 =>
     intro x w' hRw hd K9 hK
     simp only [All, GU] at hd
     obtain ⟨e6, _⟩ := hd
     simp +decide only [upd, GU, fillL, if_true, if_false] at hK ⊢
     obtain ⟨⟨z0, z1, z2, z3, z4⟩, ⟨t0, t1, t2, t3, t4⟩, ⟨x0, x1, x2, x3, x4, x5⟩, y0, y1, y2, y3, y4, y5⟩ := zz.out w' hRw
     simp only [e6] at hK ⊢
     go_simp
     have hK2 := hK _ _ ⟨hRw, Below.refl _ _, rfl⟩
     exact hK2
    case s8 =>
     intro x w' hRw hd K9 hK
     simp only [All, GU] at hd
     obtain ⟨_⟩ := hd
     simp +decide only [upd, GU, fillL, if_true, if_false] at hK ⊢
     go_simp
     have hK2 := hK _ _ ⟨hRw, Below.refl _ _, rfl⟩
     exact hK2
    case s9 =>
     intro x w' hRw hd K9 hK
     simp only [All, GU] at hd
     obtain ⟨e7, e8, _⟩ := hd
     simp +decide only [upd, GU, fillL, if_true, if_false] at hK ⊢
     simp only [e7, e8] at hK ⊢
     go_simp
     have hK2 := hK _ _ ⟨hRw, Below.refl _ _, rfl⟩
     exact hK2
    case s10 =>
     intro x w' hRw hd K9 hK
     simp only [All, GU] at hd
     obtain ⟨e9, _⟩ := hd
     simp +decide only [upd, GU, fillL, if_true, if_false] at hK ⊢
     simp only [e9] at hK ⊢
     go_simp
     have hK2 := hK _ _ ⟨hRw, Below.refl _ _, rfl⟩
     exact hK2
    case s11 =>
     intro x w' hRw hd K9 hK
     simp only [All, GU] at hd
     obtain ⟨e10, _⟩ := hd
     simp +decide only [upd, GU, fillL, if_true, if_false] at hK ⊢
     obtain ⟨⟨z0, z1, z2, z3, z4⟩, ⟨t0, t1, t2, t3, t4⟩, ⟨x0, x1, x2, x3, x4, x5⟩, y0, y1, y2, y3, y4, y5⟩ := zz.out w' hRw
     simp only [e10] at hK ⊢
     go_simp
     have hK2 := hK _ _ ⟨hRw, Below.refl _ _, rfl⟩
     exact hK2
    case s12 =>
     intro x w' hRw hd K9 hK
     simp only [All, GU] at hd
     obtain ⟨e5, e11, _⟩ := hd
     simp +decide only [upd, GU, fillL, if_true, if_false] at hK ⊢
     simp only [e5, e11] at hK ⊢
     go_simp
     try simp only [hkn]
     have hK2 := hK _ _ ⟨hRw, Below.refl _ _, rfl⟩
     exact hK2
    case s13 =>
     intro x w' hRw hd K9 hK
     simp only [All, GU] at hd
     obtain ⟨e12, _⟩ := hd
     simp +decide only [upd, GU, fillL, if_true, if_false] at hK ⊢
     simp only [e12] at hK ⊢
     go_simp
     have hK2 := hK _ _ ⟨hRw, Below.refl _ _, rfl⟩
     exact hK2
    case s14 =>
     intro x w' hRw hd K9 hK
     simp only [All, GU] at hd
     obtain ⟨e13, _⟩ := hd
     simp +decide only [upd, GU, fillL, if_true, if_false] at hK ⊢
     simp only [e13] at hK ⊢
     cases kn with
     | true =>
      go_simp
      have hK2 := hK undef _ ⟨hRw, Below.refl _ _, fun h => by cases h⟩
      exact hK2
     | false =>
      go_simp
      have hK2 := hK _ _ ⟨hRw, Below.refl _ _, fun _ => rfl⟩
      exact hK2
    case s15 =>
     intro x w' hRw hd K9 hK
     simp only [All, GU] at hd
     obtain ⟨e14, e13, _⟩ := hd
     simp +decide only [upd, GU, fillL, if_true, if_false] at hK ⊢
     obtain ⟨⟨z0, z1, z2, z3, z4⟩, ⟨t0, t1, t2, t3, t4⟩, ⟨x0, x1, x2, x3, x4, x5⟩, y0, y1, y2, y3, y4, y5⟩ := zz.out w' hRw
     simp only [e13] at hK ⊢
     cases kn with
     | true =>
      go_simp
      have hK2 := hK undef _ ⟨hRw, Below.refl _ _, fun h => by cases h⟩
      exact hK2
     | false =>
      simp only [e14 rfl] at hK ⊢
      go_simp
      have hK2 := hK _ _ ⟨hRw, Below.refl _ _, fun _ => rfl⟩
      exact hK2
    case s16 =>
     intro x w' hRw hd K9 hK
     simp only [All, GU] at hd
     obtain ⟨e13, _⟩ := hd
     simp +decide only [upd, GU, fillL, if_true, if_false] at hK ⊢
     simp only [e13] at hK ⊢
     cases kn with
     | true =>
      go_simp
      have hK2 := hK undef _ ⟨hRw, Below.refl _ _, fun h => by cases h⟩
      exact hK2
     | false =>
      go_simp
      have hK2 := hK _ _ ⟨hRw, Below.refl _ _, fun _ => rfl⟩
      exact hK2
    case s17 =>
     intro x w' hRw hd K9 hK
     simp only [All, GU] at hd
     obtain ⟨e15, e16, e13, _⟩ := hd
     simp +decide only [upd, GU, fillL, if_true, if_false] at hK ⊢
     simp only [e13] at hK ⊢
     cases kn with
     | true =>
      go_simp
      have hK2 := hK undef _ ⟨hRw, Below.refl _ _, fun h => by cases h⟩
      exact hK2
     | false =>
      simp only [e15 rfl, e16 rfl] at hK ⊢
      go_simp
      have hK2 := hK _ _ ⟨hRw, Below.refl _ _, fun _ => rfl⟩
      exact hK2
    case s18 =>
     intro x w' hRw hd K9 hK
     simp only [All, GU] at hd
     obtain ⟨e17, e13, _⟩ := hd
     simp +decide only [upd, GU, fillL, if_true, if_false] at hK ⊢
     simp only [e13] at hK ⊢
     cases kn with
     | true =>
      go_simp
      have hK2 := hK undef _ ⟨hRw, Below.refl _ _, fun h => by cases h⟩
      exact hK2
     | false =>
      simp only [e17 rfl] at hK ⊢
      go_simp
      have hK2 := hK _ _ ⟨hRw, Below.refl _ _, fun _ => rfl⟩
      exact hK2
    case s19 =>
     intro x w' hRw hd K9 hK
     simp only [All, GU] at hd
     obtain ⟨e18, e13, _⟩ := hd
     simp +decide only [upd, GU, fillL, if_true, if_false] at hK ⊢
     obtain ⟨⟨z0, z1, z2, z3, z4⟩, ⟨t0, t1, t2, t3, t4⟩, ⟨x0, x1, x2, x3, x4, x5⟩, y0, y1, y2, y3, y4, y5⟩ := zz.out w' hRw
     simp only [e13] at hK ⊢
     cases kn with
     | true =>
      go_simp
      have hK2 := hK undef _ ⟨hRw, Below.refl _ _, fun h => by cases h⟩
      exact hK2
     | false =>
      simp only [e18 rfl] at hK ⊢
      go_simp
      have hK2 := hK _ _ ⟨hRw, Below.refl _ _, fun _ => rfl⟩
      exact hK2
    case s20 =>
     intro x w' hRw hd K9 hK
     simp only [All, GU] at hd
     obtain ⟨e13, _⟩ := hd
     simp +decide only [upd, GU, fillL, if_true, if_false] at hK ⊢
     simp only [e13] at hK ⊢
     cases kn with
     | true =>
      go_simp
      have hK2 := hK undef _ ⟨hRw, Below.refl _ _, fun h => by cases h⟩
      exact hK2
     | false =>
      go_simp
      have hK2 := hK _ _ ⟨hRw, Below.refl _ _, fun _ => rfl⟩
      exact hK2
    case s21 =>
     intro x w' hRw hd K9 hK
     simp only [All, GU] at hd
     obtain ⟨e20, e13, _⟩ := hd
     simp +decide only [upd, GU, fillL, if_true, if_false] at hK ⊢
     obtain ⟨⟨z0, z1, z2, z3, z4⟩, ⟨t0, t1, t2, t3, t4⟩, ⟨x0, x1, x2, x3, x4, x5⟩, y0, y1, y2, y3, y4, y5⟩ := zz.out w' hRw
     simp only [e13] at hK ⊢
     cases kn with
     | true =>
      go_simp
      have hK2 := hK undef _ ⟨hRw, Below.refl _ _, fun h => by cases h⟩
      exact hK2
     | false =>
      simp only [e20 rfl] at hK ⊢
      go_simp
      have hK2 := hK _ _ ⟨hRw, Below.refl _ _, fun _ => rfl⟩
      exact hK2
    case s22 =>
     intro x w' hRw hd K9 hK
     simp only [All, GU] at hd
     obtain ⟨e13, _⟩ := hd
     simp +decide only [upd, GU, fillL, if_true, if_false] at hK ⊢
     simp only [e13] at hK ⊢
     cases kn with
     | true =>
      go_simp
      have hK2 := hK undef _ ⟨hRw, Below.refl _ _, fun h => by cases h⟩
      exact hK2
     | false =>
      go_simp
      have hK2 := hK _ _ ⟨hRw, Below.refl _ _, fun _ => rfl⟩
      exact hK2
    case s23 =>
     intro x w' hRw hd K9 hK
     simp only [All, GU] at hd
     obtain ⟨e21, e22, e13, _⟩ := hd
     simp +decide only [upd, GU, fillL, if_true, if_false] at hK ⊢
     simp only [e13] at hK ⊢
     cases kn with
     | true =>
      go_simp
      have hK2 := hK undef _ ⟨hRw, Below.refl _ _, fun h => by cases h⟩
      exact hK2
     | false =>
      simp only [e21 rfl, e22 rfl] at hK ⊢
      go_simp
      have hK2 := hK _ _ ⟨hRw, Below.refl _ _, fun _ => rfl⟩
      exact hK2
    case s24 =>
     intro x w' hRw hd K9 hK
     simp only [All, GU] at hd
     obtain ⟨e23, e13, _⟩ := hd
     simp +decide only [upd, GU, fillL, if_true, if_false] at hK ⊢
     simp only [e13] at hK ⊢
     cases kn with
     | true =>
      go_simp
      have hK2 := hK undef _ ⟨hRw, Below.refl _ _, fun h => by cases h⟩
      exact hK2
     | false =>
      simp only [e23 rfl] at hK ⊢
      go_simp
      have hK2 := hK _ _ ⟨hRw, Below.refl _ _, fun _ => rfl⟩
      exact hK2
    case s25 =>
     intro x w' hRw hd K9 hK
     simp only [All, GU] at hd
     obtain ⟨e24, e13, _⟩ := hd
     simp +decide only [upd, GU, fillL, if_true, if_false] at hK ⊢
     obtain ⟨⟨z0, z1, z2, z3, z4⟩, ⟨t0, t1, t2, t3, t4⟩, ⟨x0, x1, x2, x3, x4, x5⟩, y0, y1, y2, y3, y4, y5⟩ := zz.out w' hRw
     simp only [e13] at hK ⊢
     cases kn with
     | true =>
      go_simp
      have hK2 := hK undef _ ⟨hRw, Below.refl _ _, fun h => by cases h⟩
      exact hK2
     | false =>
      simp only [e24 rfl] at hK ⊢
      go_simp
      have hK2 := hK _ _ ⟨hRw, Below.refl _ _, fun _ => rfl⟩
      exact hK2
    case s26 =>
     intro x w' hRw hd K9 hK
     simp only [All, GU] at hd
     obtain ⟨e19, e25, e13, _⟩ := hd
     simp +decide only [upd, GU, fillL, if_true, if_false] at hK ⊢
     simp only [e13] at hK ⊢
     cases kn with
     | true =>
      go_simp
      have hK2 := hK undef _ ⟨hRw, Below.refl _ _, fun h => by cases h⟩
      exact hK2
     | false =>
      simp only [e19 rfl, e25 rfl] at hK ⊢
      go_simp
      refine (c8.out w' hRw).mono ?_
      rintro e' w9 ⟨rfl, hB9⟩
      have hK2 := hK _ _ ⟨bthen hRw hB9, hB9, fun _ => rfl⟩
      exact hK2
    case s27 =>
     intro x w' hRw hd K9 hK
     simp only [All, GU] at hd
     obtain ⟨e26, e13, _⟩ := hd
     simp +decide only [upd, GU, fillL, if_true, if_false] at hK ⊢
     simp only [e13] at hK ⊢
     cases kn with
     | true =>
      go_simp
      have hK2 := hK undef _ ⟨hRw, Below.refl _ _, fun h => by cases h⟩
      exact hK2
     | false =>
      simp only [e26 rfl] at hK ⊢
      go_simp
      have hK2 := hK _ _ ⟨hRw, Below.refl _ _, fun _ => rfl⟩
      exact hK2
   ·obtain rfl : k = m := by omega
    have hT : E = true := by
     rw [hal2.out, List.all_eq_true]; intro j hj; exact hP j (List.mem_range.1 hj)
    subst hT
    have hbw : Below w.heap.size w wr := bthen hb2.out hB
    replace hbw := hi_ hbw
    replace hB := hi_ hB
    replace hP := hi_ hP
    go_wp2
    go_ret
    exact ⟨rfl, hbw.out⟩
 ·have hF := hne.out hmm
  subst hF
  have qm : ((m : Int) == (m' : Int)) = false := by rw [beq_eq_false_iff_ne]; omega
  have qm2 : ((m : Int) != (m' : Int)) = true := by rw [bne, qm]; rfl
  clear hall
  replace hmm := hi_ hmm
  clear c7
  go_wp2
  go_ret
  exact ⟨rfl, hb2.out⟩

/- Two objects held against each other, by the document. No condition. -/
set_option maxHeartbeats 8000000 in
set_option maxRecDepth 100000 in
theorem same_step (N : Nat) (hN : N + 1 ≤ 1048576) (hs : SameC N) : SameC (N + 1) := by
 intro a b vs us w ha hb hbk hbk'
 obtain ⟨k, n, bb, l, d⟩ := a
 obtain ⟨k', n', bb', l', d'⟩ := b
 have zk : bb.length + bulkL l + bulkD d + 1 ≤ N + 1 := hbk
 have zk' : bb'.length + bulkL l' + bulkD d' + 1 ≤ 1048576 := hbk'
 have hsm : sameB (.mk k n bb l d) (.mk k' n' bb' l' d') = (k == k' && (
  if k = 1 ∨ k = 2 ∨ k = 3 ∨ k = 9 then n == n'
  else if k = 4 ∨ k = 5 then bb == bb'
  else if k = 6 then sameL l l'
  else if k = 7 ∨ k = 8 then (k == 7 || bb == bb') && sameD d d'
  else true)) := by simp only [sameB]
 rw [hsm]
 clear hsm
 by_cases h6 : k = 6 ∧ k' = 6
 ·obtain ⟨rfl, rfl⟩ := h6
  have h := same_arr N (by omega) hs n n' bb bb' l l' d d' vs us w ha hb (by omega) (by omega)
  simpa using h
 by_cases h7 : k = 7 ∧ k' = 7
 ·obtain ⟨rfl, rfl⟩ := h7
  have h := same_dict7 N (by omega) hs n n' bb bb' l l' d d' vs us w ha hb (by omega) (by omega)
  simpa using h
 by_cases h8 : k = 8 ∧ k' = 8
 ·obtain ⟨rfl, rfl⟩ := h8
  have h := same_dict8 N (by omega) hs n n' bb bb' l l' d d' vs us w ha hb (by omega) (by omega)
  simpa using h
 cases ha with
 | mk _ _ _ _ _ A AL AD c cL cD gL oL gD oD vl vd h1 h2 h3 h4 hB5 h6_ h7_ h8_ h9 h10 h11 h12 h13 h14 h15 h16 h17 h18 =>
 cases hb with
 | mk _ _ _ _ _ A' AL' AD' c' cL' cD' gL' oL' gD' oD' vl' vd' i1 i2 i3 i4 iB5 i6 i7 i8 i9 i10 i11 i12 i13 i14 i15 i16 i17 i18 =>
 obtain ⟨W1, hW1⟩ : ∃ W, W = w.alloc (.cells #[.int .i64 k, .int .i64 n, .slice A bb.length c, .slice AL l.length cL, .slice AD d.length cD] 26) := ⟨_, rfl⟩
 obtain ⟨W2, hW2⟩ : ∃ W, W = W1.alloc (.cells #[.int .i64 k', .int .i64 n', .slice A' bb'.length c', .slice AL' l'.length cL', .slice AD' d'.length cD'] 26) := ⟨_, rfl⟩
 have hb2 : Below w.heap.size w W2 := by rw [hW2, hW1]; exact ((Below.refl _ _).alloc (Nat.le_refl _) _).alloc (by rw [World.size_alloc]; omega) _
 have ff := ten_cells hW1 hW2
 obtain ⟨⟨f0, f1, f2, f3, f4⟩, g0, g1, g2, g3, g4⟩ := ff
 have c7 := ref_Same A A' c c' bb bb' W2 (hB5.below hb2) (iB5.below hb2) (by omega) (by omega)
 have hbe : (bb == bb') = decide (bb = bb') := by by_cases h : bb = bb' <;> simp [h]
 rw [hbe]
 obtain ⟨sb, hsb⟩ : ∃ z, z = decide (bb = bb') := ⟨_, rfl⟩
 rw [← hsb] at c7 ⊢
 clear h1 h2 h3 h4 hB5 h6_ h7_ h8_ h9 h10 h11 h12 h13 h14 h15 h16 h17 h18 i1 i2 i3 i4 iB5 i6 i7 i8 i9 i10 i11 i12 i13 i14 i15 i16 i17 i18 hbk hbk' zk zk' hbe hs
 replace hsb := hi_ hsb
 replace hb2 := hi_ hb2
 by_cases hkk : k = k'
 ·subst hkk
  have k6 : k ≠ 6 := fun e => h6 ⟨e, e⟩
  have k7 : k ≠ 7 := fun e => h7 ⟨e, e⟩
  have k8 : k ≠ 8 := fun e => h8 ⟨e, e⟩
  clear h6 h7 h8
  obtain ⟨R, hR⟩ : ∃ R, R = (k == k && (if k = 1 ∨ k = 2 ∨ k = 3 ∨ k = 9 then n == n' else if k = 4 ∨ k = 5 then sb else if k = 6 then sameL l l' else if k = 7 ∨ k = 8 then (k == 7 || sb) && sameD d d' else true)) := ⟨_, rfl⟩
  rw [← hR]
  rw [beq_self_eq_true, Bool.true_and] at hR
  by_cases k1 : k = 1
  ·subst k1
   have hR1 : R = (n == n') := by rw [hR]; simp
   subst hR1
   clear hR
   go_enter Tryz.func23, Tryz.ntmps23
   go_upto_region 1 with (fail)
   rw [← hW1, ← hW2]
   clear hW1 hW2
   go_wp2
   go_ret
   exact ⟨rfl, hb2.out⟩
  by_cases k2 : k = 2
  ·subst k2
   have hR1 : R = (n == n') := by rw [hR]; simp
   subst hR1
   clear hR
   go_enter Tryz.func23, Tryz.ntmps23
   go_upto_region 1 with (fail)
   rw [← hW1, ← hW2]
   clear hW1 hW2
   go_wp2
   go_ret
   exact ⟨rfl, hb2.out⟩
  by_cases k3 : k = 3
  ·subst k3
   have hR1 : R = (n == n') := by rw [hR]; simp
   subst hR1
   clear hR
   go_enter Tryz.func23, Tryz.ntmps23
   go_upto_region 1 with (fail)
   rw [← hW1, ← hW2]
   clear hW1 hW2
   go_wp2
   go_ret
   exact ⟨rfl, hb2.out⟩
  by_cases k9 : k = 9
  ·subst k9
   have hR1 : R = (n == n') := by rw [hR]; simp
   subst hR1
   clear hR
   go_enter Tryz.func23, Tryz.ntmps23
   go_upto_region 1 with (fail)
   rw [← hW1, ← hW2]
   clear hW1 hW2
   go_wp2
   go_ret
   exact ⟨rfl, hb2.out⟩
  by_cases k4 : k = 4
  ·subst k4
   have hR1 : R = sb := by rw [hR]; simp
   subst hR1
   clear hR
   go_enter Tryz.func23, Tryz.ntmps23
   go_upto_region 1 with (fail)
   rw [← hW1, ← hW2]
   clear hW1 hW2
   go_wp2_with (go_at_call 11; (with_reducible refine c7.mono ?_); rintro e w3 ⟨rfl, hB3⟩; replace hB3 := hi_ hB3)
   go_ret
   exact ⟨rfl, bthen hb2.out hB3.out⟩
  by_cases k5 : k = 5
  ·subst k5
   have hR1 : R = sb := by rw [hR]; simp
   subst hR1
   clear hR
   go_enter Tryz.func23, Tryz.ntmps23
   go_upto_region 1 with (fail)
   rw [← hW1, ← hW2]
   clear hW1 hW2
   go_wp2_with (go_at_call 11; (with_reducible refine c7.mono ?_); rintro e w3 ⟨rfl, hB3⟩; replace hB3 := hi_ hB3)
   go_ret
   exact ⟨rfl, bthen hb2.out hB3.out⟩
  have hR1 : R = true := by rw [hR]; simp [k1, k2, k3, k4, k5, k6, k7, k8, k9]
  subst hR1
  clear hR
  have t1 : (k == 1) = false := by simpa using k1
  have t2 : (k == 2) = false := by simpa using k2
  have t3 : (k == 3) = false := by simpa using k3
  have t4 : (k == 4) = false := by simpa using k4
  have t5 : (k == 5) = false := by simpa using k5
  have t6 : (k == 6) = false := by simpa using k6
  have t7 : (k == 7) = false := by simpa using k7
  have t8 : (k == 8) = false := by simpa using k8
  have t9 : (k == 9) = false := by simpa using k9
  clear k1 k2 k3 k4 k5 k6 k7 k8 k9 c7
  go_enter Tryz.func23, Tryz.ntmps23
  go_upto_region 1 with (fail)
  rw [← hW1, ← hW2]
  clear hW1 hW2
  go_wp2
  go_ret
  exact ⟨rfl, hb2.out⟩
 ·have e1 : (k == k') = false := by simpa using hkk
  have e2 : (k != k') = true := by rw [bne, e1]; rfl
  rw [e1, Bool.false_and]
  clear h6 h7 h8 hkk c7
  go_enter Tryz.func23, Tryz.ntmps23
  go_upto_region 1 with (fail)
  rw [← hW1, ← hW2]
  clear hW1 hW2
  go_wp2
  go_ret
  exact ⟨rfl, hb2.out⟩
theorem same_all : ∀ N, N ≤ 1048576 → SameC N
 | 0, _ => fun a b vs us w _ _ h _ => by have := bulk_pos a; omega
 | N + 1, h => same_step N h (same_all N (by omega))
end Go.Proofs.YthacnnmlephkhaaGreatDoor

/- What is printed of an object with its number, read back and printed again: the law. No condition. -/
namespace Go.Wk
open Go
mutual
theorem sameB_refl : ∀ (o : Ob), sameB o o = true
 | .mk k n b l d => by
  have h1 := sameL_refl l
  have h2 := sameD_refl d
  simp only [sameB, h1, h2, beq_self_eq_true, Bool.true_and, Bool.or_true]
  repeat' split
  all_goals rfl
theorem sameL_refl : ∀ (l : List Ob), sameL l l = true
 | [] => rfl
 | o :: r => by simp only [sameL, sameB_refl o, sameL_refl r, Bool.true_and]
theorem sameD_refl : ∀ (d : List (List UInt8 × Ob)), sameD d d = true
 | [] => rfl
 | e :: r => by simp only [sameD, sameB_refl e.2, sameD_refl r, beq_self_eq_true, Bool.true_and]
end
end Go.Wk
namespace Go.Proofs.YthacnnmlephkhaaGreatDoor
open Go Go.RowKit Go.Wk Go.Rd Go.Fx
set_option maxHeartbeats 8000000 in
set_option maxRecDepth 100000 in
theorem back_good (w : World) (hT : Tab w) (haw : ∀ W, Below w.heap.size w W → Calls Tryz.prog 7 #[] W fun e w' => e = .returned (.bool true) ∧ Below W.heap.size W w') (num : Int) (hn : i64 num) (o : Ob) (vs : List Value) (hob : ObAt w o vs) (hbk : o.bulk ≤ 1048569) (hg : itemB num o = true) :
 Calls Tryz.prog 6 #[.agg (List.toArray (.int .i64 num :: vs))] w fun e w' => e = .returned (.bool true) ∧ Below w.heap.size w w' := by
 obtain ⟨en, E1, E2, E3, en1, ec1, en2, ec2, en3, ec3, hys⟩ := ob_five2 hob
 obtain ⟨k, hk⟩ : ∃ k, k = o.kind := ⟨_, rfl⟩
 rw [← hk] at hys
 subst hys
 obtain ⟨W1, hW1⟩ : ∃ W, W = w.alloc (.cells #[.int .i64 num, .int .i64 k, .int .i64 en, .slice E1 en1 ec1, .slice E2 en2 ec2, .slice E3 en3 ec3] 41) := ⟨_, rfl⟩
 have hb1 : Below w.heap.size w W1 := by rw [hW1]; exact (Below.refl _ _).alloc (Nat.le_refl _) _
 have gs := six_cells41 hW1
 have c7 := haw W1 hb1
 have c8 := fun W (hW : Below W1.heap.size W1 W) => room_all 1048576 (Nat.le_refl _) o _ W 40 (hob.kept (bthen hb1 hW)) (by omega) (by omega) (by omega)
 obtain ⟨S, hS⟩ : ∃ S, S = itmS num o := ⟨_, rfl⟩
 have zS : S.length ≤ 51000000 := by rw [hS]; exact itmS_len num hn o hob.fits (by omega)
 have hz : itmZ num o = 0 := by unfold itmZ; rw [if_pos hg]
 have c17 := fun (us : List Value) W (h : ObAt W o us) (hW : Below W1.heap.size W1 W) => prt_ItemC num hn o us W h hbk (hT.below (bthen hb1 hW))
 unfold VIC at c17
 rw [← hS, hz] at c17
 have cI := fun L c A W (h : LX L A c S (.int .i64 ((28 : Nat) : Int)) (.bool false) W S) => item_read hg (by omega) (L := L) (c := c) (A := A) (w := W) (by rw [← hS]; exact h) (by rw [← hS]; omega)
 have ck := fun W (hW : Below W1.heap.size W1 W) => hob.kept (bthen hb1 hW)
 have cs := fun (us : List Value) W (h : ObAt W o us) (hW : Below W1.heap.size W1 W) => same_all 1048576 (Nat.le_refl _) o o us _ W h (ck W hW) (by omega) (by omega)
 rw [sameB_refl] at cs
 have c17' := fun W (hW : Below W1.heap.size W1 W) => c17 _ W (ck W hW) hW
 replace hb1 := hi_ hb1
 replace gs := hi_ gs
 replace c8 := hi_ c8
 replace c17 := hi_ c17
 replace c17' := hi_ c17'
 replace cI := hi_ cI
 replace ck := hi_ ck
 replace cs := hi_ cs
 replace hS := hi_ hS
 replace hn := hi_ hn
 replace hk := hi_ hk
 clear hob hbk haw hT hg hz
 go_enter Tryz.func6, Tryz.ntmps6
 go_upto_region 1 with (fail)
 rw [← hW1]
 replace hW1 := hi_ hW1
 go_upto_region 3 with (go_at_call 7; (with_reducible refine c7.mono ?_); rintro e w2 ⟨rfl, hB2⟩; obtain ⟨g0, g1, g2, g3, g4, g5⟩ := six_kept gs.out hB2; have c8' := c8.out w2 hB2; replace hB2 := hi_ hB2)
 go_upto_region 9 with (first
  | (go_at_call 8; (with_reducible refine c8'.mono ?_); rintro e w3 ⟨bb, rfl, hB3⟩; have hD3 := bthen hB2.out hB3; obtain ⟨g0, g1, g2, g3, g4, g5⟩ := six_kept gs.out hD3; have d17 := c17'.out w3 hD3; replace hD3 := hi_ hD3; replace hB3 := hi_ hB3; cases bb)
  | (go_at_call 17; (with_reducible refine d17.mono ?_); rintro e w4 ⟨A1, c1, rfl, hb4, hcp, hB4⟩; have hD4 := bthen hD3.out hB4; have cN := rp_New A1 c1 S w4 hb4 hcp (by omega); replace hD4 := hi_ hD4; replace hB4 := hi_ hB4; replace hb4 := hi_ hb4; clear d17)
  | (go_at_call 21; (with_reducible refine cN.mono ?_); rintro e w5 ⟨rfl, hX5, hB5⟩; have d22 := cI.out _ _ _ w5 hX5; replace hB5 := hi_ hB5; clear cN hX5)
  | (go_at_call 22; (with_reducible refine d22.mono ?_); rintro e w6 ⟨us, rfl, hI6, hS6⟩; obtain ⟨yn, H1, H2, H3, hn1, hc1, hn2, hc2, hn3, hc3, hxs⟩ := ob_five2 hI6.ob; rw [← hk.out] at hxs; subst hxs; have hB6 : Below w4.heap.size w4 w6 := hB5.out.trans (hS6.below (Nat.le_refl _) hB5.out.size); have hD6 := bthen hD4.out hB6; obtain ⟨g0, g1, g2, g3, g4, g5⟩ := six_kept gs.out hD6; replace hI6 := hi_ hI6; replace hB6 := hi_ hB6; replace hD6 := hi_ hD6; clear d22 hS6))
 ·go_wp2
  go_ret
  exact ⟨rfl, bthen hb1.out hD3.out⟩
 ·obtain ⟨w7, hw7⟩ : ∃ W, W = w6.alloc (.cells #[.int .i64 num, .int .i64 k, .int .i64 yn, .slice H1 hn1 hc1, .slice H2 hn2 hc2, .slice H3 hn3 hc3] 41) := ⟨_, rfl⟩
  rw [← hw7]
  have hs := six_cells41 hw7
  have b7 : Below w6.heap.size w6 w7 := by rw [hw7]; exact (Below.refl _ _).alloc (Nat.le_refl _) _
  have hD7 := bthen hD6.out b7
  have hI7 := (obI_below hI6.out b7).ob
  have d23 := cs.out _ w7 hI7 hD7
  have hB7 := bthen hB6.out b7
  clear g0 g1 g2 g3 g4 g5
  obtain ⟨g0, g1, g2, g3, g4, g5⟩ := six_kept gs.out hD7
  obtain ⟨i0, i1, i2, i3, i4, i5⟩ := id hs
  replace hs := hi_ hs
  replace hI7 := hi_ hI7
  replace hD7 := hi_ hD7
  replace hB7 := hi_ hB7
  replace hw7 := hi_ hw7
  clear b7
  go_wp2_with (first
   | (go_at_call 23; (with_reducible refine d23.mono ?_); rintro e w8 ⟨rfl, hB8⟩; have hD8 := bthen hD7.out hB8; obtain ⟨i0, i1, i2, i3, i4, i5⟩ := six_kept hs.out hB8; have d17 := c17.out _ w8 (hI7.out.kept hB8) hD8; have hC8 := bthen hB7.out hB8; replace hD8 := hi_ hD8; replace hC8 := hi_ hC8; clear d23 hB8)
   | (go_at_call 17; (with_reducible refine d17.mono ?_); rintro e w9 ⟨A2, c2, rfl, hb9, hcp9, hB9⟩; have hD9 := bthen hD8.out hB9; have hC9 := bthen hC8.out hB9; have dS := ref_Same A1 A2 c1 c2 S S w9 (hb4.out.below hC9) hb9 (by omega) (by omega); replace hD9 := hi_ hD9; clear d17 hC9)
   | (go_at_call 11; (with_reducible refine dS.mono ?_); rintro e w10 ⟨rfl, hB10⟩; replace hB10 := hi_ hB10))
  go_ret
  exact ⟨by simp, bthen hb1.out (bthen hD9.out hB10.out)⟩
set_option maxHeartbeats 8000000 in
set_option maxRecDepth 100000 in
theorem back_bad (w : World) (hT : Tab w) (haw : ∀ W, Below w.heap.size w W → Calls Tryz.prog 7 #[] W fun e w' => e = .returned (.bool true) ∧ Below W.heap.size W w') (num : Int) (hn : i64 num) (o : Ob) (vs : List Value) (hob : ObAt w o vs) (hbk : o.bulk ≤ 1048569) (hg : itemB num o = false) :
 Calls Tryz.prog 6 #[.agg (List.toArray (.int .i64 num :: vs))] w fun e w' => e = .returned (.bool true) ∧ Below w.heap.size w w' := by
 obtain ⟨en, E1, E2, E3, en1, ec1, en2, ec2, en3, ec3, hys⟩ := ob_five2 hob
 obtain ⟨k, hk⟩ : ∃ k, k = o.kind := ⟨_, rfl⟩
 rw [← hk] at hys
 subst hys
 obtain ⟨W1, hW1⟩ : ∃ W, W = w.alloc (.cells #[.int .i64 num, .int .i64 k, .int .i64 en, .slice E1 en1 ec1, .slice E2 en2 ec2, .slice E3 en3 ec3] 41) := ⟨_, rfl⟩
 have hb1 : Below w.heap.size w W1 := by rw [hW1]; exact (Below.refl _ _).alloc (Nat.le_refl _) _
 have gs := six_cells41 hW1
 have c7 := haw W1 hb1
 have c8 := fun W (hW : Below W1.heap.size W1 W) => room_all 1048576 (Nat.le_refl _) o _ W 40 (hob.kept (bthen hb1 hW)) (by omega) (by omega) (by omega)
 obtain ⟨S, hS⟩ : ∃ S, S = itmS num o := ⟨_, rfl⟩
 have hz : itmZ num o = 1 := by unfold itmZ; rw [if_neg (by rw [hg]; decide)]
 have c17 := fun W (hW : Below W1.heap.size W1 W) => prt_Item num hn o _ W (hob.kept (bthen hb1 hW)) hbk (hT.below (bthen hb1 hW))
 unfold VI at c17
 rw [← hS, hz] at c17
 have cm := fun W (hW : Below W1.heap.size W1 W) => ref_May o _ W (hob.kept (bthen hb1 hW)) (by omega)
 have cg := fun W (hW : Below W1.heap.size W1 W) => ref_GetB o _ W (hob.kept (bthen hb1 hW)) (by omega) ⟨#[76, 101, 110, 103, 116, 104]⟩
 obtain ⟨G, hG⟩ : ∃ G, G = Ob.get (ByteArray.data ⟨#[76, 101, 110, 103, 116, 104]⟩).toList o := ⟨_, rfl⟩
 have hGl : G = Ob.get lenL o := hG
 rw [← hG] at cg
 obtain ⟨gk, hgk⟩ : ∃ x, x = G.kind := ⟨_, rfl⟩
 obtain ⟨m, hm⟩ : ∃ m, m = o.may 28 := ⟨_, rfl⟩
 rw [← hm] at cm
 unfold itemB at hg
 rw [← hm, ← hGl, ← hgk] at hg
 replace hb1 := hi_ hb1
 replace gs := hi_ gs
 replace c8 := hi_ c8
 replace c17 := hi_ c17
 replace cm := hi_ cm
 replace cg := hi_ cg
 replace hS := hi_ hS
 replace hG := hi_ hG
 replace hGl := hi_ hGl
 replace hgk := hi_ hgk
 replace hm := hi_ hm
 replace hn := hi_ hn
 replace hk := hi_ hk
 clear hob hbk haw hT hz
 replace hg := hi_ hg
 go_enter Tryz.func6, Tryz.ntmps6
 go_upto_region 1 with (fail)
 rw [← hW1]
 replace hW1 := hi_ hW1
 go_upto_region 3 with (go_at_call 7; (with_reducible refine c7.mono ?_); rintro e w2 ⟨rfl, hB2⟩; obtain ⟨g0, g1, g2, g3, g4, g5⟩ := six_kept gs.out hB2; have c8' := c8.out w2 hB2; replace hB2 := hi_ hB2)
 go_upto_region 7 with (first
  | (go_at_call 8; (with_reducible refine c8'.mono ?_); rintro e w3 ⟨bb, rfl, hB3⟩; have hD3 := bthen hB2.out hB3; obtain ⟨g0, g1, g2, g3, g4, g5⟩ := six_kept gs.out hD3; have d17 := c17.out w3 hD3; replace hD3 := hi_ hD3; replace hB3 := hi_ hB3; cases bb)
  | (go_at_call 17; (with_reducible refine d17.mono ?_); rintro e w4 ⟨A1, c1, rfl, hb4, hB4⟩; have hD4 := bthen hD3.out hB4; obtain ⟨g0, g1, g2, g3, g4, g5⟩ := six_kept gs.out hD4; have d19 := cm.out w4 hD4; replace hD4 := hi_ hD4; replace hB4 := hi_ hB4; replace hb4 := hi_ hb4; clear d17))
 ·go_wp2
  go_ret
  exact ⟨rfl, bthen hb1.out hD3.out⟩
 ·cases m with
  | false =>
   go_wp2_with (go_at_call 19; (with_reducible refine d19.mono ?_); rintro e w5 ⟨rfl, hB5⟩; have hD5 := bthen hD4.out hB5; obtain ⟨g0, g1, g2, g3, g4, g5⟩ := six_kept gs.out hD5; replace hD5 := hi_ hD5; clear hB5)
   go_ret
   exact ⟨by simp, bthen hb1.out hD5.out⟩
  | true =>
   rcases Int.lt_or_le num 1 with h1 | h1
   ·go_wp2_with (go_at_call 19; (with_reducible refine d19.mono ?_); rintro e w5 ⟨rfl, hB5⟩; have hD5 := bthen hD4.out hB5; obtain ⟨g0, g1, g2, g3, g4, g5⟩ := six_kept gs.out hD5; replace hD5 := hi_ hD5; clear hB5)
    go_ret
    exact ⟨by simp, bthen hb1.out hD5.out⟩
   ·rcases Int.lt_or_le 8388607 num with h2 | h2
    ·go_wp2_with (go_at_call 19; (with_reducible refine d19.mono ?_); rintro e w5 ⟨rfl, hB5⟩; have hD5 := bthen hD4.out hB5; obtain ⟨g0, g1, g2, g3, g4, g5⟩ := six_kept gs.out hD5; replace hD5 := hi_ hD5; clear hB5)
     go_ret
     exact ⟨by simp, bthen hb1.out hD5.out⟩
    ·have hgk0 : (gk == 0) = false := by
      have h9 := hg.out
      rw [decide_eq_true h1, decide_eq_true h2] at h9
      simp at h9
      simpa using h9.2
     go_wp2_with (first
      | (go_at_call 19; (with_reducible refine d19.mono ?_); rintro e w5 ⟨rfl, hB5⟩; have hD5 := bthen hD4.out hB5; obtain ⟨g0, g1, g2, g3, g4, g5⟩ := six_kept gs.out hD5; have d20 := cg.out w5 hD5; replace hD5 := hi_ hD5; clear hB5)
      | (go_at_call 20; (with_reducible refine d20.mono ?_); rintro e w6 ⟨us, rfl, hI6, hB6⟩; obtain ⟨yn, H1, H2, H3, hn1, hc1, hn2, hc2, hn3, hc3, hxs⟩ := ob_five2 hI6.ob; rw [← hgk.out] at hxs; subst hxs; have hf := fun W => field0 gk (.int .i64 yn) (.slice H1 hn1 hc1) (.slice H2 hn2 hc2) (.slice H3 hn3 hc3) W; have hD6 := bthen hD5.out hB6; replace hD6 := hi_ hD6; clear hB6 hI6))
     go_ret
     exact ⟨by simp, bthen hb1.out hD6.out⟩
theorem back_law (w : World) (hT : Tab w) (haw : ∀ W, Below w.heap.size w W → Calls Tryz.prog 7 #[] W fun e w' => e = .returned (.bool true) ∧ Below W.heap.size W w') (num : Int) (hn : i64 num) (o : Ob) (vs : List Value) (hob : ObAt w o vs) (hbk : o.bulk ≤ 1048569) :
 Calls Tryz.prog 6 #[.agg (List.toArray (.int .i64 num :: vs))] w fun e w' => e = .returned (.bool true) ∧ Below w.heap.size w w' := by
 by_cases hg : itemB num o = true
 ·exact back_good w hT haw num hn o vs hob hbk hg
 ·exact back_bad w hT haw num hn o vs hob hbk (by simpa using hg)
end Go.Proofs.YthacnnmlephkhaaGreatDoor

/- An object opened, with room to spare in its bulk. No condition. -/
namespace Go.Wk
open Go Go.RowKit
section
variable {H : Type} {enc : TypeId × Value → H} {P : Program} {w : World} {base : Nat} {sp : Nat → Bool} {held : Bool}
theorem byt_bulk1 {B : DataW H → Nat} {BA : List (DataW H) → Nat} (M : BulkLaw B BA) {tB u8 : TypeId} (hb : P.underlying tB = some (.slice u8)) {fuel : Nat} {A : Option Addr} {len c : Nat} {x : DataW H × List MemPlace} (h : DataW.trod enc P w base sp held fuel tB [.slice A len c] = some x) : len + 1 ≤ B x.1 := by
 rcases DataW.trod_slice hb h with ⟨e, _⟩ | ⟨a, len', cap, elems, rest, n', rfl, e, rfl, _, _, _, hlen, _⟩
 ·injection e with e; injection e with _ e _
  have := M.pos x.1
  omega
 ·injection e with e
  injection e with _ e _
  rw [M.slice]
  have := M.len (elems.map (·.1))
  simp at this
  omega
theorem open_obj5 {B : DataW H → Nat} {BA : List (DataW H) → Nat} (M : BulkLaw B BA) {tO tE tB tL tD tI tN tS u8 : TypeId} (T : ObTy P tO tE tB tL tD tI tN tS u8) : ∀ (fuel : Nat) (cs : List Value) (x : DataW H × List MemPlace), DataW.trod enc P w base sp held fuel tO cs = some x → ∃ o, ObAt w o cs ∧ o.bulk + 5 ≤ B x.1 := by
 intro fuel
 induction fuel using Nat.strongRecOn with
 | _ fuel ih =>
  intro cs x h
  obtain ⟨fs, hfs, hfl⟩ := T.o
  obtain ⟨xs, n, rfl, ex, hcl, hxl, hF⟩ := DataW.trod_struct hfs h
  have hsz : fs.size = 5 := by have := congrArg List.length hfl; simpa using this
  rw [T.co] at hcl
  have fld : ∀ i t o, [(tI, 0), (tN, 1), (tB, 2), (tL, 3), (tD, 4)][i]? = some (t, o) → ∃ y, DataW.trod enc P w base sp held n t ((cs.drop o).take (P.cellsOf t)) = some y := fun i t o hi => by
   obtain ⟨f, hf, rfl, rfl⟩ := fields_at hfl hi
   have hil : i < xs.length := by
    have := (Array.getElem?_eq_some_iff.1 hf).1; omega
   exact ⟨_, (hF i f hf).trans (List.getElem?_eq_getElem hil)⟩
  match cs, hcl with
  | [c0, c1, c2, c3, c4], _ =>
   obtain ⟨y0, z0⟩ := fld 0 tI 0 rfl
   obtain ⟨y1, z1⟩ := fld 1 tN 1 rfl
   obtain ⟨y2, z2⟩ := fld 2 tB 2 rfl
   obtain ⟨y3, z3⟩ := fld 3 tL 3 rfl
   obtain ⟨y4, z4⟩ := fld 4 tD 4 rfl
   rw [T.ci] at z0
   rw [T.cn] at z1
   rw [T.cb] at z2
   rw [T.cl] at z3
   rw [T.cd] at z4
   obtain ⟨k, e0, _, w0⟩ := DataW.trod_int T.i (show DataW.trod enc P w base sp held n tI [c0] = some y0 from z0)
   obtain ⟨m, e1, _, w1⟩ := DataW.trod_int T.n (show DataW.trod enc P w base sp held n tN [c1] = some y1 from z1)
   obtain ⟨A, c, bs, e2, hB, hBn, hBl⟩ := open_byt T.b T.u T.cu (show DataW.trod enc P w base sp held n tB [c2] = some y2 from z2)
   injection e0 with e0
   injection e1 with e1
   injection e2 with e2
   subst e0 e1 e2
   have z3 : DataW.trod enc P w base sp held n tL [c3] = some y3 := z3
   have z4 : DataW.trod enc P w base sp held n tD [c4] = some y4 := z4
   have z2 : DataW.trod enc P w base sp held n tB [Value.slice A bs.length c] = some y2 := z2
   have b2 := byt_bulk1 M T.b z2
   have fx : ∀ i t o y, [(tI, 0), (tN, 1), (tB, 2), (tL, 3), (tD, 4)][i]? = some (t, o) → DataW.trod enc P w base sp held n t ((([Value.int .i64 k, .int .i64 m, .slice A bs.length c, c3, c4] : List Value).drop o).take (P.cellsOf t)) = some y → xs[i]? = some y := fun i t o y hi hy => by
    obtain ⟨f, hf, rfl, rfl⟩ := fields_at hfl hi
    rw [← hF i f hf]; exact hy
   have X2 := fx 2 tB 2 y2 rfl (by rw [T.cb]; exact z2)
   have X3 := fx 3 tL 3 y3 rfl (by rw [T.cl]; exact z3)
   have X4 := fx 4 tD 4 y4 rfl (by rw [T.cd]; exact z4)
   have hbulk : B y2.1 + B y3.1 + B y4.1 + 3 ≤ B (.agg (xs.map (·.1))) := by
    rw [M.agg]
    have hl5 : xs.length = 5 := by omega
    match xs, hl5 with
    | [x0, x1, x2, x3, x4], _ =>
     simp at X2 X3 X4
     subst X2 X3 X4
     have := M.pos x0.1
     have := M.pos x1.1
     simp only [List.map_cons, List.map_nil, M.cons, M.nil]
     omega
   -- the items
   have items : ∃ (l : List Ob) (AL : Option Addr) (cL gL oL : Nat) (vl : Nat → List Value), c3 = .slice AL l.length cL ∧ l.length ≤ cL ∧ l.length ≤ maxLen ∧ (0 < l.length → AL = some ⟨gL, oL, none⟩) ∧ (∀ i, (hi : i < l.length) → ObAt w l[i] (vl i)) ∧ (∀ i, i < l.length → ∀ j, j < 5 → w.cell? ⟨gL, oL + (5 * i + j), none⟩ = (vl i)[j]?) ∧ bulkL l + 1 ≤ B y3.1 := by
    rcases DataW.trod_slice T.l z3 with ⟨e3, _⟩ | ⟨a, len, cap, elems, rest, n', rfl, e3, ey, hb, hlc, hcm, hlen, hel, _⟩
    ·injection e3 with e3
     exact ⟨[], none, 0, 0, 0, fun _ => [], e3, Nat.le_refl _, Nat.zero_le _, fun h => by simp at h, fun i hi => by simp at hi, fun i hi => by simp at hi, by simpa [bulkL] using M.pos y3.1⟩
    ·injection e3 with e3
     have each : ∀ i, i < len → ∃ p : Ob × List Value, ObAt w p.1 p.2 ∧ (∃ h : i < elems.length, p.1.bulk ≤ B elems[i].1) ∧ ∀ j, j < 5 → w.cell? (a.add (5 * i + j)) = p.2[j]? := fun i hi => by
      obtain ⟨cs, x, hc5, hx, ht, hj⟩ := rows_at T.co hlen hel i hi
      obtain ⟨o, ho, hob⟩ := ih n' (by omega) cs x ht
      obtain ⟨hil, rfl⟩ := List.getElem?_eq_some_iff.1 hx
      exact ⟨(o, cs), ho, ⟨hil, Nat.le_of_add_right_le hob⟩, hj⟩
     obtain ⟨ps, hps, hp⟩ := list_of each
     obtain ⟨g, o, spot⟩ := a
     refine ⟨ps.map (·.1), some ⟨g, o, spot⟩, cap, g, o, fun i => (ps.map (·.2)).getD i [], by rw [e3, List.length_map, hps], by rw [List.length_map]; omega, by rw [List.length_map]; omega, fun h0 => ?_, fun i hi => ?_, fun i hi j hj => ?_, ?_⟩
     ·rw [List.length_map] at h0
      have h1 := (hp 0 h0).2.2 0 (by omega)
      have h5 := (hp 0 h0).1.five
      rw [List.getElem?_eq_getElem (by omega)] at h1
      have hspot : spot = none := by simpa [Addr.add] using World.cell?_spot h1
      rw [hspot]
     ·rw [List.length_map] at hi
      have := (hp i hi).1
      simp only [List.getElem_map]
      rw [List.getD_eq_getElem?_getD, List.getElem?_map, List.getElem?_eq_getElem hi]
      exact this
     ·rw [List.length_map] at hi
      have h1 := (hp i hi).2.2 j hj
      have hspot : spot = none := by
       have h2 := (hp 0 (by omega)).2.2 0 (by omega)
       have h5 := (hp 0 (by omega)).1.five
       rw [List.getElem?_eq_getElem (by omega)] at h2
       simpa [Addr.add] using World.cell?_spot h2
      subst hspot
      rw [add_none] at h1
      show _ = ((ps.map (·.2)).getD i [])[j]?
      rw [List.getD_eq_getElem?_getD, List.getElem?_map, List.getElem?_eq_getElem hi]
      exact h1
     ·rw [ey, M.slice]
      have := M.sumL (ps.map (·.1)) (elems.map (·.1)) (by simp; omega) fun i h1 h2 => by
       simp only [List.getElem_map]
       exact (hp i (by simpa using h1)).2.1.2
      show bulkL _ + 1 ≤ BA (elems.map (·.1)) + _ + 1
      omega
   -- the entries
   have entries : ∃ (d : List (List UInt8 × Ob)) (AD : Option Addr) (cD gD oD : Nat) (vd : Nat → List Value), c4 = .slice AD d.length cD ∧ d.length ≤ cD ∧ d.length ≤ maxLen ∧ (0 < d.length → AD = some ⟨gD, oD, none⟩) ∧ (∀ i, (hi : i < d.length) → ObAt w d[i].2 (vd i)) ∧ (∀ i, (hi : i < d.length) → d[i].1.length ≤ maxLen ∧ w.cell? ⟨gD, oD + 6 * i, none⟩ = some (strV d[i].1)) ∧ (∀ i, i < d.length → ∀ j, j < 5 → w.cell? ⟨gD, oD + (6 * i + 1 + j), none⟩ = (vd i)[j]?) ∧ bulkD d + 1 ≤ B y4.1 := by
    rcases DataW.trod_slice T.d z4 with ⟨e4, _⟩ | ⟨a, len, cap, elems, rest, n', rfl, e4, ey, hb, hlc, hcm, hlen, hel, _⟩
    ·injection e4 with e4
     exact ⟨[], none, 0, 0, 0, fun _ => [], e4, Nat.le_refl _, Nat.zero_le _, fun h => by simp at h, fun i hi => by simp at hi, fun i hi => by simp at hi, fun i hi => by simp at hi, by simpa [bulkD] using M.pos y4.1⟩
    ·injection e4 with e4
     obtain ⟨gs, hgs, hgl⟩ := T.e
     have each : ∀ i, i < len → ∃ p : (List UInt8 × Ob) × List Value, ObAt w p.1.2 p.2 ∧ p.1.1.length ≤ maxLen ∧ w.cell? (a.add (6 * i)) = some (strV p.1.1) ∧ (∃ h : i < elems.length, p.1.1.length + p.1.2.bulk + 1 ≤ B elems[i].1) ∧ ∀ j, j < 5 → w.cell? (a.add (6 * i + 1 + j)) = p.2[j]? := fun i hi => by
      obtain ⟨cs, x, hc6, hx, ht, hj⟩ := rows_at T.ce hlen hel i hi
      obtain ⟨hil, hxe⟩ := List.getElem?_eq_some_iff.1 hx
      obtain ⟨ys, n2, rfl, exx, hcl2, hyl, hF2⟩ := DataW.trod_struct hgs ht
      have hsz2 : gs.size = 2 := by have := congrArg List.length hgl; simpa using this
      obtain ⟨f0, hf0, t0, o0⟩ := fields_at hgl (i := 0) rfl
      obtain ⟨f1, hf1, t1, o1⟩ := fields_at hgl (i := 1) rfl
      have a0 := hF2 0 f0 hf0
      have a1 := hF2 1 f1 hf1
      have y0 : 0 < ys.length := by omega
      have y1 : 1 < ys.length := by omega
      rw [t0, o0, T.cs, List.getElem?_eq_getElem y0] at a0
      rw [t1, o1, T.co, List.getElem?_eq_getElem y1] at a1
      match cs, hc6 with
      | [d0, d1, d2, d3, d4, d5], _ =>
       obtain ⟨s, es, ey0, hs⟩ := DataW.trod_string T.s (show DataW.trod enc P w base sp held n2 tS [d0] = some _ from a0)
       injection es with es
       obtain ⟨o, ho, hob⟩ := ih n2 (by omega) [d1, d2, d3, d4, d5] _ a1
       refine ⟨((s.data.toList, o), [d1, d2, d3, d4, d5]), ho, ?_, ?_, ⟨hil, ?_⟩, fun j hj' => ?_⟩
       ·have : s.data.toList.length = s.size := Array.length_toList
        show s.data.toList.length ≤ maxLen
        rw [this]; exact hs
       ·have := hj 0 (by omega)
        rw [Nat.add_zero] at this
        rw [this, es]; rfl
       ·rw [hxe, exx, M.agg]
        have hl2 : ys.length = 2 := by omega
        match ys, hl2 with
        | [u0, u1], _ =>
         have ey0 : u0 = (.lit (.string s.data.toList), []) := ey0
         have hob : o.bulk ≤ B u1.1 := Nat.le_of_add_right_le hob
         simp only [List.map_cons, List.map_nil, M.cons, M.nil, ey0, M.str]
         omega
       ·have := hj (1 + j) (by omega)
        rw [← Nat.add_assoc] at this
        rw [this]
        match j with
        | 0 => rfl
        | 1 => rfl
        | 2 => rfl
        | 3 => rfl
        | 4 => rfl
        | j + 5 => omega
     obtain ⟨ps, hps, hp⟩ := list_of each
     obtain ⟨g, o, spot⟩ := a
     have hspot : 0 < ps.length → spot = none := fun h0 => by
      have h1 := (hp 0 h0).2.2.1
      simpa [Addr.add] using World.cell?_spot h1
     refine ⟨ps.map (·.1), some ⟨g, o, spot⟩, cap, g, o, fun i => (ps.map (·.2)).getD i [], by rw [e4, List.length_map, hps], by rw [List.length_map]; omega, by rw [List.length_map]; omega, fun h0 => ?_, fun i hi => ?_, fun i hi => ?_, fun i hi j hj => ?_, ?_⟩
     ·rw [List.length_map] at h0; rw [hspot h0]
     ·rw [List.length_map] at hi
      have := (hp i hi).1
      simp only [List.getElem_map]
      rw [List.getD_eq_getElem?_getD, List.getElem?_map, List.getElem?_eq_getElem hi]
      exact this
     ·rw [List.length_map] at hi
      simp only [List.getElem_map]
      have h1 := (hp i hi).2.2.1
      rw [hspot (by omega), add_none] at h1
      exact ⟨(hp i hi).2.1, h1⟩
     ·rw [List.length_map] at hi
      have h1 := (hp i hi).2.2.2.2 j hj
      rw [hspot (by omega), add_none] at h1
      show _ = ((ps.map (·.2)).getD i [])[j]?
      rw [List.getD_eq_getElem?_getD, List.getElem?_map, List.getElem?_eq_getElem hi]
      exact h1
     ·rw [ey, M.slice]
      have := M.sumD (ps.map (·.1)) (elems.map (·.1)) (by simp; omega) fun i h1 h2 => by
       simp only [List.getElem_map]
       exact (hp i (by simpa using h1)).2.2.2.1.2
      show bulkD _ + 1 ≤ BA (elems.map (·.1)) + _ + 1
      omega
   obtain ⟨l, AL, cL, gL, oL, vl, rfl, i1, i2, i3, i4, i5, bL⟩ := items
   obtain ⟨d, AD, cD, gD, oD, vd, rfl, j1, j2, j3, j4, j5, j6, bD⟩ := entries
   exact ⟨.mk k m bs l d, .mk k m bs l d A AL AD c cL cD gL oL gD oD vl vd (i64_wf w0).1 (i64_wf w0).2 (i64_wf w1).1 (i64_wf w1).2 hB hBl hBn i1 i2 j1 j2 i3 i4 i5 j3 j4 j5 j6, by rw [ex]; simp only [Ob.bulk]; omega⟩
end
end Go.Wk

/- The arguments of PrintItems opened. No condition. -/
namespace Go.Proofs.YthacnnmlephkhaaGreatDoor
open Go Go.RowKit Go.Wk Go.WideShapes
theorem itemty : ∃ fs, Tryz.prog.underlying 41 = some (.struct fs) ∧ fs.toList.map (fun f => (f.type, f.offset)) = [(3, 0), (26, 1)] := ⟨_, Tryz.underlying41, rfl⟩
set_option maxRecDepth 100000 in
theorem open_item {H : Type} {enc : TypeId × Value → H} {W : World} {base : Nat} {v : Value} {d : DataW H} {p : List MemPlace} (hv : Value.okWide Tryz.prog W .any base 41 v) (h : DataW.Trod enc Tryz.prog W 0 (fun _ => true) true 41 v d p) :
 ∃ num o vs, v = .agg (List.toArray (.int .i64 num :: vs)) ∧ i64 num ∧ ObAt W o vs ∧ o.bulk + 7 ≤ Rows.uptoBulk d := by
 obtain ⟨cs, rfl, _⟩ := okWide_struct Tryz.underlying41 hv
 obtain ⟨fuel, hf⟩ := h
 obtain ⟨fs, hfs, hfl⟩ := itemty
 obtain ⟨xs, n, rfl, ex, hcl, hxl, hF⟩ := DataW.trod_struct hfs hf
 have hsz : fs.size = 2 := by have := congrArg List.length hfl; simpa using this
 have hc6 : Tryz.prog.cellsOf 41 = 6 := by kernel_rfl
 have hc3 : Tryz.prog.cellsOf 3 = 1 := by kernel_rfl
 have hc26 : Tryz.prog.cellsOf 26 = 5 := by kernel_rfl
 rw [hc6] at hcl
 have hcs : cs.toList.length = 6 := hcl
 obtain ⟨f0, g0, t0, o0⟩ := fields_at hfl (i := 0) (t := 3) (o := 0) rfl
 obtain ⟨f1, g1, t1, o1⟩ := fields_at hfl (i := 1) (t := 26) (o := 1) rfl
 have y0 := hF 0 f0 g0
 have y1 := hF 1 f1 g1
 rw [t0, o0, hc3] at y0
 rw [t1, o1, hc26] at y1
 have hl2 : xs.length = 2 := by omega
 match xs, hl2 with
 | [x0, x1], _ =>
  obtain ⟨c0, rest, hr⟩ : ∃ c0 rest, cs.toList = c0 :: rest := by
   cases hq : cs.toList with
   | nil => rw [hq] at hcs; cases hcs
   | cons a l => exact ⟨a, l, rfl⟩
  have y0 : DataW.trod enc Tryz.prog W 0 (fun _ => true) true n 3 ((cs.toList.drop 0).take 1) = some x0 := y0
  have y1 : DataW.trod enc Tryz.prog W 0 (fun _ => true) true n 26 ((cs.toList.drop 1).take 5) = some x1 := y1
  rw [hr] at y0 y1 hcs
  have hrl : rest.length = 5 := by simpa using hcs
  obtain ⟨num, e0, _, w0⟩ := DataW.trod_int Tryz.underlying3 (show DataW.trod enc Tryz.prog W 0 (fun _ => true) true n 3 [c0] = some x0 from y0)
  have y1 : DataW.trod enc Tryz.prog W 0 (fun _ => true) true n 26 (rest.take 5) = some x1 := y1
  rw [List.take_of_length_le (by omega)] at y1
  obtain ⟨o, ho, hb⟩ := open_obj5 bulk_law obty n _ _ y1
  injection e0 with e0
  subst e0
  refine ⟨num, o, rest, ?_, i64_wf w0, ho, ?_⟩
  ·congr 1
   apply Array.ext'
   simpa using hr
  ·have e : d = .agg [x0.1, x1.1] := by have := congrArg Prod.fst ex; exact this
   rw [e, bulk_law.agg, bulk_law.cons, bulk_law.cons, bulk_law.nil]
   have := bulk_law.pos x0.1
   omega
end Go.Proofs.YthacnnmlephkhaaGreatDoor

/- PrintBack's law and its argument's opener. No condition. -/

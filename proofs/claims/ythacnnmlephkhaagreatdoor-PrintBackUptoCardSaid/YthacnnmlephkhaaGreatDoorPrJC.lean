/- Walks and laws, joined: part C. No condition. -/
import Derived.Test.YthacnnmlephkhaaGreatDoorPrJB
import Derived.Test.YthacnnmlephkhaaGreatDoorPrJA
import Derived.Maps.AppendAt
import Derived.Laws.AppendOwnNone
import Derived.Lib.SliceRun
set_option linter.unusedSimpArgs false
set_option linter.unusedVariables false
/- Objects in memory of their own, and rows of them that grow. No condition. -/
namespace Go.Wk
open Go Go.RowKit
def ObI (lo hi : Nat) (w : World) (o : Ob) (vs : List Value) : Prop := hi ≤ w.heap.size ∧ ∀ w' : World, (∀ b, lo ≤ b → b < hi → w'.heap[b]? = w.heap[b]?) → hi ≤ w'.heap.size → ObAt w' o vs
theorem ObI.ob {lo hi : Nat} {w : World} {o : Ob} {vs : List Value} (h : ObI lo hi w o vs) : ObAt w o vs := h.2 w (fun _ _ _ => rfl) h.1
theorem ObI.keep {lo hi : Nat} {w w' : World} {o : Ob} {vs : List Value} (h : ObI lo hi w o vs) (hk : ∀ b, lo ≤ b → b < hi → w'.heap[b]? = w.heap[b]?) (hs : hi ≤ w'.heap.size) : ObI lo hi w' o vs :=
 ⟨hs, fun w2 h2 hz => h.2 w2 (fun b h3 h4 => (h2 b h3 h4).trans (hk b h3 h4)) hz⟩
theorem ObI.wide {lo lo' hi : Nat} {w : World} {o : Ob} {vs : List Value} (h : ObI lo hi w o vs) (hl : lo' ≤ lo) : ObI lo' hi w o vs :=
 ⟨h.1, fun w2 h2 hz => h.2 w2 (fun b h3 h4 => h2 b (by omega) h4) hz⟩
def EnI (lo hi : Nat) (w : World) (e : List UInt8 × Ob) (rs : List Value) : Prop := ∃ us, rs = strV e.1 :: us ∧ e.1.length ≤ maxLen ∧ ObI lo hi w e.2 us
structure ItLaw {α : Type} (I : Nat → Nat → World → α → List Value → Prop) (sz : Nat) : Prop where
 keep : ∀ {lo hi w w' a us}, I lo hi w a us → (∀ b, lo ≤ b → b < hi → w'.heap[b]? = w.heap[b]?) → hi ≤ w'.heap.size → I lo hi w' a us
 top : ∀ {lo hi w a us}, I lo hi w a us → hi ≤ w.heap.size
 len : ∀ {lo hi w a us}, I lo hi w a us → us.length = sz
theorem ob_law : ItLaw ObI 5 := ⟨fun h hk hs => h.keep hk hs, fun h => h.1, fun h => h.ob.five⟩
theorem en_law : ItLaw EnI 6 := ⟨fun ⟨us, h1, h2, h3⟩ hk hs => ⟨us, h1, h2, h3.keep hk hs⟩, fun ⟨us, h1, h2, h3⟩ => h3.1, fun ⟨us, h1, h2, h3⟩ => by rw [h1]; simp [h3.ob.five]⟩
structure RowG {α : Type} (I : Nat → Nat → World → α → List Value → Prop) (e : TypeId) (sz B : Nat) (w : World) (v : Value) (l : List α) (rss : List (List Value)) : Prop where
 len : rss.length = l.length
 row : w.ownsRow B e sz v l.length rss.flatten
 it : ∀ i (h : i < l.length), ∃ lo hi, B ≤ lo ∧ (∀ g, v.ownBlock = some g → g < lo ∨ hi ≤ g) ∧ I lo hi w l[i] (rss.getD i [])
section
variable {α : Type} {I : Nat → Nat → World → α → List Value → Prop} {e : TypeId} {sz B : Nat} {w w' : World} {v : Value} {l : List α} {rss : List (List Value)}
theorem RowG.nil (I : Nat → Nat → World → α → List Value → Prop) (e : TypeId) (sz B : Nat) (w : World) : RowG I e sz B w (.slice none 0 0) ([] : List α) [] :=
 ⟨rfl, World.ownsRow_nil _ _ _ _, fun i h => by simp at h⟩
theorem own_far {e : TypeId} {sz B : Nat} {w w' : World} {v : Value} {n : Nat} {xs : List Value} (h : w.ownsRow B e sz v n xs) (hk : ∀ b, B ≤ b → b < w.heap.size → w'.heap[b]? = w.heap[b]?) : w'.ownsRow B e sz v n xs := by
 refine ⟨h.1, ?_⟩
 rcases h.2 with h2 | ⟨g, cap, cur, e', hB, hh, rest⟩
 ·exact .inl h2
 ·exact .inr ⟨g, cap, cur, e', hB, (hk g hB (Array.getElem?_eq_some_iff.1 hh).1).trans hh, rest⟩
theorem RowG.far (L : ItLaw I sz) (h : RowG I e sz B w v l rss) (hk : ∀ b, B ≤ b → b < w.heap.size → w'.heap[b]? = w.heap[b]?) (hs : w.heap.size ≤ w'.heap.size) : RowG I e sz B w' v l rss :=
 ⟨h.len, own_far h.row hk, fun i hi => by
  obtain ⟨lo, hi', h1, h2, h3⟩ := h.it i hi
  have ht := L.top h3
  exact ⟨lo, hi', h1, h2, L.keep h3 (fun b hb hb' => hk b (by omega) (by omega)) (by omega)⟩⟩
theorem RowG.below (L : ItLaw I sz) (h : RowG I e sz B w v l rss) (hb : Below w.heap.size w w') : RowG I e sz B w' v l rss :=
 h.far L (fun b _ hb' => hb.block b hb') hb.size
theorem RowG.more (L : ItLaw I sz) (h : RowG I e sz B w v l rss) {a : α} {us : List Value} {lo hi : Nat} (ha : I lo hi w a us) (hlo : B ≤ lo) (hne : ∀ g, v.ownBlock = some g → g < lo ∨ hi ≤ g)
 {v' : Value} (hown : w'.ownsRow B e sz v' (l.length + 1) (rss.flatten ++ us)) (hg : w.grownBy w' v.ownBlock) (hat : v'.ownBlock = v.ownBlock ∨ v'.ownBlock = some w.heap.size) : RowG I e sz B w' v' (l ++ [a]) (rss ++ [us]) := by
 have keep : ∀ {lo hi : Nat}, hi ≤ w.heap.size → (∀ g, v.ownBlock = some g → g < lo ∨ hi ≤ g) → ∀ b, lo ≤ b → b < hi → w'.heap[b]? = w.heap[b]? := fun {lo hi} ht hq b h1 h2 =>
  hg.block b (by omega) (fun e => by have h9 := hq b e.symm; omega)
 have apart : ∀ {lo hi : Nat}, hi ≤ w.heap.size → (∀ g, v.ownBlock = some g → g < lo ∨ hi ≤ g) → ∀ g, v'.ownBlock = some g → g < lo ∨ hi ≤ g := fun {lo hi} ht hq g hgo => by
  rcases hat with e | e
  ·exact hq g (by rw [← e]; exact hgo)
  ·rw [e] at hgo; injection hgo with hgo; right; omega
 refine ⟨by simp [h.len], ?_, fun i hi' => ?_⟩
 ·rw [List.length_append, List.flatten_append]; simpa using hown
 ·rw [List.length_append] at hi'
  simp only [List.length_cons, List.length_nil] at hi'
  have hs := hg.size
  by_cases hil : i < l.length
  ·obtain ⟨lo2, hi2, h1, h2, h3⟩ := h.it i hil
   have ht := L.top h3
   refine ⟨lo2, hi2, h1, apart ht h2, ?_⟩
   rw [List.getElem_append_left hil, List.getD_eq_getElem?_getD, List.getElem?_append_left (by rw [h.len]; exact hil), ← List.getD_eq_getElem?_getD]
   exact L.keep h3 (keep ht h2) (by omega)
  ·obtain rfl : i = l.length := by omega
   have ht := L.top ha
   refine ⟨lo, hi, hlo, apart ht hne, ?_⟩
   have e1 : (rss ++ [us]).getD l.length [] = us := by
    rw [List.getD_eq_getElem?_getD, List.getElem?_append_right (by rw [h.len]; omega), h.len]; simp
   rw [e1]
   have e2 : (l ++ [a])[l.length] = a := by simp
   rw [e2]
   exact L.keep ha (keep ht hne) (by omega)
theorem flat_at {rss : List (List Value)} {sz : Nat} (h : ∀ i, i < rss.length → (rss.getD i []).length = sz) : ∀ i j, i < rss.length → j < sz → rss.flatten[sz * i + j]? = (rss.getD i [])[j]? := by
 induction rss with
 | nil => intro i j hi; simp at hi
 | cons r t ih =>
  intro i j hi hj
  have h0 := h 0 (by simp)
  simp only [List.getD_cons_zero] at h0
  cases i with
  | zero =>
   rw [List.flatten_cons, List.getElem?_append_left (by omega)]; simp
  | succ i =>
   rw [List.flatten_cons, List.getElem?_append_right (by rw [h0, Nat.mul_succ]; omega)]
   have := ih (fun k hk => by have := h (k + 1) (by simpa using hk); simpa using this) i j (by simpa using hi) hj
   rw [h0, show sz * (i + 1) + j - sz = sz * i + j by rw [Nat.mul_succ]; omega, this]
   simp
theorem RowG.out (L : ItLaw I sz) (hsz : 0 < sz) (h : RowG I e sz B w v l rss) : ∃ A c g, v = .slice A l.length c ∧ l.length ≤ c ∧ (A = none → c = 0) ∧ (0 < l.length → A = some ⟨g, 0, none⟩) ∧ c ≤ maxLen ∧
 (∀ i (hi : i < l.length), (∃ lo hi', I lo hi' w l[i] (rss.getD i [])) ∧ ∀ j, j < sz → w.cell? ⟨g, 0 + (sz * i + j), none⟩ = (rss.getD i [])[j]?) := by
 have hlen : ∀ i, i < rss.length → (rss.getD i []).length = sz := fun i hi => by
  obtain ⟨lo, hi', _, _, h3⟩ := h.it i (by rw [← h.len]; exact hi)
  exact L.len h3
 rcases h.row.2 with ⟨rfl, hn⟩ | ⟨g, cap, cur, rfl, hB, hh, hnc, hcm, hcs, htk⟩
 ·exact ⟨none, 0, 0, by rw [hn], by omega, fun _ => rfl, fun h => by omega, by unfold maxLen; omega, fun i hi => by omega⟩
 ·refine ⟨_, cap, g, rfl, hnc, (fun e => by cases e), fun _ => rfl, hcm, fun i hi => ⟨?_, fun j hj => ?_⟩⟩
  ·obtain ⟨lo, hi', _, _, h3⟩ := h.it i hi
   exact ⟨lo, hi', h3⟩
  ·rw [← flat_at hlen i j (by rw [h.len]; exact hi) hj, ← htk, List.getElem?_take]
   have hb : sz * i + j < l.length * sz := by
    have : sz * i + sz ≤ sz * l.length := by rw [← Nat.mul_succ]; exact Nat.mul_le_mul_left _ hi
    rw [Nat.mul_comm l.length]; omega
   rw [if_pos hb, Nat.zero_add]
   simp [World.cell?, hh]
end
theorem built {tb tO tE : TypeId} {B : Nat} {w : World} {k n : Int} {vB vL vD : Value} {b : List UInt8} {l : List Ob} {d : List (List UInt8 × Ob)} {rl rd : List (List Value)}
 (hk1 : -9223372036854775808 ≤ k) (hk2 : k ≤ 9223372036854775807) (hn1 : -9223372036854775808 ≤ n) (hn2 : n ≤ 9223372036854775807)
 (hb : w.ownsRow B tb 1 vB b.length (valsB b)) (hbm : b.length ≤ maxLen) (hL : RowG ObI tO 5 B w vL l rl) (hD : RowG EnI tE 6 B w vD d rd) :
 ObI B w.heap.size w (.mk k n b l d) [.int .i64 k, .int .i64 n, vB, vL, vD] := by
 refine ⟨Nat.le_refl _, fun w' h hz => ?_⟩
 have hb' := own_far hb h
 have hL' := hL.far ob_law h hz
 have hD' := hD.far en_law h hz
 obtain ⟨AL, cL, gL, rfl, h1, h2, h3, h4, h5⟩ := hL'.out ob_law (by omega)
 obtain ⟨AD, cD, gD, rfl, i1, i2, i3, i4, i5⟩ := hD'.out en_law (by omega)
 obtain ⟨A, c, rfl, hby⟩ := own_byt hb'
 have hbc : b.length ≤ c ∧ (A = none → c = 0) := by
  rcases hb'.2 with ⟨e, hn⟩ | ⟨g, cap, cur, e, _, _, hnc, _⟩
  ·injection e with e1 e2 e3; exact ⟨by omega, fun _ => e3⟩
  ·injection e with e1 e2 e3; exact ⟨by omega, fun e => by rw [e] at e1; cases e1⟩
 have hen : ∀ i (hi : i < d.length), ∃ us, rd.getD i [] = strV d[i].1 :: us ∧ d[i].1.length ≤ maxLen ∧ ObAt w' d[i].2 us := fun i hi => by
  obtain ⟨⟨lo, hi', us, e1, e2, e3⟩, _⟩ := i5 i hi
  exact ⟨us, e1, e2, e3.ob⟩
 refine ObAt.mk k n b l d A AL AD c cL cD gL 0 gD 0 (fun i => rl.getD i []) (fun i => (rd.getD i []).drop 1) hk1 hk2 hn1 hn2 (hby hbm) hbc.1 hbc.2 h1 (by omega) i1 (by omega) h3 (fun i hi => ?_) (fun i hi j hj => (h5 i hi).2 j hj) i3 (fun i hi => ?_) (fun i hi => ?_) (fun i hi j hj => ?_)
 ·obtain ⟨⟨lo, hi', e⟩, _⟩ := h5 i hi
  exact e.ob
 ·obtain ⟨us, e1, e2, e3⟩ := hen i hi
  show ObAt w' d[i].2 ((rd.getD i []).drop 1)
  rw [e1]; exact e3
 ·obtain ⟨us, e1, e2, e3⟩ := hen i hi
  have := (i5 i hi).2 0 (by omega)
  rw [e1] at this
  exact ⟨e2, this⟩
 ·have := (i5 i hi).2 (1 + j) (by omega)
  show _ = ((rd.getD i []).drop 1)[j]?
  rw [List.getElem?_drop, ← this]
  congr 2
  omega
end Go.Wk

/- Rows of objects and entries grown by append; bytes cloned. No condition. -/
namespace Go.Proofs.YthacnnmlephkhaaGreatDoor
open Go Go.RowKit Go.Wk
theorem ob_info : ∃ i, Tryz.prog.info? 26 = some i ∧ i.zero = some (.agg #[.int .i64 0, .int .i64 0, .slice none 0 0, .slice none 0 0, .slice none 0 0]) ∧ i.size = 5 ∧ i.bytes = 88 := ⟨Tryz.t26, by kernel_rfl, by kernel_rfl, by kernel_rfl, by kernel_rfl⟩
theorem en_info : ∃ i, Tryz.prog.info? 53 = some i ∧ i.zero = some (.agg #[.string ⟨#[]⟩, .int .i64 0, .int .i64 0, .slice none 0 0, .slice none 0 0, .slice none 0 0]) ∧ i.size = 6 ∧ i.bytes = 104 := ⟨Tryz.t53, by kernel_rfl, by kernel_rfl, by kernel_rfl, by kernel_rfl⟩
theorem one_five {us : List Value} {w : World} {o : Ob} (h : ObAt w o us) : ∀ u ∈ us, u.oneCell' = true := by
 cases h
 intro u hu
 simp at hu
 rcases hu with rfl | rfl | rfl | rfl | rfl <;> rfl
theorem app_ob {w : World} {ops : Array Oper} {rest : List Oper} {o : Oper} {a : Act} {Q : Exit → Act → World → Prop} (hgd : o.guard = none) (s x : Operand)
 (ho : o.op = .call { callee := .builtin .append, args := #[s, x], argTypes := #[23, 23] }) (B : Nat) (v : Value) (l : List Ob) (rss : List (List Value)) (hs : a.eval s = v) (hR : RowG ObI 26 5 B w v l rss)
 (g lo hi : Nat) (ob : Ob) (us : List Value) (hx : a.eval x = .slice (some ⟨g, 0, none⟩) 1 1) (hob : ObI lo hi w ob us) (hlo : B ≤ lo) (hne : ∀ g, v.ownBlock = some g → g < lo ∨ hi ≤ g)
 (hc : ∀ j u, us[j]? = some u → w.cell? ⟨g, j, none⟩ = some u) (hl : l.length ≤ 1000000000) (hB : B ≤ w.heap.size)
 (h : ∀ v' w', RowG ObI 26 5 B w' v' (l ++ [ob]) (rss ++ [us]) → w.grownBy w' v.ownBlock → (v'.ownBlock = v.ownBlock ∨ v'.ownBlock = some w.heap.size) → wpList Tryz.prog ops Q rest (a.put o.dst v') w') : wpList Tryz.prog ops Q (o :: rest) a w := by
 obtain ⟨i0, hi0, hz0, hz1, hz2⟩ := ob_info
 refine wpList_append_own_at w hgd s x 23 ho B 26 i0 _ 5 88 Tryz.underlying23 hi0 hz0 hz1 hz2 rfl (by decide) v l.length rss.flatten hs hR.row ⟨g, 0, none⟩ 1 1 us hx (by rw [hob.ob.five]) ?_ (one_five hob.ob) (by unfold maxLen; omega) (by omega) hB ?_
 ·intro j u hu; rw [addr_add, Nat.zero_add]; exact hc j u hu
 ·intro v' w' h1 h2 _ h3
  exact h v' w' (hR.more ob_law hob hlo hne h1 h2 h3) h2 h3
theorem one_six {rs : List Value} {w : World} {lo hi : Nat} {e : List UInt8 × Ob} (h : EnI lo hi w e rs) : ∀ u ∈ rs, u.oneCell' = true := by
 obtain ⟨us, rfl, _, h3⟩ := h
 intro u hu
 rcases List.mem_cons.1 hu with rfl | hu
 ·rfl
 ·exact one_five h3.ob u hu
theorem app_en {w : World} {ops : Array Oper} {rest : List Oper} {o : Oper} {a : Act} {Q : Exit → Act → World → Prop} (hgd : o.guard = none) (s x : Operand)
 (ho : o.op = .call { callee := .builtin .append, args := #[s, x], argTypes := #[24, 24] }) (B : Nat) (v : Value) (l : List (List UInt8 × Ob)) (rss : List (List Value)) (hs : a.eval s = v) (hR : RowG EnI 53 6 B w v l rss)
 (g lo hi : Nat) (e : List UInt8 × Ob) (us : List Value) (hx : a.eval x = .slice (some ⟨g, 0, none⟩) 1 1) (hob : EnI lo hi w e us) (hlo : B ≤ lo) (hne : ∀ g, v.ownBlock = some g → g < lo ∨ hi ≤ g)
 (hc : ∀ j u, us[j]? = some u → w.cell? ⟨g, j, none⟩ = some u) (hl : l.length ≤ 1000000000) (hB : B ≤ w.heap.size)
 (h : ∀ v' w', RowG EnI 53 6 B w' v' (l ++ [e]) (rss ++ [us]) → w.grownBy w' v.ownBlock → (v'.ownBlock = v.ownBlock ∨ v'.ownBlock = some w.heap.size) → wpList Tryz.prog ops Q rest (a.put o.dst v') w') : wpList Tryz.prog ops Q (o :: rest) a w := by
 obtain ⟨i0, hi0, hz0, hz1, hz2⟩ := en_info
 refine wpList_append_own_at w hgd s x 24 ho B 53 i0 _ 6 104 Tryz.underlying24 hi0 hz0 hz1 hz2 rfl (by decide) v l.length rss.flatten hs hR.row ⟨g, 0, none⟩ 1 1 us hx (by rw [en_law.len hob]) ?_ (one_six hob) (by unfold maxLen; omega) (by omega) hB ?_
 ·intro j u hu; rw [addr_add, Nat.zero_add]; exact hc j u hu
 ·intro v' w' h1 h2 _ h3
  exact h v' w' (hR.more en_law hob hlo hne h1 h2 h3) h2 h3
theorem own_empty (w : World) : Own w.heap.size (w.alloc (.cells #[] 5)) (.slice (some ⟨w.heap.size, 0, none⟩) 0 0) [] :=
 ⟨World.ownsRow_made w #[] 0 (Nat.le_refl _) (by decide) rfl⟩
set_option maxHeartbeats 4000000 in
set_option maxRecDepth 100000 in
theorem byt_Clone (A : Option Addr) (c : Nat) (bs : List UInt8) (w : World) (hb : Byt w A bs) (hA : A = none → c = 0) (hl : bs.length ≤ 1000000000) : Calls Tryz.prog 96 #[.slice A bs.length c] w (RO w bs) := by
 cases A with
 | none =>
  have hbs : bs = [] := by
   cases bs with
   | nil => rfl
   | cons y l => obtain ⟨b, o, e, _⟩ := hb.2 (by simp); cases e
  subst hbs
  obtain rfl := hA rfl
  have hq : (binOp .eql 22 (.slice none 0 0) (.slice none 0 0)).run Tryz.prog w = .ok (.bool true) w := Lib.run_eql_slice_nil w 22 5 none 0 0 0 0 Tryz.underlying22
  go_enter Tryz.func96, Tryz.ntmps96
  go_wp2
  go_ret
  exact ⟨_, rfl, Own.nil _ _, Below.refl _ _⟩
 | some ad =>
  have hb2 := hi_ (hb.below ((Below.refl _ _).alloc (Nat.le_refl _) (.cells #[] 5)))
  have hO := hi_ (own_empty w)
  have hB0 : Below w.heap.size w (w.alloc (.cells #[] 5)) := (Below.refl _ _).alloc (Nat.le_refl _) _
  replace hB0 := hi_ hB0
  obtain ⟨m, hm⟩ : ∃ m, m = bs.length := ⟨_, rfl⟩
  rw [← hm]
  replace hm := hi_ hm
  have hq : (binOp .eql 22 (.slice (some ad) m c) (.slice none 0 0)).run Tryz.prog w = .ok (.bool false) w := Lib.run_eql_slice_nil w 22 5 (some ad) m c 0 0 Tryz.underlying22
  clear hb hA
  go_enter Tryz.func96, Tryz.ntmps96
  go_wp2_with (at_builtin; refine app_b rfl _ _ rfl w.heap.size _ _ rfl hO.out (some ad) _ c bs rfl hm.out hb2.out (fun e => (by cases e)) (by simp only [List.length_nil]; omega) (by rw [World.size_alloc]; omega) ?_; intro v' w2 hO2 hB2; replace hO2 := hi_ hO2; replace hB2 := hi_ hB2)
  go_ret
  exact ⟨_, rfl, by simpa using hO2.out, hB0.out.trans hB2.out⟩

/- What holds while an object is copied. No condition. -/
theorem set_grown (w : World) (g i : Nat) (v : Value) : w.grownBy (w.setCell ⟨g, i, none⟩ v) (some g) :=
 ⟨rfl, rfl, rfl, by simp [World.setCell], fun k _ hk => Below.heap_setCell _ _ _ _ (fun e => hk (by rw [e]))⟩
theorem own_grown {B : Nat} {w w' : World} {v : Value} {b : List UInt8} {row : Option Nat} (h : Own B w v b) (hg : w.grownBy w' row) (hne : ∀ q, v.ownBlock = some q → some q ≠ row) : Own B w' v b :=
 ⟨h.row.kept hg (by cases e : v.ownBlock with
  | none => exact .inl rfl
  | some q => exact .inr (hne q e))⟩
structure CpL (W2 : World) (BB HS g : Nat) (k n : Int) (vB : Value) (b : List UInt8) (w : World) (vL : Value) (l : List Ob) (rl : List (List Value)) : Prop where
 blk : Blk w g 26 #[.int .i64 k, .int .i64 n, vB, vL, .slice none 0 0]
 own : Own BB w vB b
 lt : ∀ q, vB.ownBlock = some q → q ≠ g ∧ q < HS
 row : RowG ObI 26 5 HS w vL l rl
 below : Below BB W2 w
 g1 : BB ≤ g
 g2 : g < HS
 hs : HS ≤ w.heap.size
theorem CpL.step {W2 : World} {BB HS g : Nat} {k n : Int} {vB : Value} {b : List UInt8} {w w' : World} {vL : Value} {l : List Ob} {rl : List (List Value)} (h : CpL W2 BB HS g k n vB b w vL l rl) (hb : Below w.heap.size w w') : CpL W2 BB HS g k n vB b w' vL l rl :=
 ⟨h.blk.below hb h.blk.lt, h.own.below hb, h.lt, h.row.below ob_law hb, h.below.trans (hb.mono (by have := h.g1; have := h.g2; have := h.hs; omega)), h.g1, h.g2, Nat.le_trans h.hs hb.size⟩
theorem CpL.apart {W2 : World} {BB HS g : Nat} {k n : Int} {vB : Value} {b : List UInt8} {w : World} {vL : Value} {l : List Ob} {rl : List (List Value)} (h : CpL W2 BB HS g k n vB b w vL l rl) : some g ≠ vL.ownBlock := fun e => by
 have := (h.row.row.lt g e.symm).1
 have := h.g2
 omega
theorem CpL.put {W2 : World} {BB HS g : Nat} {k n : Int} {vB : Value} {b : List UInt8} {w w3 : World} {vL v' : Value} {l l' : List Ob} {rl rl' : List (List Value)} (h : CpL W2 BB HS g k n vB b w vL l rl)
 (hR : RowG ObI 26 5 HS w3 v' l' rl') (hg : w.grownBy w3 vL.ownBlock) : Blk w3 g 26 #[.int .i64 k, .int .i64 n, vB, vL, .slice none 0 0] ∧ CpL W2 BB HS g k n vB b (w3.setCell ⟨g, 3, none⟩ v') v' l' rl' := by
 have hblk := h.blk.grown hg h.apart
 have hs := set_grown w3 g 3 v'
 have z3 := hg.size
 have h1 := h.g1
 have h2 := h.g2
 have h3 := h.hs
 have hz : (w3.setCell ⟨g, 3, none⟩ v').heap.size = w3.heap.size := by simp [World.setCell]
 refine ⟨hblk, ⟨hblk.set_ 3 v', ?_, h.lt, ?_, ?_, h1, h2, by omega⟩⟩
 ·refine own_grown (own_grown h.own hg fun q hq e => ?_) hs fun q hq e => ?_
  ·have := (h.row.row.lt q e.symm).1
   have := (h.lt q hq).2
   omega
  ·injection e with e
   exact (h.lt q hq).1 e
 ·exact hR.far ob_law (fun b hb _ => Below.heap_setCell _ _ _ _ (by show b ≠ g; omega)) (by omega)
 ·refine ((h.below).grown hg (by omega) fun q hq => ?_).grown hs (by omega) fun q hq => ?_
  ·have := (h.row.row.lt q hq).1; omega
  ·injection hq with hq; omega
structure CpD (W2 : World) (BB HS HD g : Nat) (k n : Int) (vB : Value) (b : List UInt8) (vL : Value) (l : List Ob) (rl : List (List Value)) (w : World) (vD : Value) (d : List (List UInt8 × Ob)) (rd : List (List Value)) : Prop where
 blk : Blk w g 26 #[.int .i64 k, .int .i64 n, vB, vL, vD]
 own : Own BB w vB b
 lt : ∀ q, vB.ownBlock = some q → q ≠ g ∧ q < HS
 rowL : ∀ w' : World, (∀ c, HS ≤ c → c < HD → w'.heap[c]? = w.heap[c]?) → HD ≤ w'.heap.size → RowG ObI 26 5 HS w' vL l rl
 row : RowG EnI 53 6 HD w vD d rd
 below : Below BB W2 w
 g1 : BB ≤ g
 g2 : g < HS
 h1 : HS ≤ HD
 hs : HD ≤ w.heap.size
theorem CpL.toD {W2 : World} {BB HS g : Nat} {k n : Int} {vB : Value} {b : List UInt8} {w : World} {vL : Value} {l : List Ob} {rl : List (List Value)} (h : CpL W2 BB HS g k n vB b w vL l rl) : CpD W2 BB HS w.heap.size g k n vB b vL l rl w (.slice none 0 0) [] [] :=
 ⟨h.blk, h.own, h.lt, fun w' hw hz => h.row.far ob_law hw hz, RowG.nil _ _ _ _ _, h.below, h.g1, h.g2, h.hs, Nat.le_refl _⟩
theorem CpD.step {W2 : World} {BB HS HD g : Nat} {k n : Int} {vB : Value} {b : List UInt8} {w w' : World} {vL vD : Value} {l : List Ob} {rl : List (List Value)} {d : List (List UInt8 × Ob)} {rd : List (List Value)} (h : CpD W2 BB HS HD g k n vB b vL l rl w vD d rd) (hb : Below w.heap.size w w') : CpD W2 BB HS HD g k n vB b vL l rl w' vD d rd :=
 ⟨h.blk.below hb h.blk.lt, h.own.below hb, h.lt, fun w2 hw hz => h.rowL w2 (fun c h1 h2 => (hw c h1 h2).trans (hb.block c (by have := h.hs; omega))) hz, h.row.below en_law hb, h.below.trans (hb.mono (by have := h.g1; have := h.g2; have := h.h1; have := h.hs; omega)), h.g1, h.g2, h.h1, Nat.le_trans h.hs hb.size⟩
theorem CpD.apart {W2 : World} {BB HS HD g : Nat} {k n : Int} {vB : Value} {b : List UInt8} {w : World} {vL vD : Value} {l : List Ob} {rl : List (List Value)} {d : List (List UInt8 × Ob)} {rd : List (List Value)} (h : CpD W2 BB HS HD g k n vB b vL l rl w vD d rd) : some g ≠ vD.ownBlock := fun e => by
 have := (h.row.row.lt g e.symm).1
 have := h.g2
 have := h.h1
 omega
theorem CpD.put {W2 : World} {BB HS HD g : Nat} {k n : Int} {vB : Value} {b : List UInt8} {w w3 : World} {vL vD v' : Value} {l : List Ob} {rl : List (List Value)} {d d' : List (List UInt8 × Ob)} {rd rd' : List (List Value)} (h : CpD W2 BB HS HD g k n vB b vL l rl w vD d rd)
 (hR : RowG EnI 53 6 HD w3 v' d' rd') (hg : w.grownBy w3 vD.ownBlock) : Blk w3 g 26 #[.int .i64 k, .int .i64 n, vB, vL, vD] ∧ CpD W2 BB HS HD g k n vB b vL l rl (w3.setCell ⟨g, 4, none⟩ v') v' d' rd' := by
 have hblk := h.blk.grown hg h.apart
 have hs := set_grown w3 g 4 v'
 have z3 := hg.size
 have h1 := h.g1
 have h2 := h.g2
 have h3 := h.hs
 have h4 := h.h1
 have hz : (w3.setCell ⟨g, 4, none⟩ v').heap.size = w3.heap.size := by simp [World.setCell]
 refine ⟨hblk, ⟨hblk.set_ 4 v', ?_, h.lt, fun w2 hw hz2 => ?_, ?_, ?_, h1, h2, h4, by omega⟩⟩
 ·refine own_grown (own_grown h.own hg fun q hq e => ?_) hs fun q hq e => ?_
  ·have := (h.row.row.lt q e.symm).1
   have := (h.lt q hq).2
   omega
  ·injection e with e
   exact (h.lt q hq).1 e
 ·refine h.rowL w2 (fun c c1 c2 => ((hw c c1 c2).trans (Below.heap_setCell _ _ _ _ (by show c ≠ g; omega))).trans (hg.block c (by omega) fun e => ?_)) hz2
  have := (h.row.row.lt c e.symm).1
  omega
 ·exact hR.far en_law (fun b hb _ => Below.heap_setCell _ _ _ _ (by show b ≠ g; omega)) (by omega)
 ·refine ((h.below).grown hg (by omega) fun q hq => ?_).grown hs (by omega) fun q hq => ?_
  ·have := (h.row.row.lt q hq).1; omega
  ·injection hq with hq; omega
theorem _root_.Go.Wk.RowG.base {α : Type} {I : Nat → Nat → World → α → List Value → Prop} {e : TypeId} {sz B B' : Nat} {w : World} {v : Value} {l : List α} {rss : List (List Value)} (h : RowG I e sz B w v l rss) (hB : B' ≤ B) : RowG I e sz B' w v l rss := by
 refine ⟨h.len, ⟨h.row.1, ?_⟩, fun i hi => ?_⟩
 ·rcases h.row.2 with h2 | ⟨g, cap, cur, e', hb, rest⟩
  ·exact .inl h2
  ·exact .inr ⟨g, cap, cur, e', Nat.le_trans hB hb, rest⟩
 ·obtain ⟨lo, hi', h1, h2, h3⟩ := h.it i hi
  exact ⟨lo, hi', by omega, h2, h3⟩
theorem CpD.done {W2 : World} {B BB HS HD g : Nat} {k n : Int} {vB : Value} {b : List UInt8} {w : World} {vL vD : Value} {l : List Ob} {rl : List (List Value)} {d : List (List UInt8 × Ob)} {rd : List (List Value)} (h : CpD W2 BB HS HD g k n vB b vL l rl w vD d rd)
 (hk1 : -9223372036854775808 ≤ k) (hk2 : k ≤ 9223372036854775807) (hn1 : -9223372036854775808 ≤ n) (hn2 : n ≤ 9223372036854775807) (hbm : b.length ≤ maxLen) (hB : B ≤ BB) :
 ObI B w.heap.size w (.mk k n b l d) [.int .i64 k, .int .i64 n, vB, vL, vD] := by
 have h1 := h.g1
 have h2 := h.g2
 have h3 := h.h1
 exact built hk1 hk2 hn1 hn2 ((h.own.base hB).row) hbm ((h.rowL w (fun _ _ _ => rfl) h.hs).base (by omega)) (h.row.base (by omega))

/- An object copied. No condition. -/
def CopyC (N : Nat) : Prop := ∀ (o : Ob) (vs : List Value) (w : World), ObAt w o vs → o.bulk ≤ N → Calls Tryz.prog 66 #[.agg vs.toArray] w fun e w' => ∃ us, e = .returned (.agg (List.toArray us)) ∧ ObI w.heap.size w'.heap.size w' o us ∧ Below w.heap.size w w'
def GC (p BB : Nat) (k n : Int) (A : Option Addr) (c : Nat) (b : List UInt8) : Nat → Value → World → Prop := fun j v w => match j with
 | 0 => v = .pointer (some ⟨p, 0, none⟩)
 | 1 => v = .int .i64 k
 | 2 => v = .pointer (some ⟨p, 1, none⟩)
 | 3 => v = .int .i64 n
 | 4 => v = .pointer (some ⟨p, 2, none⟩)
 | 5 => v = .slice A b.length c
 | 6 => Own BB w v b
 | 7 => ∃ A' c', v = .agg #[.int .i64 k, .int .i64 n, .slice A' b.length c', .slice none 0 0, .slice none 0 0] ∧ Own BB w (.slice A' b.length c') b
 | _ => ∃ g, v = .pointer (some ⟨g, 0, none⟩) ∧ Blk w g 26 #[.int .i64 0, .int .i64 0, .slice none 0 0, .slice none 0 0, .slice none 0 0] ∧ BB ≤ g
theorem GC_mono {p BB : Nat} {k n : Int} {A : Option Addr} {c : Nat} {b : List UInt8} (j : Nat) (v : Value) (w w' : World) (hG : GC p BB k n A c b j v w) (hk : Below w.heap.size w w') : GC p BB k n A c b j v w' := by
 unfold GC at hG ⊢
 split at hG <;> first
  | exact hG
  | exact hG.below hk
  | (obtain ⟨A', c', e, h⟩ := hG; exact ⟨A', c', e, h.below hk⟩)
  | (obtain ⟨g, e, h, hb⟩ := hG; exact ⟨g, e, h.below hk h.lt, hb⟩)
theorem own_not {B : Nat} {w : World} {v : Value} {b : List UInt8} (h : Own B w v b) {g : Nat} {cs : Array Value} (hb : Blk w g 26 cs) : v.ownBlock ≠ some g := by
 rcases h.row.2 with ⟨rfl, _⟩ | ⟨g', cap, cur, rfl, _, hh, _⟩
 ·simp [Value.ownBlock]
 ·intro e
  simp only [Value.ownBlock, Option.some.injEq] at e
  subst e
  unfold Blk at hb
  rw [hb] at hh
  simp at hh
theorem six_cells {w : World} {v0 v1 v2 v3 v4 v5 : Value} {W : World} (hW : W = w.alloc (.cells #[v0, v1, v2, v3, v4, v5] 53)) :
 W.cell? ⟨w.heap.size, 0, none⟩ = some v0 ∧ W.cell? ⟨w.heap.size, 1, none⟩ = some v1 ∧ W.cell? ⟨w.heap.size, 2, none⟩ = some v2 ∧ W.cell? ⟨w.heap.size, 3, none⟩ = some v3 ∧ W.cell? ⟨w.heap.size, 4, none⟩ = some v4 ∧ W.cell? ⟨w.heap.size, 5, none⟩ = some v5 := by
 subst hW
 refine ⟨?_, ?_, ?_, ?_, ?_, ?_⟩ <;> simp
theorem six_kept {p : Nat} {v0 v1 v2 v3 v4 v5 : Value} {W W' : World} (h : W.cell? ⟨p, 0, none⟩ = some v0 ∧ W.cell? ⟨p, 1, none⟩ = some v1 ∧ W.cell? ⟨p, 2, none⟩ = some v2 ∧ W.cell? ⟨p, 3, none⟩ = some v3 ∧ W.cell? ⟨p, 4, none⟩ = some v4 ∧ W.cell? ⟨p, 5, none⟩ = some v5) (hb : Below W.heap.size W W') :
 W'.cell? ⟨p, 0, none⟩ = some v0 ∧ W'.cell? ⟨p, 1, none⟩ = some v1 ∧ W'.cell? ⟨p, 2, none⟩ = some v2 ∧ W'.cell? ⟨p, 3, none⟩ = some v3 ∧ W'.cell? ⟨p, 4, none⟩ = some v4 ∧ W'.cell? ⟨p, 5, none⟩ = some v5 :=
 ⟨(hb.cell (cell_lt h.1)).trans h.1, (hb.cell (cell_lt h.2.1)).trans h.2.1, (hb.cell (cell_lt h.2.2.1)).trans h.2.2.1, (hb.cell (cell_lt h.2.2.2.1)).trans h.2.2.2.1, (hb.cell (cell_lt h.2.2.2.2.1)).trans h.2.2.2.2.1, (hb.cell (cell_lt h.2.2.2.2.2)).trans h.2.2.2.2.2⟩
def GL (W5s g : Nat) (vL : Value) (ag : Array Value) (o : Ob) : Nat → Value → World → Prop := fun j v w => match j with
 | 0 | 6 => v = .pointer (some ⟨g, 3, none⟩)
 | 1 => v = vL
 | 2 => v = .agg ag
 | 3 => ∃ us hi, v = .agg (List.toArray us) ∧ ObI W5s hi w o us
 | _ => ∃ q us hi, v = .slice (some ⟨q, 0, none⟩) 1 1 ∧ ObI W5s hi w o us ∧ ∀ j u, us[j]? = some u → w.cell? ⟨q, j, none⟩ = some u
theorem obI_below {lo hi : Nat} {w w' : World} {o : Ob} {us : List Value} (h : ObI lo hi w o us) (hk : Below w.heap.size w w') : ObI lo hi w' o us := h.keep (fun b _ hb => hk.block b (by have := h.1; omega)) (Nat.le_trans h.1 hk.size)
theorem GL_mono {W5s g : Nat} {vL : Value} {ag : Array Value} {o : Ob} (j : Nat) (v : Value) (w w' : World) (hG : GL W5s g vL ag o j v w) (hk : Below w.heap.size w w') : GL W5s g vL ag o j v w' := by
 unfold GL at hG ⊢
 split at hG <;> first
  | exact hG
  | (obtain ⟨us, hi, e, h⟩ := hG; exact ⟨us, hi, e, obI_below h hk⟩)
  | (obtain ⟨q, us, hi, e, h, hc⟩ := hG; exact ⟨q, us, hi, e, obI_below h hk, fun j u hu => (hk.cell (cell_lt (hc j u hu))).trans (hc j u hu)⟩)
def GE (W5s g p : Nat) (vD : Value) (K : ByteArray) (ag : Array Value) (e : List UInt8 × Ob) : Nat → Value → World → Prop := fun j v w => match j with
 | 0 | 10 => v = .pointer (some ⟨g, 4, none⟩)
 | 1 => v = vD
 | 2 => v = .pointer (some ⟨p, 0, none⟩)
 | 3 => v = .string K
 | 4 => v = .pointer (some ⟨p, 1, none⟩)
 | 5 => v = .agg ag
 | 6 => ∃ us hi, v = .agg (List.toArray us) ∧ ObI W5s hi w e.2 us
 | 7 => ∃ us hi, v = .agg (List.toArray (.string K :: us)) ∧ ObI W5s hi w e.2 us
 | _ => ∃ q us hi, v = .slice (some ⟨q, 0, none⟩) 1 1 ∧ ObI W5s hi w e.2 us ∧ ∀ j u, (Value.string K :: us)[j]? = some u → w.cell? ⟨q, j, none⟩ = some u
theorem GE_mono {W5s g p : Nat} {vD : Value} {K : ByteArray} {ag : Array Value} {e : List UInt8 × Ob} (j : Nat) (v : Value) (w w' : World) (hG : GE W5s g p vD K ag e j v w) (hk : Below w.heap.size w w') : GE W5s g p vD K ag e j v w' := by
 unfold GE at hG ⊢
 split at hG <;> first
  | exact hG
  | (obtain ⟨us, hi, e, h⟩ := hG; exact ⟨us, hi, e, obI_below h hk⟩)
  | (obtain ⟨q, us, hi, e, h, hc⟩ := hG; exact ⟨q, us, hi, e, obI_below h hk, fun j u hu => (hk.cell (cell_lt (hc j u hu))).trans (hc j u hu)⟩)
theorem new_cells (w : World) (us : List Value) (t : TypeId) : ∀ j u, us[j]? = some u → (w.alloc (.cells us.toArray t)).cell? ⟨w.heap.size, j, none⟩ = some u := fun j u hu => by
 have h0 := alloc_cell (w := w) (vs := us.toArray) (e := t) (i := j)
 rw [Nat.zero_add] at h0
 rw [h0]
 simpa using hu
set_option maxHeartbeats 8000000 in
set_option maxRecDepth 100000 in
theorem copy_step (N : Nat) (hN : N + 1 ≤ 1048576) (ih : CopyC N) : CopyC (N + 1) := by
 intro o vs w h hbk
 cases h with
 | mk k n b l d A AL AD c cL cD gL oL gD oD vl vd h1 h2 h3 h4 hB5 h6 h7 h8 h9 h10 h11 hAL hl hlv hAD hdo hdk hdv =>
 have zk : b.length + bulkL l + bulkD d + 1 ≤ N + 1 := hbk
 have zl := bulkL_len l
 have zd := bulkD_len d
 have zlk := fun i hi => bulkL_at l i hi
 have zdk := fun i hi => bulkD_at d i hi
 obtain ⟨m2, hm2⟩ : ∃ m, m = l.length := ⟨_, rfl⟩
 obtain ⟨m3, hm3⟩ : ∃ m, m = d.length := ⟨_, rfl⟩
 have zb1 : b.length ≤ 1048576 := by omega
 rw [← hm2] at zl ⊢
 rw [← hm3] at zd ⊢
 have zl1 : m2 ≤ 1048576 := by omega
 have zd1 : m3 ≤ 1048576 := by omega
 obtain ⟨W1, hW1⟩ : ∃ W, W = w.alloc (.cells #[.int .i64 k, .int .i64 n, .slice A b.length c, .slice AL m2 cL, .slice AD m3 cD] 26) := ⟨_, rfl⟩
 obtain ⟨W2, hW2⟩ : ∃ W, W = W1.alloc (.cells #[.int .i64 0, .int .i64 0, .slice none 0 0, .slice none 0 0, .slice none 0 0] 26) := ⟨_, rfl⟩
 have hb1 : Below w.heap.size w W1 := by rw [hW1]; exact (Below.refl _ _).alloc (Nat.le_refl _) _
 have z1 : W1.heap.size = w.heap.size + 1 := by rw [hW1, World.size_alloc]
 have hb2 : Below w.heap.size w W2 := by rw [hW2]; exact hb1.alloc (by omega) _
 have z2 : W2.heap.size = w.heap.size + 2 := by rw [hW2, World.size_alloc, z1]
 have f := five_kept (five_cells hW1) (W' := W2) (by rw [hW2]; exact (Below.refl _ _).alloc (Nat.le_refl _) _)
 have hR2 : Blk W2 (w.heap.size + 1) 26 #[.int .i64 0, .int .i64 0, .slice none 0 0, .slice none 0 0, .slice none 0 0] := by rw [hW2, ← z1]; exact Blk.new W1 26 _
 obtain ⟨f0, f1, f2, f3, f4⟩ := id f
 have e41 : 1048576 ≤ maxLen := by unfold maxLen; omega
 have hbb := hB5.below hb2
 replace hm2 := hi_ hm2
 replace hm3 := hi_ hm3
 replace hAL := hi_ hAL
 replace hl := hi_ hl
 replace hlv := hi_ hlv
 replace hAD := hi_ hAD
 replace hdo := hi_ hdo
 replace hdk := hi_ hdk
 replace hdv := hi_ hdv
 replace zlk := hi_ zlk
 replace zdk := hi_ zdk
 replace ih := hi_ ih
 replace hb1 := hi_ hb1
 replace hb2 := hi_ hb2
 replace f := hi_ f
 replace hR2 := hi_ hR2
 replace hbb := hi_ hbb
 have hrng := hi_ (And.intro h1 (And.intro h2 (And.intro h3 h4)))
 replace h7 := hi_ h7
 clear h1 h2 h3 h4 hB5 h6 h8 h9 h10 h11 hbk
 go_enter Tryz.func66, Tryz.ntmps66
 go_upto_region 1 with (fail)
 rw [← hW1, ← hW2]
 refine wp_lin_tail (by kernel_rfl) [none, none, none, some 8, none, none, none, none, some 0, some 1, some 2, some 3, some 4, some 5, some 6, some 7, none, none, none, none, none, none, none, none, none, none, none, none, none, none, none, none, none, none, none, none, none, none, none, none, none, none, none, none, none, none, none, none, none, none, none] (fun w' => Below W2.heap.size W2 w') (fun w' w'' => Below w'.heap.size w' w'') (GC w.heap.size W2.heap.size k n A c b) (by rfl) (by kernel_rfl) 9 _ rfl (by decide) (by kernel_rfl) [1, 7, 3, 7, 5, 6, 7, 9, 9, 0] (by kernel_rfl) ?hR ?mono (.cons 8 (step_of [] rfl (by kernel_rfl) ?s8) (.cons 7 (step_of [1, 3, 6] rfl (by kernel_rfl) ?s7) (.cons 6 (step_of [5] rfl (by kernel_rfl) ?s6) (.cons 5 (step_of [4] rfl (by kernel_rfl) ?s5) (.cons 4 (step_of [] rfl (by kernel_rfl) ?s4) (.cons 3 (step_of [2] rfl (by kernel_rfl) ?s3) (.cons 2 (step_of [] rfl (by kernel_rfl) ?s2) (.cons 1 (step_of [0] rfl (by kernel_rfl) ?s1) (.cons 0 (step_of [] rfl (by kernel_rfl) ?s0) (.nil)))))))))) ?done
 case hR => exact (Below.refl _ _).drew
 case mono => exact GC_mono
 case s0 =>
  intro x w' hRw hd K9 hK
  simp only [All, GC] at hd
  obtain ⟨_⟩ := hd
  simp +decide only [upd, GC, fillL, if_true, if_false] at hK ⊢
  go_simp
  have hK2 := hK _ _ ⟨hRw, Below.refl _ _, rfl⟩
  exact hK2
 case s1 =>
  intro x w' hRw hd K9 hK
  simp only [All, GC] at hd
  obtain ⟨e0, _⟩ := hd
  simp +decide only [upd, GC, fillL, if_true, if_false] at hK ⊢
  obtain ⟨y0, y1, y2, y3, y4⟩ := five_kept f.out hRw
  simp only [e0] at hK ⊢
  go_simp
  have hK2 := hK _ _ ⟨hRw, Below.refl _ _, rfl⟩
  exact hK2
 case s2 =>
  intro x w' hRw hd K9 hK
  simp only [All, GC] at hd
  obtain ⟨_⟩ := hd
  simp +decide only [upd, GC, fillL, if_true, if_false] at hK ⊢
  go_simp
  have hK2 := hK _ _ ⟨hRw, Below.refl _ _, rfl⟩
  exact hK2
 case s3 =>
  intro x w' hRw hd K9 hK
  simp only [All, GC] at hd
  obtain ⟨e2, _⟩ := hd
  simp +decide only [upd, GC, fillL, if_true, if_false] at hK ⊢
  obtain ⟨y0, y1, y2, y3, y4⟩ := five_kept f.out hRw
  simp only [e2] at hK ⊢
  go_simp
  have hK2 := hK _ _ ⟨hRw, Below.refl _ _, rfl⟩
  exact hK2
 case s4 =>
  intro x w' hRw hd K9 hK
  simp only [All, GC] at hd
  obtain ⟨_⟩ := hd
  simp +decide only [upd, GC, fillL, if_true, if_false] at hK ⊢
  go_simp
  have hK2 := hK _ _ ⟨hRw, Below.refl _ _, rfl⟩
  exact hK2
 case s5 =>
  intro x w' hRw hd K9 hK
  simp only [All, GC] at hd
  obtain ⟨e4, _⟩ := hd
  simp +decide only [upd, GC, fillL, if_true, if_false] at hK ⊢
  obtain ⟨y0, y1, y2, y3, y4⟩ := five_kept f.out hRw
  simp only [e4] at hK ⊢
  go_simp
  have hK2 := hK _ _ ⟨hRw, Below.refl _ _, rfl⟩
  exact hK2
 case s6 =>
  intro x w' hRw hd K9 hK
  simp only [All, GC] at hd
  obtain ⟨e5, _⟩ := hd
  simp +decide only [upd, GC, fillL, if_true, if_false] at hK ⊢
  simp only [e5] at hK ⊢
  go_simp
  refine (byt_Clone A c b w' (hbb.out.below hRw) h7.out (by omega)).mono ?_
  rintro e' w9 ⟨v9, rfl, hO9, hB9⟩
  have hK2 := hK _ _ ⟨bthen hRw hB9, hB9, hO9.base hRw.size⟩
  exact hK2
 case s7 =>
  intro x w' hRw hd K9 hK
  simp only [All, GC] at hd
  obtain ⟨e1, e3, hO, _⟩ := hd
  simp +decide only [upd, GC, fillL, if_true, if_false] at hK ⊢
  obtain ⟨A6, c6, e6, _⟩ := own_byt hO.row
  rw [e6] at hO
  simp only [e6] at hK ⊢
  simp only [e1, e3] at hK ⊢
  go_simp
  have hK2 := hK _ _ ⟨hRw, Below.refl _ _, _, _, rfl, hO⟩
  exact hK2
 case s8 =>
  intro x w' hRw hd K9 hK
  simp only [All, GC] at hd
  obtain ⟨_⟩ := hd
  simp +decide only [upd, GC, fillL, if_true, if_false] at hK ⊢
  go_simp
  have hK2 := hK _ _ ⟨hRw.alloc hRw.size _, (Below.refl _ _).alloc (Nat.le_refl _) _, _, rfl, Blk.new w' 26 _, hRw.size⟩
  exact hK2
 case done =>
  intro x w3 hRw hG fr hfr
  have g7 := hG 7 (by omega)
  have g8 := hG 8 (by omega)
  simp only [GC] at g7 g8
  clear hG
  obtain ⟨AB, cB, e7, hO⟩ := g7
  obtain ⟨g, e8, hblk, hg⟩ := g8
  simp only [fillL] at hfr
  rw [e7, e8] at hfr
  subst hfr
  have hne := own_not hO hblk
  have hglt := hblk.lt
  have c0 := hblk.cell 0
  have c1 := hblk.cell 1
  have c2 := hblk.cell 2
  have c3 := hblk.cell 3
  have c4 := hblk.cell 4
  have q0 := hblk.frozen 0
  have q1 := hblk.frozen 1
  have q2 := hblk.frozen 2
  have q3 := hblk.frozen 3
  have q4 := hblk.frozen 4
  obtain ⟨W4, hW4⟩ : ∃ W, W = ((((w3.setCell ⟨g, 0, none⟩ (.int .i64 k)).setCell ⟨g, 1, none⟩ (.int .i64 n)).setCell ⟨g, 2, none⟩ (.slice AB b.length cB)).setCell ⟨g, 3, none⟩ (.slice none 0 0)).setCell ⟨g, 4, none⟩ (.slice none 0 0) := ⟨_, rfl⟩
  have hgr : w3.grownBy W4 (some g) := by
   rw [hW4]
   exact ((((set_grown _ _ _ _).trans (set_grown _ _ _ _)).trans (set_grown _ _ _ _)).trans (set_grown _ _ _ _)).trans (set_grown _ _ _ _)
  have hblk4 : Blk W4 g 26 #[.int .i64 k, .int .i64 n, .slice AB b.length cB, .slice none 0 0, .slice none 0 0] := by
   rw [hW4]; exact ((((hblk.set_ 0 _).set_ 1 _).set_ 2 _).set_ 3 _).set_ 4 _
  have z4 : W4.heap.size = w3.heap.size := by rw [hW4]; simp [World.setCell]
  have hO4 : Own W2.heap.size W4 (.slice AB b.length cB) b := own_grown hO hgr fun q hq e => by injection e with e; exact hne (by rw [hq, e])
  have hB4 : Below W2.heap.size W2 W4 := hRw.grown hgr (by omega) fun q hq => by injection hq with hq; omega
  have hL0 : CpL W2 W2.heap.size W4.heap.size g k n (.slice AB b.length cB) b W4 (.slice none 0 0) [] [] :=
   ⟨hblk4, hO4, fun q hq => ⟨fun e => hne (by rw [hq, e]), (hO4.row.lt q hq).2⟩, RowG.nil _ _ _ _ _, hB4, hg, by omega, Nat.le_refl _⟩
  obtain ⟨p0, p1, p2, p3, p4⟩ := five_kept f.out hB4
  clear hgr hblk4 hO4 hO hne hblk
  replace hRw := hi_ hRw
  replace hB4 := hi_ hB4
  replace hL0 := hi_ hL0
  go_upto_region 2 with (fail)
  rw [← hW4]
  clear c0 c1 c2 c3 c4 q0 q1 q2 q3 q4
  replace hW4 := hi_ hW4
  obtain ⟨HS, hHS⟩ : ∃ z, z = W4.heap.size := ⟨_, rfl⟩
  rw [← hHS] at hL0
  replace hHS := hi_ hHS
  go_wp2
  go_loopw [19] (fun s19 wr => ∃ (i : Nat) (vL : Value) (rl : List (List Value)), i ≤ m2 ∧ s19 = .int .i64 i ∧ CpL W2 W2.heap.size HS g k n (.slice AB b.length cB) b wr vL (l.take i) rl) (fun s19 _ => m2 - (RowKit.intOf s19).toNat)
  case atStart => exact ⟨0, _, _, by omega, rfl, hL0.out⟩
  case round =>
   obtain ⟨i, vL, rl, hi, rfl, hL⟩ := hrel
   by_cases him : i < m2
   ·have hil : i < l.length := by rw [← hm2.out]; exact him
    have hAe := hAL.out (by omega)
    subst hAe
    have hbw : Below w.heap.size w wr := bthen hb2.out hL.below
    obtain ⟨o, ho⟩ : ∃ o, o = l[i] := ⟨_, rfl⟩
    have hob := (hl.out i hil).kept hbw
    have hcv := hlv.out i hil
    rw [← ho] at hob
    have hzo : o.bulk ≤ N := by have := bulkL_at l i hil; rw [← ho] at this; omega
    obtain ⟨us0, hus0⟩ : ∃ us, us = vl i := ⟨_, rfl⟩
    rw [← hus0] at hob hcv
    obtain ⟨en, E1, E2, E3, en1, ec1, en2, ec2, en3, ec3, hys⟩ := ob_five2 hob
    obtain ⟨kk, hkk⟩ : ∃ k, k = o.kind := ⟨_, rfl⟩
    rw [← hkk] at hys
    subst hys
    have five : ∀ j u, [Value.int .i64 kk, .int .i64 en, .slice E1 en1 ec1, .slice E2 en2 ec2, .slice E3 en3 ec3][j]? = some u → wr.cell? ⟨gL, oL + i * 5 + j, none⟩ = some u := fun j u hj => by
     have h0 := hcv j (by have := (List.getElem?_eq_some_iff.1 hj).1; simpa using this)
     rw [hj] at h0
     have h1 := (hbw.cell (cell_lt h0)).trans h0
     rw [show oL + (5 * i + j) = oL + i * 5 + j by omega] at h1
     exact h1
    have x0 : wr.cell? ⟨gL, oL + i * 5, none⟩ = some (.int .i64 kk) := five 0 _ rfl
    have x1 : wr.cell? ⟨gL, oL + i * 5 + 1, none⟩ = some (.int .i64 en) := five 1 _ rfl
    have x2 : wr.cell? ⟨gL, oL + i * 5 + 2, none⟩ = some (.slice E1 en1 ec1) := five 2 _ rfl
    have x3 : wr.cell? ⟨gL, oL + i * 5 + 3, none⟩ = some (.slice E2 en2 ec2) := five 3 _ rfl
    have x4 : wr.cell? ⟨gL, oL + i * 5 + 4, none⟩ = some (.slice E3 en3 ec3) := five 4 _ rfl
    obtain ⟨W5, hW5⟩ : ∃ W, W = wr.alloc (.cells #[.int .i64 kk, .int .i64 en, .slice E1 en1 ec1, .slice E2 en2 ec2, .slice E3 en3 ec3] 26) := ⟨_, rfl⟩
    have hb5 : Below wr.heap.size wr W5 := by rw [hW5]; exact (Below.refl _ _).alloc (Nat.le_refl _) _
    have hL5 := hL.step hb5
    have c66 := fun W (hW : Below W5.heap.size W5 W) => ih.out o _ W (hob.kept (bthen hb5 hW)) hzo
    have hy5 := hi_ (five_cells hW5)
    replace c66 := hi_ c66
    have hT : l.take (i + 1) = l.take i ++ [o] := by rw [List.take_succ_eq_append_getElem hil, ho]
    have hzl : (l.take i).length ≤ 1000000000 := by rw [List.length_take]; omega
    have z5 : HS ≤ W5.heap.size := hL5.hs
    clear five hcv hob hus0
    replace hL := hi_ hL
    replace hL5 := hi_ hL5
    replace ho := hi_ ho
    replace hkk := hi_ hkk
    replace hT := hi_ hT
    replace hb5 := hi_ hb5
    replace hbw := hi_ hbw
    replace hzl := hi_ hzl
    go_upto_region 5 with (fail)
    rw [← hW5]
    replace hW5 := hi_ hW5
    clear x0 x1 x2 x3 x4
    refine wp_lin_tail (by kernel_rfl) [none, none, none, none, none, none, none, none, none, none, none, none, none, none, none, none, none, none, none, none, none, none, none, some 0, some 1, some 2, some 3, some 4, none, none, none, none, none, none, none, none, none, none, none, none, none, none, none, none, none, none, none, none, none, none, none] (fun w' => Below W5.heap.size W5 w') (fun w' w'' => Below w'.heap.size w' w'') (GL W5.heap.size g vL #[.int .i64 kk, .int .i64 en, .slice E1 en1 ec1, .slice E2 en2 ec2, .slice E3 en3 ec3] o) (by rfl) (by kernel_rfl) 5 _ rfl (by decide) (by kernel_rfl) [1, 5, 3, 4, 5, 0] (by kernel_rfl) ?ahR ?amono (.cons 4 (step_of [3] rfl (by kernel_rfl) ?a4) (.cons 3 (step_of [2] rfl (by kernel_rfl) ?a3) (.cons 2 (step_of [] rfl (by kernel_rfl) ?a2) (.cons 1 (step_of [0] rfl (by kernel_rfl) ?a1) (.cons 0 (step_of [] rfl (by kernel_rfl) ?a0) (.nil)))))) ?adone
    case ahR => exact (Below.refl _ _).drew
    case amono => exact GL_mono
    case a0 =>
     intro x w' hRw hd K9 hK
     simp only [All, GL] at hd
     obtain ⟨_⟩ := hd
     simp +decide only [upd, GL, fillL, if_true, if_false] at hK ⊢
     go_simp
     have hK2 := hK _ _ ⟨hRw, Below.refl _ _, rfl⟩
     exact hK2
    case a1 =>
     intro x w' hRw hd K9 hK
     simp only [All, GL] at hd
     obtain ⟨e0, _⟩ := hd
     simp +decide only [upd, GL, fillL, if_true, if_false] at hK ⊢
     have hcc := (hL5.out.step hRw).blk.cell 3
     simp only [e0] at hK ⊢
     go_simp
     have hK2 := hK _ _ ⟨hRw, Below.refl _ _, rfl⟩
     exact hK2
    case a2 =>
     intro x w' hRw hd K9 hK
     simp only [All, GL] at hd
     obtain ⟨_⟩ := hd
     simp +decide only [upd, GL, fillL, if_true, if_false] at hK ⊢
     obtain ⟨y0, y1, y2, y3, y4⟩ := five_kept hy5.out hRw
     go_simp
     have hK2 := hK _ _ ⟨hRw, Below.refl _ _, rfl⟩
     exact hK2
    case a3 =>
     intro x w' hRw hd K9 hK
     simp only [All, GL] at hd
     obtain ⟨e2, _⟩ := hd
     simp +decide only [upd, GL, fillL, if_true, if_false] at hK ⊢
     simp only [e2] at hK ⊢
     go_simp
     refine (c66.out w' hRw).mono ?_
     rintro e' w2 ⟨us, rfl, hI, hB9⟩
     have hI2 : ObI W5.heap.size w2.heap.size w2 o us := hI.wide hRw.size
     have hK2 := hK _ _ ⟨bthen hRw hB9, hB9, us, _, rfl, hI2⟩
     exact hK2
    case a4 =>
     intro x w' hRw hd K9 hK
     simp only [All, GL] at hd
     obtain ⟨⟨us, hi9, e3, hI⟩, _⟩ := hd
     simp +decide only [upd, GL, fillL, if_true, if_false] at hK ⊢
     obtain ⟨en', E1', E2', E3', en1', ec1', en2', ec2', en3', ec3', hys'⟩ := ob_five2 hI.ob
     rw [← hkk.out] at hys'
     subst hys'
     simp only [e3] at hK ⊢
     go_simp
     have hba : Below w'.heap.size w' (w'.alloc (.cells #[.int .i64 kk, .int .i64 en', .slice E1' en1' ec1', .slice E2' en2' ec2', .slice E3' en3' ec3'] 26)) := (Below.refl _ _).alloc (Nat.le_refl _) _
     have hK2 := hK _ _ ⟨bthen hRw hba, hba, _, _, _, rfl, obI_below hI hba, new_cells w' _ 26⟩
     exact hK2
    case adone =>
     intro x w4 hR2 hG fr hfr
     have e1 := hG 1 (by omega)
     have e4 := hG 4 (by omega)
     simp only [GL] at e1 e4
     clear hG
     obtain ⟨q, us, hi9, e4, hI, hcs⟩ := e4
     simp only [fillL] at hfr
     rw [e1, e4] at hfr
     have hL6 := hL5.out.step hR2
     have hz6 := hL6.hs
     subst hfr
     refine app_ob rfl _ _ rfl HS _ _ _ rfl hL6.row q W5.heap.size hi9 o us rfl hI z5 (fun q hq => .inl (hL5.out.row.row.lt q hq).2) hcs hzl.out hz6 ?_
     intro v' w5 hR3 hg3 hat3
     obtain ⟨A', n', cc', rfl⟩ : ∃ A' n' c', v' = .slice A' n' c' := by obtain ⟨A', cc', g', hv', _⟩ := hR3.out ob_law (by omega); exact ⟨_, _, _, hv'⟩
     obtain ⟨hbk3, hL8⟩ := hL6.put hR3 hg3
     have c3' := hbk3.cell 3
     have q3' := hbk3.frozen 3
     replace hL8 := hi_ hL8
     clear hR3 hg3 hat3 hbk3 hL6 hI hcs e1 e4 hz6 hR2
     go_wp2
     go_roundw
     case rel => exact ⟨i + 1, _, _, by omega, by go_num, by rw [hT.out]; exact hL8.out⟩
     case measure => simp [RowKit.intOf]; omega
   ·obtain rfl : i = m2 := by omega
    have hT : l.take i = l := by rw [hm2.out, List.take_length]
    rw [hT] at hL
    have hD0 := hL.toD
    obtain ⟨p0, p1, p2, p3, p4⟩ := five_kept f.out hL.below
    obtain ⟨HD, hHD⟩ : ∃ z, z = wr.heap.size := ⟨_, rfl⟩
    rw [← hHD] at hD0
    replace hHD := hi_ hHD
    replace hD0 := hi_ hD0
    replace hL := hi_ hL
    replace hT := hi_ hT
    go_wp2
    go_loopw [34] (fun s34 wr => ∃ (j : Nat) (vD : Value) (rd : List (List Value)), j ≤ m3 ∧ s34 = .int .i64 j ∧ CpD W2 W2.heap.size HS HD g k n (.slice AB b.length cB) b vL l rl wr vD (d.take j) rd) (fun s34 _ => m3 - (RowKit.intOf s34).toNat)
    case atStart => exact ⟨0, _, _, by omega, rfl, hD0.out⟩
    case round =>
    obtain ⟨j, vD, rd, hj, rfl, hD⟩ := hrel
    by_cases hjm : j < m3
    ·have hjl : j < d.length := by rw [← hm3.out]; exact hjm
     have hAe := hAD.out (by omega)
     subst hAe
     have hbw : Below w.heap.size w wr := bthen hb2.out hD.below
     obtain ⟨e, he⟩ : ∃ e, e = d[j] := ⟨_, rfl⟩
     have hob := (hdo.out j hjl).kept hbw
     have hky := hdk.out j hjl
     have hcv := hdv.out j hjl
     rw [← he] at hob hky
     have hzo : e.2.bulk ≤ N := by have := bulkD_at d j hjl; rw [← he] at this; omega
     obtain ⟨us0, hus0⟩ : ∃ us, us = vd j := ⟨_, rfl⟩
     rw [← hus0] at hob hcv
     obtain ⟨en, E1, E2, E3, en1, ec1, en2, ec2, en3, ec3, hys⟩ := ob_five2 hob
     obtain ⟨kk, hkk⟩ : ∃ k, k = e.2.kind := ⟨_, rfl⟩
     rw [← hkk] at hys
     subst hys
     obtain ⟨K, hK⟩ : ∃ K, K = bytes e.1 := ⟨_, rfl⟩
     have x0 : wr.cell? ⟨gD, oD + j * 6, none⟩ = some (.string K) := by
      have h1 := (hbw.cell (cell_lt hky.2)).trans hky.2
      rw [Nat.mul_comm] at h1
      rw [h1, hK]; rfl
     have five : ∀ q u, [Value.int .i64 kk, .int .i64 en, .slice E1 en1 ec1, .slice E2 en2 ec2, .slice E3 en3 ec3][q]? = some u → wr.cell? ⟨gD, oD + j * 6 + 1 + q, none⟩ = some u := fun q u hq => by
      have h0 := hcv q (by have := (List.getElem?_eq_some_iff.1 hq).1; simpa using this)
      rw [hq] at h0
      have h1 := (hbw.cell (cell_lt h0)).trans h0
      rw [show oD + (6 * j + 1 + q) = oD + j * 6 + 1 + q by omega] at h1
      exact h1
     have x1 : wr.cell? ⟨gD, oD + j * 6 + 1, none⟩ = some (.int .i64 kk) := five 0 _ rfl
     have x2 : wr.cell? ⟨gD, oD + j * 6 + 2, none⟩ = some (.int .i64 en) := five 1 _ rfl
     have x3 : wr.cell? ⟨gD, oD + j * 6 + 3, none⟩ = some (.slice E1 en1 ec1) := five 2 _ rfl
     have x4 : wr.cell? ⟨gD, oD + j * 6 + 4, none⟩ = some (.slice E2 en2 ec2) := five 3 _ rfl
     have x5 : wr.cell? ⟨gD, oD + j * 6 + 5, none⟩ = some (.slice E3 en3 ec3) := five 4 _ rfl
     obtain ⟨W5, hW5⟩ : ∃ W, W = wr.alloc (.cells #[.string K, .int .i64 kk, .int .i64 en, .slice E1 en1 ec1, .slice E2 en2 ec2, .slice E3 en3 ec3] 53) := ⟨_, rfl⟩
     have hb5 : Below wr.heap.size wr W5 := by rw [hW5]; exact (Below.refl _ _).alloc (Nat.le_refl _) _
     have hD5 := hD.step hb5
     have hy5 := hi_ (six_cells hW5)
     have c66 := fun W (hW : Below W5.heap.size W5 W) => ih.out e.2 _ W (hob.kept (bthen hb5 hW)) hzo
     have hT2 : d.take (j + 1) = d.take j ++ [e] := by rw [List.take_succ_eq_append_getElem hjl, he]
     have hzl : (d.take j).length ≤ 1000000000 := by rw [List.length_take]; omega
     have z5 : HD ≤ W5.heap.size := hD5.hs
     have hkm := hky.1
     clear five hcv hob hus0 hky
     replace c66 := hi_ c66
     replace hD := hi_ hD
     replace hD5 := hi_ hD5
     replace he := hi_ he
     replace hkk := hi_ hkk
     replace hK := hi_ hK
     replace hT2 := hi_ hT2
     replace hb5 := hi_ hb5
     replace hbw := hi_ hbw
     replace hzl := hi_ hzl
     replace hkm := hi_ hkm
     go_upto_region 10 with (fail)
     rw [← hW5]
     replace hW5 := hi_ hW5
     clear x0 x1 x2 x3 x4 x5
     refine wp_lin_tail (by kernel_rfl) [none, none, none, none, none, none, none, none, none, none, none, none, none, none, none, none, none, none, none, none, none, none, none, none, none, none, none, none, none, none, none, none, none, none, none, none, none, none, some 0, some 1, some 2, some 3, some 4, some 5, some 6, some 7, some 8, none, none, none, none] (fun w' => Below W5.heap.size W5 w') (fun w' w'' => Below w'.heap.size w' w'') (GE W5.heap.size g wr.heap.size vD K #[.int .i64 kk, .int .i64 en, .slice E1 en1 ec1, .slice E2 en2 ec2, .slice E3 en3 ec3] e) (by rfl) (by kernel_rfl) 9 _ rfl (by decide) (by kernel_rfl) [1, 9, 3, 7, 5, 6, 7, 8, 9, 0] (by kernel_rfl) ?dhR ?dmono (.cons 8 (step_of [7] rfl (by kernel_rfl) ?d8) (.cons 7 (step_of [3, 6] rfl (by kernel_rfl) ?d7) (.cons 6 (step_of [5] rfl (by kernel_rfl) ?d6) (.cons 5 (step_of [4] rfl (by kernel_rfl) ?d5) (.cons 4 (step_of [] rfl (by kernel_rfl) ?d4) (.cons 3 (step_of [2] rfl (by kernel_rfl) ?d3) (.cons 2 (step_of [] rfl (by kernel_rfl) ?d2) (.cons 1 (step_of [0] rfl (by kernel_rfl) ?d1) (.cons 0 (step_of [] rfl (by kernel_rfl) ?d0) (.nil)))))))))) ?ddone
     case dhR => exact (Below.refl _ _).drew
     case dmono => exact GE_mono
     case d0 =>
      intro x w' hRw hd K9 hK
      simp only [All, GE] at hd
      obtain ⟨_⟩ := hd
      simp +decide only [upd, GE, fillL, if_true, if_false] at hK ⊢
      go_simp
      have hK2 := hK _ _ ⟨hRw, Below.refl _ _, rfl⟩
      exact hK2
     case d1 =>
      intro x w' hRw hd K9 hK
      simp only [All, GE] at hd
      obtain ⟨e0, _⟩ := hd
      simp +decide only [upd, GE, fillL, if_true, if_false] at hK ⊢
      have hcc := (hD5.out.step hRw).blk.cell 4
      simp only [e0] at hK ⊢
      go_simp
      have hK2 := hK _ _ ⟨hRw, Below.refl _ _, rfl⟩
      exact hK2
     case d2 =>
      intro x w' hRw hd K9 hK
      simp only [All, GE] at hd
      obtain ⟨_⟩ := hd
      simp +decide only [upd, GE, fillL, if_true, if_false] at hK ⊢
      go_simp
      have hK2 := hK _ _ ⟨hRw, Below.refl _ _, rfl⟩
      exact hK2
     case d3 =>
      intro x w' hRw hd K9 hK
      simp only [All, GE] at hd
      obtain ⟨e2, _⟩ := hd
      simp +decide only [upd, GE, fillL, if_true, if_false] at hK ⊢
      obtain ⟨y0, y1, y2, y3, y4, y5⟩ := six_kept hy5.out hRw
      simp only [e2] at hK ⊢
      go_simp
      have hK2 := hK _ _ ⟨hRw, Below.refl _ _, rfl⟩
      exact hK2
     case d4 =>
      intro x w' hRw hd K9 hK
      simp only [All, GE] at hd
      obtain ⟨_⟩ := hd
      simp +decide only [upd, GE, fillL, if_true, if_false] at hK ⊢
      go_simp
      have hK2 := hK _ _ ⟨hRw, Below.refl _ _, rfl⟩
      exact hK2
     case d5 =>
      intro x w' hRw hd K9 hK
      simp only [All, GE] at hd
      obtain ⟨e4, _⟩ := hd
      simp +decide only [upd, GE, fillL, if_true, if_false] at hK ⊢
      obtain ⟨y0, y1, y2, y3, y4, y5⟩ := six_kept hy5.out hRw
      simp only [e4] at hK ⊢
      go_simp
      have hK2 := hK _ _ ⟨hRw, Below.refl _ _, rfl⟩
      exact hK2
     case d6 =>
      intro x w' hRw hd K9 hK
      simp only [All, GE] at hd
      obtain ⟨e5, _⟩ := hd
      simp +decide only [upd, GE, fillL, if_true, if_false] at hK ⊢
      simp only [e5] at hK ⊢
      go_simp
      refine (c66.out w' hRw).mono ?_
      rintro e' w2 ⟨us, rfl, hI, hB9⟩
      have hI2 : ObI W5.heap.size w2.heap.size w2 e.2 us := hI.wide hRw.size
      have hK2 := hK _ _ ⟨bthen hRw hB9, hB9, us, _, rfl, hI2⟩
      exact hK2
     case d7 =>
      intro x w' hRw hd K9 hK
      simp only [All, GE] at hd
      obtain ⟨e3, ⟨us, hi9, e6, hI⟩, _⟩ := hd
      simp +decide only [upd, GE, fillL, if_true, if_false] at hK ⊢
      obtain ⟨en', E1', E2', E3', en1', ec1', en2', ec2', en3', ec3', hys'⟩ := ob_five2 hI.ob
      rw [← hkk.out] at hys'
      subst hys'
      simp only [e3, e6] at hK ⊢
      go_simp
      have hK2 := hK _ _ ⟨hRw, Below.refl _ _, _, _, rfl, hI⟩
      exact hK2
     case d8 =>
      intro x w' hRw hd K9 hK
      simp only [All, GE] at hd
      obtain ⟨⟨us, hi9, e7, hI⟩, _⟩ := hd
      simp +decide only [upd, GE, fillL, if_true, if_false] at hK ⊢
      obtain ⟨en', E1', E2', E3', en1', ec1', en2', ec2', en3', ec3', hys'⟩ := ob_five2 hI.ob
      rw [← hkk.out] at hys'
      subst hys'
      simp only [e7] at hK ⊢
      go_simp
      have hba : Below w'.heap.size w' (w'.alloc (.cells #[.string K, .int .i64 kk, .int .i64 en', .slice E1' en1' ec1', .slice E2' en2' ec2', .slice E3' en3' ec3'] 53)) := (Below.refl _ _).alloc (Nat.le_refl _) _
      have hK2 := hK _ _ ⟨bthen hRw hba, hba, _, _, _, rfl, obI_below hI hba, new_cells w' _ 53⟩
      exact hK2
     case ddone =>
      intro x w4 hR2 hG fr hfr
      have e1 := hG 1 (by omega)
      have e8 := hG 8 (by omega)
      simp only [GE] at e1 e8
      clear hG
      obtain ⟨q, us, hi9, e8, hI, hcs⟩ := e8
      simp only [fillL] at hfr
      rw [e1, e8] at hfr
      have hL6 := hD5.out.step hR2
      have hz6 := hL6.hs
      have hE : EnI W5.heap.size hi9 w4 e (.string K :: us) := ⟨us, by rw [hK.out]; rfl, hkm.out, hI⟩
      subst hfr
      refine app_en rfl _ _ rfl HD _ _ _ rfl hL6.row q W5.heap.size hi9 e (.string K :: us) rfl hE z5 (fun q hq => .inl (hD5.out.row.row.lt q hq).2) hcs hzl.out hz6 ?_
      intro v' w5 hR3 hg3 hat3
      obtain ⟨A', n', cc', rfl⟩ : ∃ A' n' c', v' = .slice A' n' c' := by obtain ⟨A', cc', g', hv', _⟩ := hR3.out en_law (by omega); exact ⟨_, _, _, hv'⟩
      obtain ⟨hbk3, hL8⟩ := hL6.put hR3 hg3
      have c4' := hbk3.cell 4
      have q4' := hbk3.frozen 4
      replace hL8 := hi_ hL8
      clear hR3 hg3 hat3 hbk3 hL6 hI hcs e1 e8 hz6 hR2 hE
      go_wp2
      go_roundw
      case rel => exact ⟨j + 1, _, _, by omega, by go_num, by rw [hT2.out]; exact hL8.out⟩
      case measure => simp [RowKit.intOf]; omega
    ·obtain rfl : j = m3 := by omega
     have hT2 : d.take j = d := by rw [hm3.out, List.take_length]
     rw [hT2] at hD
     obtain ⟨A3, n3, c3, rfl⟩ : ∃ A' n' c', vL = .slice A' n' c' := by obtain ⟨A', cc', g', hv', _⟩ := (hD.rowL wr (fun _ _ _ => rfl) hD.hs).out ob_law (by omega); exact ⟨_, _, _, hv'⟩
     obtain ⟨A4, n4, c4, rfl⟩ : ∃ A' n' c', vD = .slice A' n' c' := by obtain ⟨A', cc', g', hv', _⟩ := hD.row.out en_law (by omega); exact ⟨_, _, _, hv'⟩
     have t0 := hD.blk.cell 0
     have t1 := hD.blk.cell 1
     have t2 := hD.blk.cell 2
     have t3 := hD.blk.cell 3
     have t4 := hD.blk.cell 4
     have hRb := hR2.out.below hD.below (by omega)
     have r0 := hRb.cell 0
     have r1 := hRb.cell 1
     have r2 := hRb.cell 2
     have r3 := hRb.cell 3
     have r4 := hRb.cell 4
     have v0 := hRb.frozen 0
     have v1 := hRb.frozen 1
     have v2 := hRb.frozen 2
     have v3 := hRb.frozen 3
     have v4 := hRb.frozen 4
     replace hD := hi_ hD
     replace hRb := hi_ hRb
     replace hT2 := hi_ hT2
     go_wp2
     obtain ⟨Wf, hWf⟩ : ∃ W, W = ((((wr.setCell ⟨w.heap.size + 1, 0, none⟩ (.int .i64 k)).setCell ⟨w.heap.size + 1, 1, none⟩ (.int .i64 n)).setCell ⟨w.heap.size + 1, 2, none⟩ (.slice AB b.length cB)).setCell ⟨w.heap.size + 1, 3, none⟩ (.slice A3 n3 c3)).setCell ⟨w.heap.size + 1, 4, none⟩ (.slice A4 n4 c4) := ⟨_, rfl⟩
     have hgf : wr.grownBy Wf (some (w.heap.size + 1)) := by
      rw [hWf]
      exact ((((set_grown _ _ _ _).trans (set_grown _ _ _ _)).trans (set_grown _ _ _ _)).trans (set_grown _ _ _ _)).trans (set_grown _ _ _ _)
     have hbf : Blk Wf (w.heap.size + 1) 26 #[.int .i64 k, .int .i64 n, .slice AB b.length cB, .slice A3 n3 c3, .slice A4 n4 c4] := by
      rw [hWf]; exact ((((hRb.out.set_ 0 _).set_ 1 _).set_ 2 _).set_ 3 _).set_ 4 _
     have z9 : Wf.heap.size = wr.heap.size := by rw [hWf]; simp [World.setCell]
     rw [← hWf]
     have hD := hD.out
     have g1 := hD.g1
     obtain ⟨e1, e2, e3, e4⟩ := hrng.out
     have hI := hD.done (B := W2.heap.size) e1 e2 e3 e4 (by omega) (Nat.le_refl _)
     have hI2 : ObI w.heap.size Wf.heap.size Wf (.mk k n b l d) [.int .i64 k, .int .i64 n, .slice AB b.length cB, .slice A3 n3 c3, .slice A4 n4 c4] := by
      rw [z9]
      exact (hI.keep (fun q h1 h2 => hgf.block q h2 (fun e => by injection e with e; omega)) (by omega)).wide (by omega)
     have hBf : Below w.heap.size w Wf := (bthen hb2.out hD.below).grown hgf (by have := hD.hs; have := hD.h1; have := hD.g2; omega) (fun q hq => by injection hq with hq; omega)
     have u0 := hbf.cell 0
     have u1 := hbf.cell 1
     have u2 := hbf.cell 2
     have u3 := hbf.cell 3
     have u4 := hbf.cell 4
     replace hI2 := hi_ hI2
     replace hBf := hi_ hBf
     clear hI hD hgf hbf
     replace hWf := hi_ hWf
     exact bodyPost_ret (by simp [results, Tryz.results66, go_sem, u0, u1, u2, u3, u4]; try rfl) rfl ⟨[.int .i64 k, .int .i64 n, .slice AB b.length cB, .slice A3 n3 c3, .slice A4 n4 c4], rfl, hI2.out, hBf.out⟩
theorem copy_all : ∀ N, N ≤ 1048576 → CopyC N
 | 0, _ => fun o vs w _ h => by have := bulk_pos o; omega
 | N + 1, h => copy_step N h (copy_all N (by omega))

/- Bytes copied one by one. No condition. -/
set_option maxHeartbeats 4000000 in
set_option maxRecDepth 100000 in
theorem rf_Copy (A : Option Addr) (c : Nat) (bs : List UInt8) (w : World) (hb : Byt w A bs) (hl : bs.length ≤ 1000000000) : Calls Tryz.prog 39 #[.slice A bs.length c] w (RO w bs) := by
 obtain ⟨m, hm⟩ : ∃ m, m = bs.length := ⟨_, rfl⟩
 rw [← hm] at hl ⊢
 replace hm := hi_ hm
 replace hb := hi_ hb
 go_enter Tryz.func39, Tryz.ntmps39
 go_wp2
 go_loopw [3, 4] (fun s3 s4 wr => ∃ k : Nat, k ≤ m ∧ s4 = .int .i64 k ∧ Own w.heap.size wr s3 (bs.take k) ∧ Below w.heap.size w wr) (fun _ s4 _ => m - (RowKit.intOf s4).toNat)
 case atStart => exact ⟨0, by omega, rfl, Own.nil _ _, Below.refl _ _⟩
 case round =>
  obtain ⟨k, hk, rfl, hO, hB⟩ := hrel
  have lB := hB.size
  by_cases hkm : k < m
  ·have hkl : k < bs.length := by rw [← hm.out]; exact hkm
   obtain ⟨b, o, rfl, hcell⟩ := hb.out.2 (by omega)
   obtain ⟨x, hx⟩ : ∃ x, x = bs[k] := ⟨_, rfl⟩
   have hcx : wr.cell? ⟨b, o + k, none⟩ = some (.int .u8 (x.toNat : Int)) := by
    rw [hx]; exact (hB.cell (cell_lt (hcell k hkl))).trans (hcell k hkl)
   have hT : bs.take (k + 1) = bs.take k ++ [x] := by rw [List.take_succ_eq_append_getElem hkl, hx]
   have hlen : (bs.take k).length ≤ 1000000000 := by rw [List.length_take]; omega
   have hO2 := hO.below ((Below.refl _ _).alloc (Nat.le_refl _) (.cells #[.int .u8 (x.toNat : Int)] 5))
   have hb1 := byt_new1 wr x 5
   have hB2 : Below w.heap.size w (wr.alloc (.cells #[.int .u8 (x.toNat : Int)] 5)) := hB.alloc lB _
   obtain ⟨xi, hxi⟩ : ∃ n : Int, n = (x.toNat : Int) := ⟨_, rfl⟩
   rw [← hxi] at hcx hO2 hb1 hB2
   replace hT := hi_ hT
   replace hlen := hi_ hlen
   replace hO2 := hi_ hO2
   replace hb1 := hi_ hb1
   replace hB2 := hi_ hB2
   replace hxi := hi_ hxi
   clear hcell hx hO hB
   go_wp2_with (at_builtin; refine app_b rfl _ _ rfl w.heap.size _ _ rfl hO2.out (some ⟨wr.heap.size, 0, none⟩) 1 1 [x] rfl rfl hb1.out (fun e => (by cases e)) (by have := hlen.out; simp only [List.length_cons, List.length_nil]; omega) (by rw [World.size_alloc]; omega) ?_; intro v' w2 hO3 hB3; replace hO3 := hi_ hO3; replace hB3 := hi_ hB3)
   go_roundw
   case rel => exact ⟨k + 1, by omega, by go_num, by rw [hT.out]; exact hO3.out, hB2.out.trans hB3.out⟩
   case measure => simp [RowKit.intOf]; omega
  ·obtain rfl : k = m := by omega
   have hT : bs.take k = bs := by rw [hm.out, List.take_length]
   rw [hT] at hO
   replace hO := hi_ hO
   replace hB := hi_ hB
   replace hT := hi_ hT
   go_wp2
   go_ret
   exact ⟨_, rfl, hO.out, hB.out⟩

/- An object copied, by the document. No condition. -/
def RCopyC (N : Nat) : Prop := ∀ (o : Ob) (vs : List Value) (w : World), ObAt w o vs → o.bulk ≤ N → Calls Tryz.prog 51 #[.agg vs.toArray] w fun e w' => ∃ us, e = .returned (.agg (List.toArray us)) ∧ ObI w.heap.size w'.heap.size w' o us ∧ Below w.heap.size w w'
def CpyE (w : World) (k n : Int) (b : List UInt8) (l : List Ob) (d : List (List UInt8 × Ob)) (e : Ending) (w' : World) : Prop := ∃ vB vL vD rl rd, e = .returned (.agg #[.int .i64 k, .int .i64 n, vB, vL, vD]) ∧ Own w.heap.size w' vB b ∧ RowG ObI 26 5 w.heap.size w' vL l rl ∧ RowG EnI 53 6 w.heap.size w' vD d rd ∧ Below w.heap.size w w'
def RCopyD (N : Nat) : Prop := ∀ (k n : Int) (b : List UInt8) (l : List Ob) (d : List (List UInt8 × Ob)) (vs : List Value) (w : World), ObAt w (.mk k n b l d) vs → (Ob.mk k n b l d).bulk ≤ N → Calls Tryz.prog 51 #[.agg vs.toArray] w (CpyE w k n b l d)
def GLr (W5s g p : Nat) (vL : Value) (gL oL m cL i : Nat) (ag : Array Value) (o : Ob) : Nat → Value → World → Prop := fun j v w => match j with
 | 0 => v = .pointer (some ⟨g, 3, none⟩)
 | 1 => v = vL
 | 2 => v = .pointer (some ⟨p, 3, none⟩)
 | 3 => v = .slice (some ⟨gL, oL, none⟩) m cL
 | 4 => v = .int .i64 (i : Int)
 | 5 => v = .pointer (some ⟨gL, oL + i * 5, none⟩)
 | 6 => v = .agg ag
 | 7 => ∃ us hi, v = .agg (List.toArray us) ∧ ObI W5s hi w o us
 | _ => ∃ q us hi, v = .slice (some ⟨q, 0, none⟩) 1 1 ∧ ObI W5s hi w o us ∧ ∀ j u, us[j]? = some u → w.cell? ⟨q, j, none⟩ = some u
theorem GLr_mono {W5s g p : Nat} {vL : Value} {gL oL m cL i : Nat} {ag : Array Value} {o : Ob} (j : Nat) (v : Value) (w w' : World) (hG : GLr W5s g p vL gL oL m cL i ag o j v w) (hk : Below w.heap.size w w') : GLr W5s g p vL gL oL m cL i ag o j v w' := by
 unfold GLr at hG ⊢
 split at hG <;> first
  | exact hG
  | (obtain ⟨us, hi, e, h⟩ := hG; exact ⟨us, hi, e, obI_below h hk⟩)
  | (obtain ⟨q, us, hi, e, h, hc⟩ := hG; exact ⟨q, us, hi, e, obI_below h hk, fun j u hu => (hk.cell (cell_lt (hc j u hu))).trans (hc j u hu)⟩)
def GEr (W5s g p : Nat) (vD : Value) (gD oD m cD i : Nat) (K : ByteArray) (ag : Array Value) (e : List UInt8 × Ob) : Nat → Value → World → Prop := fun j v w => match j with
 | 0 => v = .pointer (some ⟨g, 4, none⟩)
 | 1 => v = vD
 | 2 | 8 => v = .pointer (some ⟨p, 4, none⟩)
 | 3 | 9 => v = .slice (some ⟨gD, oD, none⟩) m cD
 | 4 | 10 => v = .int .i64 (i : Int)
 | 5 | 6 | 11 => v = .pointer (some ⟨gD, oD + i * 6, none⟩)
 | 7 => v = .string K
 | 12 => v = .pointer (some ⟨gD, oD + i * 6 + 1, none⟩)
 | 13 => v = .agg ag
 | 14 => ∃ us hi, v = .agg (List.toArray us) ∧ ObI W5s hi w e.2 us
 | 15 => ∃ us hi, v = .agg (List.toArray (.string K :: us)) ∧ ObI W5s hi w e.2 us
 | _ => ∃ q us hi, v = .slice (some ⟨q, 0, none⟩) 1 1 ∧ ObI W5s hi w e.2 us ∧ ∀ j u, (Value.string K :: us)[j]? = some u → w.cell? ⟨q, j, none⟩ = some u
theorem GEr_mono {W5s g p : Nat} {vD : Value} {gD oD m cD i : Nat} {K : ByteArray} {ag : Array Value} {e : List UInt8 × Ob} (j : Nat) (v : Value) (w w' : World) (hG : GEr W5s g p vD gD oD m cD i K ag e j v w) (hk : Below w.heap.size w w') : GEr W5s g p vD gD oD m cD i K ag e j v w' := by
 unfold GEr at hG ⊢
 split at hG <;> first
  | exact hG
  | (obtain ⟨us, hi, e, h⟩ := hG; exact ⟨us, hi, e, obI_below h hk⟩)
  | (obtain ⟨q, us, hi, e, h, hc⟩ := hG; exact ⟨q, us, hi, e, obI_below h hk, fun j u hu => (hk.cell (cell_lt (hc j u hu))).trans (hc j u hu)⟩)
set_option maxHeartbeats 8000000 in
set_option maxRecDepth 100000 in
theorem rcopy_stepD (N : Nat) (hN : N + 1 ≤ 100000000) (ih : RCopyC N) : RCopyD (N + 1) := by
 intro k n b l d vs w h hbk
 cases h with
 | mk k n b l d A AL AD c cL cD gL oL gD oD vl vd h1 h2 h3 h4 hB5 h6 h7 h8 h9 h10 h11 hAL hl hlv hAD hdo hdk hdv =>
 have zk : b.length + bulkL l + bulkD d + 1 ≤ N + 1 := hbk
 have zl := bulkL_len l
 have zd := bulkD_len d
 have zlk := fun i hi => bulkL_at l i hi
 have zdk := fun i hi => bulkD_at d i hi
 obtain ⟨m2, hm2⟩ : ∃ m, m = l.length := ⟨_, rfl⟩
 obtain ⟨m3, hm3⟩ : ∃ m, m = d.length := ⟨_, rfl⟩
 have zb1 : b.length ≤ 100000000 := by omega
 rw [← hm2] at zl ⊢
 rw [← hm3] at zd ⊢
 have zl1 : m2 ≤ 100000000 := by omega
 have zd1 : m3 ≤ 100000000 := by omega
 obtain ⟨W1, hW1⟩ : ∃ W, W = w.alloc (.cells #[.int .i64 k, .int .i64 n, .slice A b.length c, .slice AL m2 cL, .slice AD m3 cD] 26) := ⟨_, rfl⟩
 obtain ⟨W2, hW2⟩ : ∃ W, W = W1.alloc (.cells #[.int .i64 0, .int .i64 0, .slice none 0 0, .slice none 0 0, .slice none 0 0] 26) := ⟨_, rfl⟩
 have hb1 : Below w.heap.size w W1 := by rw [hW1]; exact (Below.refl _ _).alloc (Nat.le_refl _) _
 have z1 : W1.heap.size = w.heap.size + 1 := by rw [hW1, World.size_alloc]
 have hb2 : Below w.heap.size w W2 := by rw [hW2]; exact hb1.alloc (by omega) _
 have z2 : W2.heap.size = w.heap.size + 2 := by rw [hW2, World.size_alloc, z1]
 have f := five_kept (five_cells hW1) (W' := W2) (by rw [hW2]; exact (Below.refl _ _).alloc (Nat.le_refl _) _)
 have hR2 : Blk W2 (w.heap.size + 1) 26 #[.int .i64 0, .int .i64 0, .slice none 0 0, .slice none 0 0, .slice none 0 0] := by rw [hW2, ← z1]; exact Blk.new W1 26 _
 obtain ⟨f0, f1, f2, f3, f4⟩ := id f
 have e41 : 100000000 ≤ maxLen := by unfold maxLen; omega
 have hbb := hB5.below hb2
 replace hm2 := hi_ hm2
 replace hm3 := hi_ hm3
 replace hAL := hi_ hAL
 replace hl := hi_ hl
 replace hlv := hi_ hlv
 replace hAD := hi_ hAD
 replace hdo := hi_ hdo
 replace hdk := hi_ hdk
 replace hdv := hi_ hdv
 replace zlk := hi_ zlk
 replace zdk := hi_ zdk
 replace ih := hi_ ih
 replace hb1 := hi_ hb1
 replace hb2 := hi_ hb2
 replace f := hi_ f
 replace hR2 := hi_ hR2
 replace hbb := hi_ hbb
 have hrng := hi_ (And.intro h1 (And.intro h2 (And.intro h3 h4)))
 replace h7 := hi_ h7
 clear h1 h2 h3 h4 hB5 h6 h8 h9 h10 h11 hbk
 go_enter Tryz.func51, Tryz.ntmps51
 go_upto_region 1 with (fail)
 rw [← hW1, ← hW2]
 refine wp_lin_tail (by kernel_rfl) [none, none, none, some 8, none, none, some 0, some 1, some 2, some 3, some 4, some 5, some 6, some 7, none, none, none, none, none, none, none, none, none, none, none, none, none, none, none, none, none, none, none, none, none, none, none, none, none, none, none, none, none, none, none, none, none, none, none, none, none, none, none, none, none, none, none, none, none] (fun w' => Below W2.heap.size W2 w') (fun w' w'' => Below w'.heap.size w' w'') (GC w.heap.size W2.heap.size k n A c b) (by rfl) (by kernel_rfl) 9 _ rfl (by decide) (by kernel_rfl) [1, 7, 3, 7, 5, 6, 7, 9, 9, 0] (by kernel_rfl) ?hR ?mono (.cons 8 (step_of [] rfl (by kernel_rfl) ?s8) (.cons 7 (step_of [1, 3, 6] rfl (by kernel_rfl) ?s7) (.cons 6 (step_of [5] rfl (by kernel_rfl) ?s6) (.cons 5 (step_of [4] rfl (by kernel_rfl) ?s5) (.cons 4 (step_of [] rfl (by kernel_rfl) ?s4) (.cons 3 (step_of [2] rfl (by kernel_rfl) ?s3) (.cons 2 (step_of [] rfl (by kernel_rfl) ?s2) (.cons 1 (step_of [0] rfl (by kernel_rfl) ?s1) (.cons 0 (step_of [] rfl (by kernel_rfl) ?s0) (.nil)))))))))) ?done
 case hR => exact (Below.refl _ _).drew
 case mono => exact GC_mono
 case s0 =>
  intro x w' hRw hd K9 hK
  simp only [All, GC] at hd
  obtain ⟨_⟩ := hd
  simp +decide only [upd, GC, fillL, if_true, if_false] at hK ⊢
  go_simp
  have hK2 := hK _ _ ⟨hRw, Below.refl _ _, rfl⟩
  exact hK2
 case s1 =>
  intro x w' hRw hd K9 hK
  simp only [All, GC] at hd
  obtain ⟨e0, _⟩ := hd
  simp +decide only [upd, GC, fillL, if_true, if_false] at hK ⊢
  obtain ⟨y0, y1, y2, y3, y4⟩ := five_kept f.out hRw
  simp only [e0] at hK ⊢
  go_simp
  have hK2 := hK _ _ ⟨hRw, Below.refl _ _, rfl⟩
  exact hK2
 case s2 =>
  intro x w' hRw hd K9 hK
  simp only [All, GC] at hd
  obtain ⟨_⟩ := hd
  simp +decide only [upd, GC, fillL, if_true, if_false] at hK ⊢
  go_simp
  have hK2 := hK _ _ ⟨hRw, Below.refl _ _, rfl⟩
  exact hK2
 case s3 =>
  intro x w' hRw hd K9 hK
  simp only [All, GC] at hd
  obtain ⟨e2, _⟩ := hd
  simp +decide only [upd, GC, fillL, if_true, if_false] at hK ⊢
  obtain ⟨y0, y1, y2, y3, y4⟩ := five_kept f.out hRw
  simp only [e2] at hK ⊢
  go_simp
  have hK2 := hK _ _ ⟨hRw, Below.refl _ _, rfl⟩
  exact hK2
 case s4 =>
  intro x w' hRw hd K9 hK
  simp only [All, GC] at hd
  obtain ⟨_⟩ := hd
  simp +decide only [upd, GC, fillL, if_true, if_false] at hK ⊢
  go_simp
  have hK2 := hK _ _ ⟨hRw, Below.refl _ _, rfl⟩
  exact hK2
 case s5 =>
  intro x w' hRw hd K9 hK
  simp only [All, GC] at hd
  obtain ⟨e4, _⟩ := hd
  simp +decide only [upd, GC, fillL, if_true, if_false] at hK ⊢
  obtain ⟨y0, y1, y2, y3, y4⟩ := five_kept f.out hRw
  simp only [e4] at hK ⊢
  go_simp
  have hK2 := hK _ _ ⟨hRw, Below.refl _ _, rfl⟩
  exact hK2
 case s6 =>
  intro x w' hRw hd K9 hK
  simp only [All, GC] at hd
  obtain ⟨e5, _⟩ := hd
  simp +decide only [upd, GC, fillL, if_true, if_false] at hK ⊢
  simp only [e5] at hK ⊢
  go_simp
  refine (rf_Copy A c b w' (hbb.out.below hRw) (by omega)).mono ?_
  rintro e' w9 ⟨v9, rfl, hO9, hB9⟩
  have hK2 := hK _ _ ⟨bthen hRw hB9, hB9, hO9.base hRw.size⟩
  exact hK2
 case s7 =>
  intro x w' hRw hd K9 hK
  simp only [All, GC] at hd
  obtain ⟨e1, e3, hO, _⟩ := hd
  simp +decide only [upd, GC, fillL, if_true, if_false] at hK ⊢
  obtain ⟨A6, c6, e6, _⟩ := own_byt hO.row
  rw [e6] at hO
  simp only [e6] at hK ⊢
  simp only [e1, e3] at hK ⊢
  go_simp
  have hK2 := hK _ _ ⟨hRw, Below.refl _ _, _, _, rfl, hO⟩
  exact hK2
 case s8 =>
  intro x w' hRw hd K9 hK
  simp only [All, GC] at hd
  obtain ⟨_⟩ := hd
  simp +decide only [upd, GC, fillL, if_true, if_false] at hK ⊢
  go_simp
  have hK2 := hK _ _ ⟨hRw.alloc hRw.size _, (Below.refl _ _).alloc (Nat.le_refl _) _, _, rfl, Blk.new w' 26 _, hRw.size⟩
  exact hK2
 case done =>
  intro x w3 hRw hG fr hfr
  have g7 := hG 7 (by omega)
  have g8 := hG 8 (by omega)
  simp only [GC] at g7 g8
  clear hG
  obtain ⟨AB, cB, e7, hO⟩ := g7
  obtain ⟨g, e8, hblk, hg⟩ := g8
  simp only [fillL] at hfr
  rw [e7, e8] at hfr
  subst hfr
  have hne := own_not hO hblk
  have hglt := hblk.lt
  have c0 := hblk.cell 0
  have c1 := hblk.cell 1
  have c2 := hblk.cell 2
  have c3 := hblk.cell 3
  have c4 := hblk.cell 4
  have q0 := hblk.frozen 0
  have q1 := hblk.frozen 1
  have q2 := hblk.frozen 2
  have q3 := hblk.frozen 3
  have q4 := hblk.frozen 4
  obtain ⟨W4, hW4⟩ : ∃ W, W = ((((w3.setCell ⟨g, 0, none⟩ (.int .i64 k)).setCell ⟨g, 1, none⟩ (.int .i64 n)).setCell ⟨g, 2, none⟩ (.slice AB b.length cB)).setCell ⟨g, 3, none⟩ (.slice none 0 0)).setCell ⟨g, 4, none⟩ (.slice none 0 0) := ⟨_, rfl⟩
  have hgr : w3.grownBy W4 (some g) := by
   rw [hW4]
   exact ((((set_grown _ _ _ _).trans (set_grown _ _ _ _)).trans (set_grown _ _ _ _)).trans (set_grown _ _ _ _)).trans (set_grown _ _ _ _)
  have hblk4 : Blk W4 g 26 #[.int .i64 k, .int .i64 n, .slice AB b.length cB, .slice none 0 0, .slice none 0 0] := by
   rw [hW4]; exact ((((hblk.set_ 0 _).set_ 1 _).set_ 2 _).set_ 3 _).set_ 4 _
  have z4 : W4.heap.size = w3.heap.size := by rw [hW4]; simp [World.setCell]
  have hO4 : Own W2.heap.size W4 (.slice AB b.length cB) b := own_grown hO hgr fun q hq e => by injection e with e; exact hne (by rw [hq, e])
  have hB4 : Below W2.heap.size W2 W4 := hRw.grown hgr (by omega) fun q hq => by injection hq with hq; omega
  have hL0 : CpL W2 W2.heap.size W4.heap.size g k n (.slice AB b.length cB) b W4 (.slice none 0 0) [] [] :=
   ⟨hblk4, hO4, fun q hq => ⟨fun e => hne (by rw [hq, e]), (hO4.row.lt q hq).2⟩, RowG.nil _ _ _ _ _, hB4, hg, by omega, Nat.le_refl _⟩
  obtain ⟨p0, p1, p2, p3, p4⟩ := five_kept f.out hB4
  clear hgr hblk4 hO4 hO hne hblk
  replace hRw := hi_ hRw
  replace hB4 := hi_ hB4
  replace hL0 := hi_ hL0
  go_upto_region 2 with (fail)
  rw [← hW4]
  clear c0 c1 c2 c3 c4 q0 q1 q2 q3 q4
  replace hW4 := hi_ hW4
  obtain ⟨HS, hHS⟩ : ∃ z, z = W4.heap.size := ⟨_, rfl⟩
  rw [← hHS] at hL0
  replace hHS := hi_ hHS
  go_wp2
  go_loopw [4] (fun s4 wr => ∃ (i : Nat) (vL : Value) (rl : List (List Value)), i ≤ m2 ∧ s4 = .int .i64 i ∧ CpL W2 W2.heap.size HS g k n (.slice AB b.length cB) b wr vL (l.take i) rl) (fun s4 _ => m2 - (RowKit.intOf s4).toNat)
  case atStart => exact ⟨0, _, _, by omega, rfl, hL0.out⟩
  case round =>
   obtain ⟨i, vL, rl, hi, rfl, hL⟩ := hrel
   obtain ⟨k0, k1, k2, k3, k4⟩ := five_kept f.out hL.below
   by_cases him : i < m2
   ·have hil : i < l.length := by rw [← hm2.out]; exact him
    have hAe := hAL.out (by omega)
    subst hAe
    have hbw : Below w.heap.size w wr := bthen hb2.out hL.below
    obtain ⟨o, ho⟩ : ∃ o, o = l[i] := ⟨_, rfl⟩
    have hob := (hl.out i hil).kept hbw
    have hcv := hlv.out i hil
    rw [← ho] at hob
    have hzo : o.bulk ≤ N := by have := bulkL_at l i hil; rw [← ho] at this; omega
    obtain ⟨us0, hus0⟩ : ∃ us, us = vl i := ⟨_, rfl⟩
    rw [← hus0] at hob hcv
    obtain ⟨en, E1, E2, E3, en1, ec1, en2, ec2, en3, ec3, hys⟩ := ob_five2 hob
    obtain ⟨kk, hkk⟩ : ∃ k, k = o.kind := ⟨_, rfl⟩
    rw [← hkk] at hys
    subst hys
    have five : ∀ j u, [Value.int .i64 kk, .int .i64 en, .slice E1 en1 ec1, .slice E2 en2 ec2, .slice E3 en3 ec3][j]? = some u → wr.cell? ⟨gL, oL + i * 5 + j, none⟩ = some u := fun j u hj => by
     have h0 := hcv j (by have := (List.getElem?_eq_some_iff.1 hj).1; simpa using this)
     rw [hj] at h0
     have h1 := (hbw.cell (cell_lt h0)).trans h0
     rw [show oL + (5 * i + j) = oL + i * 5 + j by omega] at h1
     exact h1
    have x0 : wr.cell? ⟨gL, oL + i * 5, none⟩ = some (.int .i64 kk) := five 0 _ rfl
    have x1 : wr.cell? ⟨gL, oL + i * 5 + 1, none⟩ = some (.int .i64 en) := five 1 _ rfl
    have x2 : wr.cell? ⟨gL, oL + i * 5 + 2, none⟩ = some (.slice E1 en1 ec1) := five 2 _ rfl
    have x3 : wr.cell? ⟨gL, oL + i * 5 + 3, none⟩ = some (.slice E2 en2 ec2) := five 3 _ rfl
    have x4 : wr.cell? ⟨gL, oL + i * 5 + 4, none⟩ = some (.slice E3 en3 ec3) := five 4 _ rfl
    have c51 := fun W (hW : Below wr.heap.size wr W) => ih.out o _ W (hob.kept hW) hzo
    have hT : l.take (i + 1) = l.take i ++ [o] := by rw [List.take_succ_eq_append_getElem hil, ho]
    have hzl : (l.take i).length ≤ 1000000000 := by rw [List.length_take]; omega
    have z5 : HS ≤ wr.heap.size := hL.hs
    have xx := fun W (hW : Below wr.heap.size wr W) => And.intro ((hW.cell (cell_lt x0)).trans x0) (And.intro ((hW.cell (cell_lt x1)).trans x1) (And.intro ((hW.cell (cell_lt x2)).trans x2) (And.intro ((hW.cell (cell_lt x3)).trans x3) ((hW.cell (cell_lt x4)).trans x4))))
    clear five hcv hob hus0 x0 x1 x2 x3 x4
    replace c51 := hi_ c51
    replace xx := hi_ xx
    replace hL := hi_ hL
    replace ho := hi_ ho
    replace hkk := hi_ hkk
    replace hT := hi_ hT
    replace hbw := hi_ hbw
    replace hzl := hi_ hzl
    go_upto_region 5 with (fail)
    refine wp_lin_tail (by kernel_rfl) [none, none, none, none, none, none, none, none, none, none, none, none, none, none, none, none, none, none, none, none, none, some 0, some 1, some 2, some 3, some 4, some 5, some 6, some 7, some 8, none, none, none, none, none, none, none, none, none, none, none, none, none, none, none, none, none, none, none, none, none, none, none, none, none, none, none, none, none] (fun w' => Below wr.heap.size wr w') (fun w' w'' => Below w'.heap.size w' w'') (GLr wr.heap.size g w.heap.size vL gL oL m2 cL i #[.int .i64 kk, .int .i64 en, .slice E1 en1 ec1, .slice E2 en2 ec2, .slice E3 en3 ec3] o) (by rfl) (by kernel_rfl) 9 _ rfl (by decide) (by kernel_rfl) [1, 9, 3, 5, 5, 6, 7, 8, 9, 0] (by kernel_rfl) ?ahR ?amono (.cons 8 (step_of [7] rfl (by kernel_rfl) ?a8) (.cons 7 (step_of [6] rfl (by kernel_rfl) ?a7) (.cons 6 (step_of [5] rfl (by kernel_rfl) ?a6) (.cons 5 (step_of [3, 4] rfl (by kernel_rfl) ?a5) (.cons 4 (step_of [] rfl (by kernel_rfl) ?a4) (.cons 3 (step_of [2] rfl (by kernel_rfl) ?a3) (.cons 2 (step_of [] rfl (by kernel_rfl) ?a2) (.cons 1 (step_of [0] rfl (by kernel_rfl) ?a1) (.cons 0 (step_of [] rfl (by kernel_rfl) ?a0) (.nil)))))))))) ?adone
    case ahR => exact (Below.refl _ _).drew
    case amono => exact GLr_mono
    case a0 =>
     intro x w' hRw hd K9 hK
     simp only [All, GLr] at hd
     obtain ⟨_⟩ := hd
     simp +decide only [upd, GLr, fillL, if_true, if_false] at hK ⊢
     go_simp
     have hK2 := hK _ _ ⟨hRw, Below.refl _ _, rfl⟩
     exact hK2
    case a1 =>
     intro x w' hRw hd K9 hK
     simp only [All, GLr] at hd
     obtain ⟨e0, _⟩ := hd
     simp +decide only [upd, GLr, fillL, if_true, if_false] at hK ⊢
     have hcc := (hL.out.step hRw).blk.cell 3
     simp only [e0] at hK ⊢
     go_simp
     have hK2 := hK _ _ ⟨hRw, Below.refl _ _, rfl⟩
     exact hK2
    case a2 =>
     intro x w' hRw hd K9 hK
     simp only [All, GLr] at hd
     obtain ⟨_⟩ := hd
     simp +decide only [upd, GLr, fillL, if_true, if_false] at hK ⊢
     go_simp
     have hK2 := hK _ _ ⟨hRw, Below.refl _ _, rfl⟩
     exact hK2
    case a3 =>
     intro x w' hRw hd K9 hK
     simp only [All, GLr] at hd
     obtain ⟨e2, _⟩ := hd
     simp +decide only [upd, GLr, fillL, if_true, if_false] at hK ⊢
     obtain ⟨y0, y1, y2, y3, y4⟩ := five_kept f.out (hL.out.step hRw).below
     simp only [e2] at hK ⊢
     go_simp
     have hK2 := hK _ _ ⟨hRw, Below.refl _ _, rfl⟩
     exact hK2
    case a4 =>
     intro x w' hRw hd K9 hK
     simp only [All, GLr] at hd
     obtain ⟨_⟩ := hd
     simp +decide only [upd, GLr, fillL, if_true, if_false] at hK ⊢
     go_simp
     have hK2 := hK _ _ ⟨hRw, Below.refl _ _, rfl⟩
     exact hK2
    case a5 =>
     intro x w' hRw hd K9 hK
     simp only [All, GLr] at hd
     obtain ⟨e3, e4, _⟩ := hd
     simp +decide only [upd, GLr, fillL, if_true, if_false] at hK ⊢
     simp only [e3, e4] at hK ⊢
     go_simp
     have hK2 := hK _ _ ⟨hRw, Below.refl _ _, rfl⟩
     exact hK2
    case a6 =>
     intro x w' hRw hd K9 hK
     simp only [All, GLr] at hd
     obtain ⟨e5, _⟩ := hd
     simp +decide only [upd, GLr, fillL, if_true, if_false] at hK ⊢
     obtain ⟨y0, y1, y2, y3, y4⟩ := xx.out w' hRw
     simp only [e5] at hK ⊢
     go_simp
     have hK2 := hK _ _ ⟨hRw, Below.refl _ _, rfl⟩
     exact hK2
    case a7 =>
     intro x w' hRw hd K9 hK
     simp only [All, GLr] at hd
     obtain ⟨e6, _⟩ := hd
     simp +decide only [upd, GLr, fillL, if_true, if_false] at hK ⊢
     simp only [e6] at hK ⊢
     go_simp
     refine (c51.out w' hRw).mono ?_
     rintro e' w2 ⟨us, rfl, hI, hB9⟩
     have hI2 : ObI wr.heap.size w2.heap.size w2 o us := hI.wide hRw.size
     have hK2 := hK _ _ ⟨bthen hRw hB9, hB9, us, _, rfl, hI2⟩
     exact hK2
    case a8 =>
     intro x w' hRw hd K9 hK
     simp only [All, GLr] at hd
     obtain ⟨⟨us, hi9, e7, hI⟩, _⟩ := hd
     simp +decide only [upd, GLr, fillL, if_true, if_false] at hK ⊢
     obtain ⟨en', E1', E2', E3', en1', ec1', en2', ec2', en3', ec3', hys'⟩ := ob_five2 hI.ob
     rw [← hkk.out] at hys'
     subst hys'
     simp only [e7] at hK ⊢
     go_simp
     have hba : Below w'.heap.size w' (w'.alloc (.cells #[.int .i64 kk, .int .i64 en', .slice E1' en1' ec1', .slice E2' en2' ec2', .slice E3' en3' ec3'] 26)) := (Below.refl _ _).alloc (Nat.le_refl _) _
     have hK2 := hK _ _ ⟨bthen hRw hba, hba, _, _, _, rfl, obI_below hI hba, new_cells w' _ 26⟩
     exact hK2
    case adone =>
     intro x w4 hR2 hG fr hfr
     have e1 := hG 1 (by omega)
     have e4 := hG 8 (by omega)
     simp only [GLr] at e1 e4
     clear hG
     obtain ⟨q, us, hi9, e4, hI, hcs⟩ := e4
     simp only [fillL] at hfr
     rw [e1, e4] at hfr
     have hL6 := hL.out.step hR2
     have hz6 := hL6.hs
     subst hfr
     refine app_ob rfl _ _ rfl HS _ _ _ rfl hL6.row q wr.heap.size hi9 o us rfl hI z5 (fun q hq => .inl (hL.out.row.row.lt q hq).2) hcs hzl.out hz6 ?_
     intro v' w5 hR3 hg3 hat3
     obtain ⟨A', n', cc', rfl⟩ : ∃ A' n' c', v' = .slice A' n' c' := by obtain ⟨A', cc', g', hv', _⟩ := hR3.out ob_law (by omega); exact ⟨_, _, _, hv'⟩
     obtain ⟨hbk3, hL8⟩ := hL6.put hR3 hg3
     have c3' := hbk3.cell 3
     have q3' := hbk3.frozen 3
     replace hL8 := hi_ hL8
     clear hR3 hg3 hat3 hbk3 hL6 hI hcs e1 e4 hz6 hR2
     go_wp2
     go_roundw
     case rel => exact ⟨i + 1, _, _, by omega, by go_num, by rw [hT.out]; exact hL8.out⟩
     case measure => simp [RowKit.intOf]; omega
   ·obtain rfl : i = m2 := by omega
    have hT : l.take i = l := by rw [hm2.out, List.take_length]
    rw [hT] at hL
    have hD0 := hL.toD
    obtain ⟨p0, p1, p2, p3, p4⟩ := five_kept f.out hL.below
    obtain ⟨HD, hHD⟩ : ∃ z, z = wr.heap.size := ⟨_, rfl⟩
    rw [← hHD] at hD0
    replace hHD := hi_ hHD
    replace hD0 := hi_ hD0
    replace hL := hi_ hL
    replace hT := hi_ hT
    go_wp2
    go_loopw [5] (fun s5 wr => ∃ (j : Nat) (vD : Value) (rd : List (List Value)), j ≤ m3 ∧ s5 = .int .i64 j ∧ CpD W2 W2.heap.size HS HD g k n (.slice AB b.length cB) b vL l rl wr vD (d.take j) rd) (fun s5 _ => m3 - (RowKit.intOf s5).toNat)
    case atStart => exact ⟨0, _, _, by omega, rfl, hD0.out⟩
    case round =>
    obtain ⟨j, vD, rd, hj, rfl, hD⟩ := hrel
    obtain ⟨k0', k1', k2', k3', k4'⟩ := five_kept f.out hD.below
    by_cases hjm : j < m3
    ·have hjl : j < d.length := by rw [← hm3.out]; exact hjm
     have hAe := hAD.out (by omega)
     subst hAe
     have hbw : Below w.heap.size w wr := bthen hb2.out hD.below
     obtain ⟨e, he⟩ : ∃ e, e = d[j] := ⟨_, rfl⟩
     have hob := (hdo.out j hjl).kept hbw
     have hky := hdk.out j hjl
     have hcv := hdv.out j hjl
     rw [← he] at hob hky
     have hzo : e.2.bulk ≤ N := by have := bulkD_at d j hjl; rw [← he] at this; omega
     obtain ⟨us0, hus0⟩ : ∃ us, us = vd j := ⟨_, rfl⟩
     rw [← hus0] at hob hcv
     obtain ⟨en, E1, E2, E3, en1, ec1, en2, ec2, en3, ec3, hys⟩ := ob_five2 hob
     obtain ⟨kk, hkk⟩ : ∃ k, k = e.2.kind := ⟨_, rfl⟩
     rw [← hkk] at hys
     subst hys
     obtain ⟨K, hK⟩ : ∃ K, K = bytes e.1 := ⟨_, rfl⟩
     have x0 : wr.cell? ⟨gD, oD + j * 6, none⟩ = some (.string K) := by
      have h1 := (hbw.cell (cell_lt hky.2)).trans hky.2
      rw [Nat.mul_comm] at h1
      rw [h1, hK]; rfl
     have five : ∀ q u, [Value.int .i64 kk, .int .i64 en, .slice E1 en1 ec1, .slice E2 en2 ec2, .slice E3 en3 ec3][q]? = some u → wr.cell? ⟨gD, oD + j * 6 + 1 + q, none⟩ = some u := fun q u hq => by
      have h0 := hcv q (by have := (List.getElem?_eq_some_iff.1 hq).1; simpa using this)
      rw [hq] at h0
      have h1 := (hbw.cell (cell_lt h0)).trans h0
      rw [show oD + (6 * j + 1 + q) = oD + j * 6 + 1 + q by omega] at h1
      exact h1
     have x1 : wr.cell? ⟨gD, oD + j * 6 + 1, none⟩ = some (.int .i64 kk) := five 0 _ rfl
     have x2 : wr.cell? ⟨gD, oD + j * 6 + 2, none⟩ = some (.int .i64 en) := five 1 _ rfl
     have x3 : wr.cell? ⟨gD, oD + j * 6 + 3, none⟩ = some (.slice E1 en1 ec1) := five 2 _ rfl
     have x4 : wr.cell? ⟨gD, oD + j * 6 + 4, none⟩ = some (.slice E2 en2 ec2) := five 3 _ rfl
     have x5 : wr.cell? ⟨gD, oD + j * 6 + 5, none⟩ = some (.slice E3 en3 ec3) := five 4 _ rfl
     have c51 := fun W (hW : Below wr.heap.size wr W) => ih.out e.2 _ W (hob.kept hW) hzo
     have hT2 : d.take (j + 1) = d.take j ++ [e] := by rw [List.take_succ_eq_append_getElem hjl, he]
     have hzl : (d.take j).length ≤ 1000000000 := by rw [List.length_take]; omega
     have z5 : HD ≤ wr.heap.size := hD.hs
     have hkm := hky.1
     have xx := fun W (hW : Below wr.heap.size wr W) => And.intro ((hW.cell (cell_lt x0)).trans x0) (And.intro ((hW.cell (cell_lt x1)).trans x1) (And.intro ((hW.cell (cell_lt x2)).trans x2) (And.intro ((hW.cell (cell_lt x3)).trans x3) (And.intro ((hW.cell (cell_lt x4)).trans x4) ((hW.cell (cell_lt x5)).trans x5)))))
     clear five hcv hob hus0 hky x0 x1 x2 x3 x4 x5
     replace c51 := hi_ c51
     replace xx := hi_ xx
     replace hD := hi_ hD
     replace he := hi_ he
     replace hkk := hi_ hkk
     replace hK := hi_ hK
     replace hT2 := hi_ hT2
     replace hbw := hi_ hbw
     replace hzl := hi_ hzl
     replace hkm := hi_ hkm
     go_upto_region 9 with (fail)
     refine wp_lin_tail (by kernel_rfl) [none, none, none, none, none, none, none, none, none, none, none, none, none, none, none, none, none, none, none, none, none, none, none, none, none, none, none, none, none, none, none, none, none, none, none, none, none, none, none, some 0, some 1, some 2, some 3, some 4, some 5, some 6, some 7, some 8, some 9, some 10, some 11, some 12, some 13, some 14, some 15, some 16, none, none, none] (fun w' => Below wr.heap.size wr w') (fun w' w'' => Below w'.heap.size w' w'') (GEr wr.heap.size g w.heap.size vD gD oD m3 cD j K #[.int .i64 kk, .int .i64 en, .slice E1 en1 ec1, .slice E2 en2 ec2, .slice E3 en3 ec3] e) (by rfl) (by kernel_rfl) 17 _ rfl (by decide) (by kernel_rfl) [1, 17, 3, 5, 5, 6, 7, 15, 9, 11, 11, 12, 13, 14, 15, 16, 17, 0] (by kernel_rfl) ?dhR ?dmono (.cons 16 (step_of [15] rfl (by kernel_rfl) ?d16) (.cons 15 (step_of [7, 14] rfl (by kernel_rfl) ?d15) (.cons 14 (step_of [13] rfl (by kernel_rfl) ?d14) (.cons 13 (step_of [12] rfl (by kernel_rfl) ?d13) (.cons 12 (step_of [11] rfl (by kernel_rfl) ?d12) (.cons 11 (step_of [9, 10] rfl (by kernel_rfl) ?d11) (.cons 10 (step_of [] rfl (by kernel_rfl) ?d10) (.cons 9 (step_of [8] rfl (by kernel_rfl) ?d9) (.cons 8 (step_of [] rfl (by kernel_rfl) ?d8) (.cons 7 (step_of [6] rfl (by kernel_rfl) ?d7) (.cons 6 (step_of [5] rfl (by kernel_rfl) ?d6) (.cons 5 (step_of [3, 4] rfl (by kernel_rfl) ?d5) (.cons 4 (step_of [] rfl (by kernel_rfl) ?d4) (.cons 3 (step_of [2] rfl (by kernel_rfl) ?d3) (.cons 2 (step_of [] rfl (by kernel_rfl) ?d2) (.cons 1 (step_of [0] rfl (by kernel_rfl) ?d1) (.cons 0 (step_of [] rfl (by kernel_rfl) ?d0) (.nil)))))))))))))))))) ?ddone
     case dhR => exact (Below.refl _ _).drew
     case dmono => exact GEr_mono
     case d0 =>
      intro x w' hRw hd K9 hK
      simp only [All, GEr] at hd
      obtain ⟨_⟩ := hd
      simp +decide only [upd, GEr, fillL, if_true, if_false] at hK ⊢
      go_simp
      have hK2 := hK _ _ ⟨hRw, Below.refl _ _, rfl⟩
      exact hK2
     case d1 =>
      intro x w' hRw hd K9 hK
      simp only [All, GEr] at hd
      obtain ⟨e0, _⟩ := hd
      simp +decide only [upd, GEr, fillL, if_true, if_false] at hK ⊢
      have hcc := (hD.out.step hRw).blk.cell 4
      simp only [e0] at hK ⊢
      go_simp
      have hK2 := hK _ _ ⟨hRw, Below.refl _ _, rfl⟩
      exact hK2
     case d2 =>
      intro x w' hRw hd K9 hK
      simp only [All, GEr] at hd
      obtain ⟨_⟩ := hd
      simp +decide only [upd, GEr, fillL, if_true, if_false] at hK ⊢
      go_simp
      have hK2 := hK _ _ ⟨hRw, Below.refl _ _, rfl⟩
      exact hK2
     case d3 =>
      intro x w' hRw hd K9 hK
      simp only [All, GEr] at hd
      obtain ⟨e2, _⟩ := hd
      simp +decide only [upd, GEr, fillL, if_true, if_false] at hK ⊢
      obtain ⟨y0, y1, y2, y3, y4⟩ := five_kept f.out (hD.out.step hRw).below
      simp only [e2] at hK ⊢
      go_simp
      have hK2 := hK _ _ ⟨hRw, Below.refl _ _, rfl⟩
      exact hK2
     case d4 =>
      intro x w' hRw hd K9 hK
      simp only [All, GEr] at hd
      obtain ⟨_⟩ := hd
      simp +decide only [upd, GEr, fillL, if_true, if_false] at hK ⊢
      go_simp
      have hK2 := hK _ _ ⟨hRw, Below.refl _ _, rfl⟩
      exact hK2
     case d5 =>
      intro x w' hRw hd K9 hK
      simp only [All, GEr] at hd
      obtain ⟨e3, e4, _⟩ := hd
      simp +decide only [upd, GEr, fillL, if_true, if_false] at hK ⊢
      simp only [e3, e4] at hK ⊢
      go_simp
      have hK2 := hK _ _ ⟨hRw, Below.refl _ _, rfl⟩
      exact hK2
     case d6 =>
      intro x w' hRw hd K9 hK
      simp only [All, GEr] at hd
      obtain ⟨e5, _⟩ := hd
      simp +decide only [upd, GEr, fillL, if_true, if_false] at hK ⊢
      simp only [e5] at hK ⊢
      go_simp
      have hK2 := hK _ _ ⟨hRw, Below.refl _ _, rfl⟩
      exact hK2
     case d7 =>
      intro x w' hRw hd K9 hK
      simp only [All, GEr] at hd
      obtain ⟨e6, _⟩ := hd
      simp +decide only [upd, GEr, fillL, if_true, if_false] at hK ⊢
      obtain ⟨y0, y1, y2, y3, y4, y5⟩ := xx.out w' hRw
      simp only [e6] at hK ⊢
      go_simp
      have hK2 := hK _ _ ⟨hRw, Below.refl _ _, rfl⟩
      exact hK2
     case d8 =>
      intro x w' hRw hd K9 hK
      simp only [All, GEr] at hd
      obtain ⟨_⟩ := hd
      simp +decide only [upd, GEr, fillL, if_true, if_false] at hK ⊢
      go_simp
      have hK2 := hK _ _ ⟨hRw, Below.refl _ _, rfl⟩
      exact hK2
     case d9 =>
      intro x w' hRw hd K9 hK
      simp only [All, GEr] at hd
      obtain ⟨e8, _⟩ := hd
      simp +decide only [upd, GEr, fillL, if_true, if_false] at hK ⊢
      obtain ⟨y0, y1, y2, y3, y4⟩ := five_kept f.out (hD.out.step hRw).below
      simp only [e8] at hK ⊢
      go_simp
      have hK2 := hK _ _ ⟨hRw, Below.refl _ _, rfl⟩
      exact hK2
     case d10 =>
      intro x w' hRw hd K9 hK
      simp only [All, GEr] at hd
      obtain ⟨_⟩ := hd
      simp +decide only [upd, GEr, fillL, if_true, if_false] at hK ⊢
      go_simp
      have hK2 := hK _ _ ⟨hRw, Below.refl _ _, rfl⟩
      exact hK2
     case d11 =>
      intro x w' hRw hd K9 hK
      simp only [All, GEr] at hd
      obtain ⟨e9, e10, _⟩ := hd
      simp +decide only [upd, GEr, fillL, if_true, if_false] at hK ⊢
      simp only [e9, e10] at hK ⊢
      go_simp
      have hK2 := hK _ _ ⟨hRw, Below.refl _ _, rfl⟩
      exact hK2
     case d12 =>
      intro x w' hRw hd K9 hK
      simp only [All, GEr] at hd
      obtain ⟨e11, _⟩ := hd
      simp +decide only [upd, GEr, fillL, if_true, if_false] at hK ⊢
      simp only [e11] at hK ⊢
      go_simp
      have hK2 := hK _ _ ⟨hRw, Below.refl _ _, rfl⟩
      exact hK2
     case d13 =>
      intro x w' hRw hd K9 hK
      simp only [All, GEr] at hd
      obtain ⟨e12, _⟩ := hd
      simp +decide only [upd, GEr, fillL, if_true, if_false] at hK ⊢
      obtain ⟨y0, y1, y2, y3, y4, y5⟩ := xx.out w' hRw
      simp only [e12] at hK ⊢
      go_simp
      have hK2 := hK _ _ ⟨hRw, Below.refl _ _, rfl⟩
      exact hK2
     case d14 =>
      intro x w' hRw hd K9 hK
      simp only [All, GEr] at hd
      obtain ⟨e13, _⟩ := hd
      simp +decide only [upd, GEr, fillL, if_true, if_false] at hK ⊢
      simp only [e13] at hK ⊢
      go_simp
      refine (c51.out w' hRw).mono ?_
      rintro e' w2 ⟨us, rfl, hI, hB9⟩
      have hI2 : ObI wr.heap.size w2.heap.size w2 e.2 us := hI.wide hRw.size
      have hK2 := hK _ _ ⟨bthen hRw hB9, hB9, us, _, rfl, hI2⟩
      exact hK2
     case d15 =>
      intro x w' hRw hd K9 hK
      simp only [All, GEr] at hd
      obtain ⟨e7, ⟨us, hi9, e14, hI⟩, _⟩ := hd
      simp +decide only [upd, GEr, fillL, if_true, if_false] at hK ⊢
      obtain ⟨en', E1', E2', E3', en1', ec1', en2', ec2', en3', ec3', hys'⟩ := ob_five2 hI.ob
      rw [← hkk.out] at hys'
      subst hys'
      simp only [e7, e14] at hK ⊢
      go_simp
      have hK2 := hK _ _ ⟨hRw, Below.refl _ _, _, _, rfl, hI⟩
      exact hK2
     case d16 =>
      intro x w' hRw hd K9 hK
      simp only [All, GEr] at hd
      obtain ⟨⟨us, hi9, e15, hI⟩, _⟩ := hd
      simp +decide only [upd, GEr, fillL, if_true, if_false] at hK ⊢
      obtain ⟨en', E1', E2', E3', en1', ec1', en2', ec2', en3', ec3', hys'⟩ := ob_five2 hI.ob
      rw [← hkk.out] at hys'
      subst hys'
      simp only [e15] at hK ⊢
      go_simp
      have hba : Below w'.heap.size w' (w'.alloc (.cells #[.string K, .int .i64 kk, .int .i64 en', .slice E1' en1' ec1', .slice E2' en2' ec2', .slice E3' en3' ec3'] 53)) := (Below.refl _ _).alloc (Nat.le_refl _) _
      have hK2 := hK _ _ ⟨bthen hRw hba, hba, _, _, _, rfl, obI_below hI hba, new_cells w' _ 53⟩
      exact hK2
     case ddone =>
      intro x w4 hR2 hG fr hfr
      have e1 := hG 1 (by omega)
      have e8 := hG 16 (by omega)
      simp only [GEr] at e1 e8
      clear hG
      obtain ⟨q, us, hi9, e8, hI, hcs⟩ := e8
      simp only [fillL] at hfr
      rw [e1, e8] at hfr
      have hL6 := hD.out.step hR2
      have hz6 := hL6.hs
      have hE : EnI wr.heap.size hi9 w4 e (.string K :: us) := ⟨us, by rw [hK.out]; rfl, hkm.out, hI⟩
      subst hfr
      refine app_en rfl _ _ rfl HD _ _ _ rfl hL6.row q wr.heap.size hi9 e (.string K :: us) rfl hE z5 (fun q hq => .inl (hD.out.row.row.lt q hq).2) hcs hzl.out hz6 ?_
      intro v' w5 hR3 hg3 hat3
      obtain ⟨A', n', cc', rfl⟩ : ∃ A' n' c', v' = .slice A' n' c' := by obtain ⟨A', cc', g', hv', _⟩ := hR3.out en_law (by omega); exact ⟨_, _, _, hv'⟩
      obtain ⟨hbk3, hL8⟩ := hL6.put hR3 hg3
      have c4' := hbk3.cell 4
      have q4' := hbk3.frozen 4
      replace hL8 := hi_ hL8
      clear hR3 hg3 hat3 hbk3 hL6 hI hcs e1 e8 hz6 hR2 hE
      go_wp2
      go_roundw
      case rel => exact ⟨j + 1, _, _, by omega, by go_num, by rw [hT2.out]; exact hL8.out⟩
      case measure => simp [RowKit.intOf]; omega
    ·obtain rfl : j = m3 := by omega
     have hT2 : d.take j = d := by rw [hm3.out, List.take_length]
     rw [hT2] at hD
     obtain ⟨A3, n3, c3, rfl⟩ : ∃ A' n' c', vL = .slice A' n' c' := by obtain ⟨A', cc', g', hv', _⟩ := (hD.rowL wr (fun _ _ _ => rfl) hD.hs).out ob_law (by omega); exact ⟨_, _, _, hv'⟩
     obtain ⟨A4, n4, c4, rfl⟩ : ∃ A' n' c', vD = .slice A' n' c' := by obtain ⟨A', cc', g', hv', _⟩ := hD.row.out en_law (by omega); exact ⟨_, _, _, hv'⟩
     have t0 := hD.blk.cell 0
     have t1 := hD.blk.cell 1
     have t2 := hD.blk.cell 2
     have t3 := hD.blk.cell 3
     have t4 := hD.blk.cell 4
     have hRb := hR2.out.below hD.below (by omega)
     have r0 := hRb.cell 0
     have r1 := hRb.cell 1
     have r2 := hRb.cell 2
     have r3 := hRb.cell 3
     have r4 := hRb.cell 4
     have v0 := hRb.frozen 0
     have v1 := hRb.frozen 1
     have v2 := hRb.frozen 2
     have v3 := hRb.frozen 3
     have v4 := hRb.frozen 4
     replace hD := hi_ hD
     replace hRb := hi_ hRb
     replace hT2 := hi_ hT2
     go_wp2
     obtain ⟨Wf, hWf⟩ : ∃ W, W = ((((wr.setCell ⟨w.heap.size + 1, 0, none⟩ (.int .i64 k)).setCell ⟨w.heap.size + 1, 1, none⟩ (.int .i64 n)).setCell ⟨w.heap.size + 1, 2, none⟩ (.slice AB b.length cB)).setCell ⟨w.heap.size + 1, 3, none⟩ (.slice A3 n3 c3)).setCell ⟨w.heap.size + 1, 4, none⟩ (.slice A4 n4 c4) := ⟨_, rfl⟩
     have hgf : wr.grownBy Wf (some (w.heap.size + 1)) := by
      rw [hWf]
      exact ((((set_grown _ _ _ _).trans (set_grown _ _ _ _)).trans (set_grown _ _ _ _)).trans (set_grown _ _ _ _)).trans (set_grown _ _ _ _)
     have hbf : Blk Wf (w.heap.size + 1) 26 #[.int .i64 k, .int .i64 n, .slice AB b.length cB, .slice A3 n3 c3, .slice A4 n4 c4] := by
      rw [hWf]; exact ((((hRb.out.set_ 0 _).set_ 1 _).set_ 2 _).set_ 3 _).set_ 4 _
     have z9 : Wf.heap.size = wr.heap.size := by rw [hWf]; simp [World.setCell]
     rw [← hWf]
     have hD := hD.out
     have g1 := hD.g1
     obtain ⟨e1, e2, e3, e4⟩ := hrng.out
     have hBf : Below w.heap.size w Wf := (bthen hb2.out hD.below).grown hgf (by have := hD.hs; have := hD.h1; have := hD.g2; omega) (fun q hq => by injection hq with hq; omega)
     have u0 := hbf.cell 0
     have u1 := hbf.cell 1
     have u2 := hbf.cell 2
     have u3 := hbf.cell 3
     have u4 := hbf.cell 4
     have hrow := RowG.base (B' := w.heap.size) (hD.row.far en_law (fun q h1 h2 => hgf.block q h2 (fun e => by injection e with e; have := hD.g2; have := hD.h1; omega)) (by omega)) (by have := hD.g2; have := hD.h1; omega)
     have hrowL := RowG.base (B' := w.heap.size) (hD.rowL Wf (fun c c1 c2 => hgf.block c (by have := hD.hs; omega) (fun e => by injection e with e; have := hD.g2; omega)) (by have := hD.hs; omega)) (by have := hD.g2; omega)
     have hrowB := own_grown (hD.own.base (B := w.heap.size) (by omega)) hgf (fun q hq e => by injection e with e; have := (World.ownsRow.lt hD.own.row q hq).1; omega)
     replace hrow := hi_ hrow
     replace hrowL := hi_ hrowL
     replace hrowB := hi_ hrowB
     replace hBf := hi_ hBf
     clear hD hgf hbf
     replace hWf := hi_ hWf
     exact bodyPost_ret (by simp [results, Tryz.results51, go_sem, u0, u1, u2, u3, u4]; try rfl) rfl ⟨_, _, _, _, _, rfl, hrowB.out, hrowL.out, hrow.out, hBf.out⟩
theorem CpyE.ob {w : World} {k n : Int} {b : List UInt8} {l : List Ob} {d : List (List UInt8 × Ob)} {e : Ending} {w' : World} (hk : (-9223372036854775808 ≤ k ∧ k ≤ 9223372036854775807) ∧ -9223372036854775808 ≤ n ∧ n ≤ 9223372036854775807) (h : CpyE w k n b l d e w') : ∃ us, e = .returned (.agg (List.toArray us)) ∧ ObI w.heap.size w'.heap.size w' (.mk k n b l d) us ∧ Below w.heap.size w w' := by
 obtain ⟨vB, vL, vD, rl, rd, h1, h2, h3, h4, h5⟩ := h
 have hbl : b.length ≤ maxLen := by
  rcases h2.row.2 with ⟨_, h0⟩ | ⟨g, cap, cur, _, _, _, hnc, hcm, _⟩
  ·rw [h0]; unfold maxLen; omega
  ·exact Nat.le_trans hnc hcm
 exact ⟨[.int .i64 k, .int .i64 n, vB, vL, vD], h1, built hk.1.1 hk.1.2 hk.2.1 hk.2.2 h2.row hbl h3 h4, h5⟩
theorem ObAt.range {w : World} {k n : Int} {b : List UInt8} {l : List Ob} {d : List (List UInt8 × Ob)} {vs : List Value} (h : ObAt w (.mk k n b l d) vs) : (-9223372036854775808 ≤ k ∧ k ≤ 9223372036854775807) ∧ -9223372036854775808 ≤ n ∧ n ≤ 9223372036854775807 := by
 cases h with
 | mk k n b l d A AL AD c cL cD gL oL gD oD vl vd h1 h2 h3 h4 => exact ⟨⟨h1, h2⟩, h3, h4⟩
theorem rcopy_step (N : Nat) (hN : N + 1 ≤ 100000000) (ih : RCopyC N) : RCopyC (N + 1) := fun o vs w h hbk => by
 cases o with
 | mk k n b l d => exact (rcopy_stepD N hN ih k n b l d vs w h hbk).mono fun e w' hq => hq.ob (ObAt.range h)
theorem rcopy_all : ∀ N, N ≤ 100000000 → RCopyC N
 | 0, _ => fun o vs w _ h => by have := bulk_pos o; omega
 | N + 1, h => rcopy_step N h (rcopy_all N (by omega))
theorem rcopy_D : ∀ N, N ≤ 100000000 → RCopyD N
 | 0, _ => fun k n b l d vs w _ h => by have := bulk_pos (Ob.mk k n b l d); omega
 | N + 1, h => rcopy_stepD N h (rcopy_all N (by omega))

/- A key's value. No condition. -/
def zeroO : Ob := .mk 0 0 [] [] []
def Ob.get (key : List UInt8) : Ob → Ob
 | .mk k _ _ _ d => if hasI k = true then (match d.find? fun e => e.1 == key with
  | some e => e.2
  | none => zeroO) else zeroO
theorem zero_I {B : Nat} {w : World} : ObI B w.heap.size w zeroO [.int .i64 0, .int .i64 0, .slice none 0 0, .slice none 0 0, .slice none 0 0] :=
 built (tb := 5) (tO := 26) (tE := 53) (by omega) (by omega) (by omega) (by omega) (World.ownsRow_nil _ _ _ _) (by decide) (RowG.nil _ _ _ _ _) (RowG.nil _ _ _ _ _)
theorem put_res {w : World} {R lo hi : Nat} {o : Ob} {u0 u1 u2 u3 u4 : Value} (hR : Blk w R 26 #[.int .i64 0, .int .i64 0, .slice none 0 0, .slice none 0 0, .slice none 0 0]) (hI : ObI lo hi w o [u0, u1, u2, u3, u4]) (hlt : R < lo) {Wf : World}
 (hWf : Wf = ((((w.setCell ⟨R, 0, none⟩ u0).setCell ⟨R, 1, none⟩ u1).setCell ⟨R, 2, none⟩ u2).setCell ⟨R, 3, none⟩ u3).setCell ⟨R, 4, none⟩ u4) :
 Blk Wf R 26 #[u0, u1, u2, u3, u4] ∧ ObI lo Wf.heap.size Wf o [u0, u1, u2, u3, u4] ∧ w.grownBy Wf (some R) ∧ Wf.heap.size = w.heap.size := by
 have hg : w.grownBy Wf (some R) := by
  rw [hWf]
  exact ((((set_grown _ _ _ _).trans (set_grown _ _ _ _)).trans (set_grown _ _ _ _)).trans (set_grown _ _ _ _)).trans (set_grown _ _ _ _)
 have hz : Wf.heap.size = w.heap.size := by rw [hWf]; simp [World.setCell]
 refine ⟨?_, ?_, hg, hz⟩
 ·rw [hWf]; exact ((((hR.set_ 0 u0).set_ 1 u1).set_ 2 u2).set_ 3 u3).set_ 4 u4
 ·have h2 := hI.keep (w' := Wf) (fun b h1 h2 => hg.block b (by have := hI.1; omega) (fun e => by injection e with e; omega)) (by have := hI.1; omega)
  exact ⟨Nat.le_refl _, fun w2 h3 h4 => h2.2 w2 (fun b h5 h6 => h3 b h5 (by have := h2.1; omega)) (by have := h2.1; omega)⟩
set_option maxHeartbeats 4000000 in
set_option maxRecDepth 100000 in
theorem cos_None (w : World) : Calls Tryz.prog 67 #[] w fun e w' => e = .returned (.agg #[.int .i64 0, .int .i64 0, .slice none 0 0, .slice none 0 0, .slice none 0 0]) ∧ Below w.heap.size w w' := by
 have hR := Blk.new w 26 #[.int .i64 0, .int .i64 0, .slice none 0 0, .slice none 0 0, .slice none 0 0]
 have hb : Below w.heap.size w (w.alloc (.cells #[.int .i64 0, .int .i64 0, .slice none 0 0, .slice none 0 0, .slice none 0 0] 26)) := (Below.refl _ _).alloc (Nat.le_refl _) _
 obtain ⟨W1, hW1⟩ : ∃ W, W = w.alloc (.cells #[.int .i64 0, .int .i64 0, .slice none 0 0, .slice none 0 0, .slice none 0 0] 26) := ⟨_, rfl⟩
 rw [← hW1] at hR hb
 have r0 := hR.cell 0
 have r1 := hR.cell 1
 have r2 := hR.cell 2
 have r3 := hR.cell 3
 have r4 := hR.cell 4
 have v0 := hR.frozen 0
 have v1 := hR.frozen 1
 have v2 := hR.frozen 2
 have v3 := hR.frozen 3
 have v4 := hR.frozen 4
 replace hb := hi_ hb
 replace hR := hi_ hR
 go_enter Tryz.func67, Tryz.ntmps67
 go_upto_region 1 with (fail)
 rw [← hW1]
 replace hW1 := hi_ hW1
 go_wp2
 obtain ⟨Wf, hWf⟩ : ∃ W, W = ((((W1.setCell ⟨w.heap.size, 0, none⟩ (.int .i64 0)).setCell ⟨w.heap.size, 1, none⟩ (.int .i64 0)).setCell ⟨w.heap.size, 2, none⟩ (.slice none 0 0)).setCell ⟨w.heap.size, 3, none⟩ (.slice none 0 0)).setCell ⟨w.heap.size, 4, none⟩ (.slice none 0 0) := ⟨_, rfl⟩
 rw [← hWf]
 obtain ⟨hbf, _, hgf, hz⟩ := put_res (lo := w.heap.size + 1) (hi := W1.heap.size) hR.out zero_I (by omega) hWf
 have u0 := hbf.cell 0
 have u1 := hbf.cell 1
 have u2 := hbf.cell 2
 have u3 := hbf.cell 3
 have u4 := hbf.cell 4
 have hB : Below w.heap.size w Wf := hb.out.grown hgf hb.out.size (fun q hq => by injection hq with hq; omega)
 replace hB := hi_ hB
 clear hbf hgf
 replace hWf := hi_ hWf
 exact bodyPost_ret (by simp [results, Tryz.results67, go_sem, u0, u1, u2, u3, u4]; try rfl) rfl ⟨rfl, hB.out⟩

/- A key's value: cos.Get. No condition. -/
theorem find_at {d : List (List UInt8 × Ob)} {key : List UInt8} {i : Nat} (hi : i < d.length) (hp : ∀ j (h : j < i), (d[j].1 == key) = false) (hq : (d[i].1 == key) = true) : (d.find? fun e => e.1 == key) = some d[i] := by
 rw [List.find?_eq_some_iff_getElem]
 exact ⟨hq, i, hi, rfl, fun j hj => by rw [hp j hj]; rfl⟩
theorem find_no {d : List (List UInt8 × Ob)} {key : List UInt8} (hp : ∀ j (h : j < d.length), (d[j].1 == key) = false) : (d.find? fun e => e.1 == key) = none := by
 rw [List.find?_eq_none]
 intro e he
 obtain ⟨j, hj, rfl⟩ := List.getElem_of_mem he
 rw [hp j hj]; simp
theorem key_eq (a : List UInt8) (K : ByteArray) : ((bytes a).toList == K.toList) = (a == K.data.toList) := by
 rw [ByteArray.toList_eq, ByteArray.toList_eq]; rfl
set_option maxHeartbeats 8000000 in
set_option maxRecDepth 100000 in
theorem cos_Get (o : Ob) (vs : List Value) (w : World) (h : ObAt w o vs) (hbk : o.bulk ≤ 1048576) (K : ByteArray) : Calls Tryz.prog 40 #[.agg vs.toArray, .string K] w fun e w' => ∃ us, e = .returned (.agg (List.toArray us)) ∧ ObI w.heap.size w'.heap.size w' (Ob.get K.data.toList o) us ∧ Below w.heap.size w w' := by
 cases h with
 | mk k n b l d A AL AD c cL cD gL oL gD oD vl vd h1 h2 h3 h4 hB5 h6 h7 h8 h9 h10 h11 hAL hl hlv hAD hdo hdk hdv =>
 have zk : b.length + bulkL l + bulkD d + 1 ≤ 1048576 := hbk
 have zd := bulkD_len d
 obtain ⟨m3, hm3⟩ : ∃ m, m = d.length := ⟨_, rfl⟩
 rw [← hm3] at zd ⊢
 have zd1 : m3 ≤ 1048576 := by omega
 obtain ⟨W1, hW1⟩ : ∃ W, W = w.alloc (.cells #[.int .i64 k, .int .i64 n, .slice A b.length c, .slice AL l.length cL, .slice AD m3 cD] 26) := ⟨_, rfl⟩
 obtain ⟨W2, hW2⟩ : ∃ W, W = W1.alloc (.cells #[.int .i64 0, .int .i64 0, .slice none 0 0, .slice none 0 0, .slice none 0 0] 26) := ⟨_, rfl⟩
 have hb1 : Below w.heap.size w W1 := by rw [hW1]; exact (Below.refl _ _).alloc (Nat.le_refl _) _
 have z1 : W1.heap.size = w.heap.size + 1 := by rw [hW1, World.size_alloc]
 have hb2 : Below w.heap.size w W2 := by rw [hW2]; exact hb1.alloc (by omega) _
 have z2 : W2.heap.size = w.heap.size + 2 := by rw [hW2, World.size_alloc, z1]
 have f := five_kept (five_cells hW1) (W' := W2) (by rw [hW2]; exact (Below.refl _ _).alloc (Nat.le_refl _) _)
 have hR2 : Blk W2 (w.heap.size + 1) 26 #[.int .i64 0, .int .i64 0, .slice none 0 0, .slice none 0 0, .slice none 0 0] := by rw [hW2, ← z1]; exact Blk.new W1 26 _
 obtain ⟨f0, f1, f2, f3, f4⟩ := id f
 have c65 := cos_entries k (.int .i64 n) (.slice A b.length c) (.slice AL l.length cL) (.slice AD m3 cD) W2
 obtain ⟨O, hO⟩ : ∃ O, O = Ob.get K.data.toList (.mk k n b l d) := ⟨_, rfl⟩
 have hOf : hasI k = false → O = zeroO := fun h => by rw [hO]; simp [Ob.get, h]
 have hOs : hasI k = true → ∀ e, (d.find? fun e => e.1 == K.data.toList) = some e → O = e.2 := fun h e he => by rw [hO]; simp [Ob.get, h, he]
 have hOn : hasI k = true → (d.find? fun e => e.1 == K.data.toList) = none → O = zeroO := fun h he => by rw [hO]; simp only [Ob.get, h, he, if_true]
 rw [← hO]
 obtain ⟨hs, hhs⟩ : ∃ z, hasI k = z := ⟨_, rfl⟩
 rw [hhs] at c65 hOf hOs hOn
 -- the end, where there is none
 have hnone : ∀ W : World, Below W2.heap.size W2 W → ∀ Wf, Wf = ((((W.setCell ⟨w.heap.size + 1, 0, none⟩ (.int .i64 0)).setCell ⟨w.heap.size + 1, 1, none⟩ (.int .i64 0)).setCell ⟨w.heap.size + 1, 2, none⟩ (.slice none 0 0)).setCell ⟨w.heap.size + 1, 3, none⟩ (.slice none 0 0)).setCell ⟨w.heap.size + 1, 4, none⟩ (.slice none 0 0) →
  Blk Wf (w.heap.size + 1) 26 #[.int .i64 0, .int .i64 0, .slice none 0 0, .slice none 0 0, .slice none 0 0] ∧ ObI w.heap.size Wf.heap.size Wf zeroO [.int .i64 0, .int .i64 0, .slice none 0 0, .slice none 0 0, .slice none 0 0] ∧ Below w.heap.size w Wf := fun W hW Wf hWf => by
  have hRb := hR2.below hW (by omega)
  have hz := hW.size
  obtain ⟨q1, q2, q3, q4⟩ := put_res (lo := W2.heap.size) (hi := W.heap.size) hRb zero_I (by omega) hWf
  exact ⟨q1, q2.wide (by omega), (bthen hb2 hW).grown q3 (by omega) (fun q hq => by injection hq with hq; omega)⟩
 have hsome : ∀ (W : World) (lo : Nat) (u0 u1 u2 u3 u4 : Value), Below W2.heap.size W2 W → W2.heap.size ≤ lo → ObI lo W.heap.size W O [u0, u1, u2, u3, u4] → ∀ Wf, Wf = ((((W.setCell ⟨w.heap.size + 1, 0, none⟩ u0).setCell ⟨w.heap.size + 1, 1, none⟩ u1).setCell ⟨w.heap.size + 1, 2, none⟩ u2).setCell ⟨w.heap.size + 1, 3, none⟩ u3).setCell ⟨w.heap.size + 1, 4, none⟩ u4 →
  Blk Wf (w.heap.size + 1) 26 #[u0, u1, u2, u3, u4] ∧ ObI w.heap.size Wf.heap.size Wf O [u0, u1, u2, u3, u4] ∧ Below w.heap.size w Wf := fun W lo u0 u1 u2 u3 u4 hW hlo hI Wf hWf => by
  have hRb := hR2.below hW (by omega)
  have hz := hW.size
  obtain ⟨q1, q2, q3, q4⟩ := put_res hRb hI (by omega) hWf
  exact ⟨q1, q2.wide (by omega), (bthen hb2 hW).grown q3 (by omega) (fun q hq => by injection hq with hq; omega)⟩
 have hres : ∀ W : World, Below W2.heap.size W2 W → Blk W (w.heap.size + 1) 26 #[.int .i64 0, .int .i64 0, .slice none 0 0, .slice none 0 0, .slice none 0 0] := fun W hW => hR2.below hW (by omega)
 replace hm3 := hi_ hm3
 replace hAD := hi_ hAD
 replace hdo := hi_ hdo
 replace hdk := hi_ hdk
 replace hdv := hi_ hdv
 replace hb1 := hi_ hb1
 replace hb2 := hi_ hb2
 replace f := hi_ f
 replace hR2 := hi_ hR2
 replace hO := hi_ hO
 replace hOf := hi_ hOf
 replace hOs := hi_ hOs
 replace hOn := hi_ hOn
 replace hhs := hi_ hhs
 replace hnone := hi_ hnone
 replace hsome := hi_ hsome
 replace hres := hi_ hres
 clear h1 h2 h3 h4 hB5 h6 h7 h8 h9 h10 h11 hAL hl hlv hbk
 go_enter Tryz.func40, Tryz.ntmps40
 go_upto_region 1 with (fail)
 rw [← hW1, ← hW2]
 replace hW1 := hi_ hW1
 replace hW2 := hi_ hW2
 cases hs with
 | false =>
  have hz := hOf.out rfl
  subst hz
  go_wp2_with (first
   | (go_at_call 65; (with_reducible refine c65.mono ?_); rintro e w3 ⟨rfl, hB3⟩; have c67 := cos_None w3; replace hB3 := hi_ hB3)
   | (go_at_call 67; (with_reducible refine c67.mono ?_); rintro e w4 ⟨rfl, hB4⟩; have hD4 := bthen hB3.out hB4; have hRb := hres.out w4 hD4; have r0 := hRb.cell 0; have r1 := hRb.cell 1; have r2 := hRb.cell 2; have r3 := hRb.cell 3; have r4 := hRb.cell 4; have v0 := hRb.frozen 0; have v1 := hRb.frozen 1; have v2 := hRb.frozen 2; have v3 := hRb.frozen 3; have v4 := hRb.frozen 4; replace hD4 := hi_ hD4; clear hRb hB4))
  obtain ⟨Wf, hWf⟩ : ∃ W, W = ((((w4.setCell ⟨w.heap.size + 1, 0, none⟩ (.int .i64 0)).setCell ⟨w.heap.size + 1, 1, none⟩ (.int .i64 0)).setCell ⟨w.heap.size + 1, 2, none⟩ (.slice none 0 0)).setCell ⟨w.heap.size + 1, 3, none⟩ (.slice none 0 0)).setCell ⟨w.heap.size + 1, 4, none⟩ (.slice none 0 0) := ⟨_, rfl⟩
  rw [← hWf]
  obtain ⟨hbf, hI, hBf⟩ := hnone.out w4 hD4.out Wf hWf
  have u0 := hbf.cell 0
  have u1 := hbf.cell 1
  have u2 := hbf.cell 2
  have u3 := hbf.cell 3
  have u4 := hbf.cell 4
  replace hI := hi_ hI
  replace hBf := hi_ hBf
  clear hbf
  replace hWf := hi_ hWf
  exact bodyPost_ret (by simp [results, Tryz.results40, go_sem, u0, u1, u2, u3, u4]; try rfl) rfl ⟨[.int .i64 0, .int .i64 0, .slice none 0 0, .slice none 0 0, .slice none 0 0], rfl, hI.out, hBf.out⟩
 | true =>
  go_wp2_with (go_at_call 65; (with_reducible refine c65.mono ?_); rintro e w3 ⟨rfl, hB3⟩; obtain ⟨p0, p1, p2, p3, p4⟩ := five_kept f.out hB3; replace hB3 := hi_ hB3)
  go_loopw [12] (fun s12 wr => ∃ j : Nat, j ≤ m3 ∧ s12 = .int .i64 j ∧ (∀ q (h : q < j) (h' : q < d.length), (d[q].1 == K.data.toList) = false) ∧ Below W2.heap.size W2 wr) (fun s12 _ => m3 - (RowKit.intOf s12).toNat)
  case atStart => exact ⟨0, by omega, rfl, fun q h => by omega, hB3.out⟩
  case round =>
   obtain ⟨j, hj, rfl, hP, hB⟩ := hrel
   have lB := hB.size
   by_cases hjm : j < m3
   ·have hjl : j < d.length := by rw [← hm3.out]; exact hjm
    have hAe := hAD.out (by omega)
    subst hAe
    have hbw : Below w.heap.size w wr := bthen hb2.out hB
    obtain ⟨e, he⟩ : ∃ e, e = d[j] := ⟨_, rfl⟩
    have hob := (hdo.out j hjl).kept hbw
    have hky := hdk.out j hjl
    have hcv := hdv.out j hjl
    rw [← he] at hob hky
    have hzo : e.2.bulk ≤ 1048576 := by have := bulkD_at d j hjl; rw [← he] at this; omega
    obtain ⟨us0, hus0⟩ : ∃ us, us = vd j := ⟨_, rfl⟩
    rw [← hus0] at hob hcv
    obtain ⟨en, E1, E2, E3, en1, ec1, en2, ec2, en3, ec3, hys⟩ := ob_five2 hob
    obtain ⟨kk, hkk⟩ : ∃ k, k = e.2.kind := ⟨_, rfl⟩
    rw [← hkk] at hys
    subst hys
    obtain ⟨K0, hK⟩ : ∃ K, K = bytes e.1 := ⟨_, rfl⟩
    have x0 : wr.cell? ⟨gD, oD + j * 6, none⟩ = some (.string K0) := by
     have h1 := (hbw.cell (cell_lt hky.2)).trans hky.2
     rw [Nat.mul_comm] at h1
     rw [h1, hK]; rfl
    have five : ∀ q u, [Value.int .i64 kk, .int .i64 en, .slice E1 en1 ec1, .slice E2 en2 ec2, .slice E3 en3 ec3][q]? = some u → wr.cell? ⟨gD, oD + j * 6 + 1 + q, none⟩ = some u := fun q u hq => by
     have h0 := hcv q (by have := (List.getElem?_eq_some_iff.1 hq).1; simpa using this)
     rw [hq] at h0
     have h1 := (hbw.cell (cell_lt h0)).trans h0
     rw [show oD + (6 * j + 1 + q) = oD + j * 6 + 1 + q by omega] at h1
     exact h1
    have x1 : wr.cell? ⟨gD, oD + j * 6 + 1, none⟩ = some (.int .i64 kk) := five 0 _ rfl
    have x2 : wr.cell? ⟨gD, oD + j * 6 + 2, none⟩ = some (.int .i64 en) := five 1 _ rfl
    have x3 : wr.cell? ⟨gD, oD + j * 6 + 3, none⟩ = some (.slice E1 en1 ec1) := five 2 _ rfl
    have x4 : wr.cell? ⟨gD, oD + j * 6 + 4, none⟩ = some (.slice E2 en2 ec2) := five 3 _ rfl
    have x5 : wr.cell? ⟨gD, oD + j * 6 + 5, none⟩ = some (.slice E3 en3 ec3) := five 4 _ rfl
    obtain ⟨W5, hW5⟩ : ∃ W, W = wr.alloc (.cells #[.string K0, .int .i64 kk, .int .i64 en, .slice E1 en1 ec1, .slice E2 en2 ec2, .slice E3 en3 ec3] 53) := ⟨_, rfl⟩
    have hb5 : Below wr.heap.size wr W5 := by rw [hW5]; exact (Below.refl _ _).alloc (Nat.le_refl _) _
    have hD5 : Below W2.heap.size W2 W5 := hB.trans (hb5.mono lB)
    have c66 := copy_all 1048576 (Nat.le_refl _) e.2 _ W5 (hob.kept hb5) hzo
    obtain ⟨y0, y1, y2, y3, y4, y5⟩ := six_cells hW5
    obtain ⟨q, hq⟩ : ∃ q, (K0.toList == K.toList) = q := ⟨_, rfl⟩
    have hq2 : (d[j].1 == K.data.toList) = q := by rw [← hq, hK, key_eq, he]
    have hl5 := hD5.size
    clear five hcv hob hus0 hky hbw
    replace he := hi_ he
    replace hkk := hi_ hkk
    replace hK := hi_ hK
    replace hD5 := hi_ hD5
    replace hB := hi_ hB
    replace hb5 := hi_ hb5
    replace hP := hi_ hP
    replace hq2 := hi_ hq2
    go_upto_region 5 with (fail)
    rw [← hW5]
    replace hW5 := hi_ hW5
    clear x0 x1 x2 x3 x4 x5
    cases q with
    | false =>
     have hP2 : ∀ q (h : q < j + 1) (h' : q < d.length), (d[q].1 == K.data.toList) = false := fun q h h' => by
      by_cases h3 : q = j
      ·subst h3; exact hq2.out
      ·exact hP.out q (by omega) h'
     replace hP2 := hi_ hP2
     clear c66
     go_wp2
     go_roundw
     case rel => exact ⟨j + 1, by omega, by go_num, hP2.out, hD5.out⟩
     case measure => simp [RowKit.intOf]; omega
    | true =>
     have hz := hOs.out (by trivial) _ (find_at hjl (fun q h => hP.out q h (by omega)) hq2.out)
     rw [← he.out] at hz
     subst hz
     go_wp2_with (go_at_call 66; (with_reducible refine c66.mono ?_); rintro e' w6 ⟨us, rfl, hI, hB6⟩; obtain ⟨en', E1', E2', E3', en1', ec1', en2', ec2', en3', ec3', hys'⟩ := ob_five2 hI.ob; rw [← hkk.out] at hys'; subst hys'; have hD6 := bthen hD5.out hB6; have hRb := hres.out w6 hD6; have r0 := hRb.cell 0; have r1 := hRb.cell 1; have r2 := hRb.cell 2; have r3 := hRb.cell 3; have r4 := hRb.cell 4; have v0 := hRb.frozen 0; have v1 := hRb.frozen 1; have v2 := hRb.frozen 2; have v3 := hRb.frozen 3; have v4 := hRb.frozen 4; replace hD6 := hi_ hD6; replace hI := hi_ hI; clear hRb hB6)
     obtain ⟨Wf, hWf⟩ : ∃ W, W = ((((w6.setCell ⟨w.heap.size + 1, 0, none⟩ (.int .i64 kk)).setCell ⟨w.heap.size + 1, 1, none⟩ (.int .i64 en')).setCell ⟨w.heap.size + 1, 2, none⟩ (.slice E1' en1' ec1')).setCell ⟨w.heap.size + 1, 3, none⟩ (.slice E2' en2' ec2')).setCell ⟨w.heap.size + 1, 4, none⟩ (.slice E3' en3' ec3') := ⟨_, rfl⟩
     rw [← hWf]
     obtain ⟨hbf, hI2, hBf⟩ := hsome.out w6 W5.heap.size _ _ _ _ _ hD6.out hl5 hI.out Wf hWf
     have u0 := hbf.cell 0
     have u1 := hbf.cell 1
     have u2 := hbf.cell 2
     have u3 := hbf.cell 3
     have u4 := hbf.cell 4
     replace hI2 := hi_ hI2
     replace hBf := hi_ hBf
     clear hbf
     replace hWf := hi_ hWf
     exact bodyPost_ret (by simp [results, Tryz.results40, go_sem, u0, u1, u2, u3, u4]; try rfl) rfl ⟨[.int .i64 kk, .int .i64 en', .slice E1' en1' ec1', .slice E2' en2' ec2', .slice E3' en3' ec3'], rfl, hI2.out, hBf.out⟩
   ·obtain rfl : j = m3 := by omega
    have hz := hOn.out (by trivial) (find_no fun q h => hP q (by rw [hm3.out]; exact h) h)
    subst hz
    have c67 := cos_None wr
    replace hB := hi_ hB
    replace hP := hi_ hP
    go_wp2_with (go_at_call 67; (with_reducible refine c67.mono ?_); rintro e w4 ⟨rfl, hB4⟩; have hD4 := bthen hB.out hB4; have hRb := hres.out w4 hD4; have r0 := hRb.cell 0; have r1 := hRb.cell 1; have r2 := hRb.cell 2; have r3 := hRb.cell 3; have r4 := hRb.cell 4; have v0 := hRb.frozen 0; have v1 := hRb.frozen 1; have v2 := hRb.frozen 2; have v3 := hRb.frozen 3; have v4 := hRb.frozen 4; replace hD4 := hi_ hD4; clear hRb hB4)
    obtain ⟨Wf, hWf⟩ : ∃ W, W = ((((w4.setCell ⟨w.heap.size + 1, 0, none⟩ (.int .i64 0)).setCell ⟨w.heap.size + 1, 1, none⟩ (.int .i64 0)).setCell ⟨w.heap.size + 1, 2, none⟩ (.slice none 0 0)).setCell ⟨w.heap.size + 1, 3, none⟩ (.slice none 0 0)).setCell ⟨w.heap.size + 1, 4, none⟩ (.slice none 0 0) := ⟨_, rfl⟩
    rw [← hWf]
    obtain ⟨hbf, hI, hBf⟩ := hnone.out w4 hD4.out Wf hWf
    have u0 := hbf.cell 0
    have u1 := hbf.cell 1
    have u2 := hbf.cell 2
    have u3 := hbf.cell 3
    have u4 := hbf.cell 4
    replace hI := hi_ hI
    replace hBf := hi_ hBf
    clear hbf
    replace hWf := hi_ hWf
    exact bodyPost_ret (by simp [results, Tryz.results40, go_sem, u0, u1, u2, u3, u4]; try rfl) rfl ⟨[.int .i64 0, .int .i64 0, .slice none 0 0, .slice none 0 0, .slice none 0 0], rfl, hI.out, hBf.out⟩
end Go.Proofs.YthacnnmlephkhaaGreatDoor

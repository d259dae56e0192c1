/- Signs: whether bytes are signs. No condition. -/
import Derived.Test.YtgomlebemefdcaaDoorXeNext
import Derived.Laws.BytesArg
set_option linter.unusedVariables false
namespace Go.Proofs.YtgomlebemefdcaaDoor
open Go Go.RowKit Go.Wk Go.Xt Go.Shelf
attribute [local go_sem] Oper.semAt_some
theorem conv_byt {w : World} {A : Option Addr} {c : Nat} {l : List UInt8} (h : Byt w A l) : (convert 22 9 (.slice A l.length c)).run Tryd.prog w = .ok (str l) w := by
  cases A with
  | none =>
    have h0 : l = [] := by
      rcases Nat.eq_zero_or_pos l.length with h1 | h1
      · exact List.eq_nil_of_length_eq_zero h1
      · obtain ⟨_, _, e, _⟩ := h.2 h1; cases e
    subst h0
    exact run_convert_bytes_nil _ 22 5 Tryd.underlying22 Tryd.underlying5 _ _ 9 Tryd.underlying9
  | some a => exact run_convert_bytes_back w 22 9 5 a c l Tryd.underlying22 Tryd.underlying5 Tryd.underlying9 (fun j hj => by
    obtain ⟨b, o, e, hc⟩ := h.2 (by omega)
    cases e
    rw [Lib.add_plain]; exact hc j hj)
set_option maxHeartbeats 1000000 in
theorem xml_signs {w : World} (S : ByteArray) : Calls Tryd.prog 20 #[.string S] w fun e w' => e = .returned (.func (.func 30) #[] #[.pointer (some ⟨w.heap.size, 0, none⟩)]) ∧ w' = w.alloc (.cells #[.string S] 9) := by
  go_enter Tryd.func20, Tryd.ntmps20
  go_wp2
  go_ret
  exact ⟨rfl, rfl⟩
def signsB (bs : List UInt8) : Bool := (partsS bs).all (·.2)
set_option maxHeartbeats 2000000 in
set_option maxRecDepth 100000 in
theorem xml_Signs {w : World} {A : Option Addr} {bs : List UInt8} (c : Nat) (hb : Byt w A bs) (hl : bs.length ≤ 100000) (hT : Lib.Utf8Tabs 0 1 w) (h2 : 2 ≤ w.heap.size) :
    Calls Tryd.prog 14 #[.slice A bs.length c] w fun e w' => e = .returned (.bool (signsB bs)) ∧ Below w.heap.size w w' := by
  have hcv := conv_byt (c := c) (hb.below ((Below.refl w.heap.size w).alloc (Nat.le_refl _) (.cells #[.bool false] 4)))
  have cs := fun (w : World) => xml_signs (w := w) ⟨bs.toArray⟩
  have f83 : Fence.wide.fn 20 := trivial
  replace hb := Lib.hid hb
  replace hT := Lib.hid hT
  obtain ⟨m, hm⟩ : ∃ m, m = bs.length := ⟨_, rfl⟩
  rw [← hm] at hcv ⊢
  replace hm := Lib.hid hm
  refine (callsIn_wide (n := 0)).1 ?_
  refine callsIn_of_wp_marks Tryd.func14 rfl trivial ?_ rfl
  simp only [Tryd.ntmps14, List.size_toArray, List.length_cons, List.length_nil, Nat.reduceAdd, Nat.reduceSub, Array.replicate_succ, Array.replicate_zero, List.push_toArray, List.append_toArray, List.nil_append, List.cons_append]
  gi_wp2_with (refine ⟨rfl, ?_⟩; gi_at_call 20; refine (callsIn_wide.2 (cs _)).mono ?_; rintro e w' ⟨rfl, rfl⟩)
  obtain ⟨W0, hW0⟩ : ∃ W0, W0 = (w.alloc (.cells #[.bool false] 4)).alloc (.cells #[.string ⟨bs.toArray⟩] 9) := ⟨_, rfl⟩
  rw [← hW0]
  have hz0 : W0.heap.size = w.heap.size + 2 := by rw [hW0, World.size_alloc, World.size_alloc]
  have hB0 : Below w.heap.size w W0 := by rw [hW0]; exact ((Below.refl _ _).alloc (Nat.le_refl _) _).alloc (by simp) _
  have hr0 : Blk W0 w.heap.size 4 #[.bool false] := by rw [hW0]; exact (Blk.new w 4 _).alloc _
  have hs0 : Blk W0 (w.heap.size + 1) 9 #[str bs] := by
    rw [hW0, ← World.size_alloc w (.cells #[.bool false] 4)]; exact Blk.new _ 9 _
  have hT0 : Lib.Utf8Tabs 0 1 W0 := tabs_kept hT.out (hB0.block 0 (by omega)) (hB0.block 1 (by omega))
  replace hW0 := Lib.hid hW0
  refine range_B (gf := 30) (lb := #[.pointer (some ⟨w.heap.size + 1, 0, none⟩)]) rfl (enters_of Tryd.func30 (by kernel_rfl) rfl) (signs_stops bs hl (by omega) hs0 hT0) (Kept.refl _ _ _) (by omega) (by omega) (fun _ => rfl)
    (fun pre W => Blk W w.heap.size 4 #[.bool false] ∧ Below w.heap.size w W ∧ pre.all (·.2) = true)
    (fun c pre W => c = .ret ∧ Blk W w.heap.size 4 #[.bool false] ∧ Below w.heap.size w W ∧ pre.all (·.2) = false)
    (fun pre U V h s => ⟨s.blk h.1 (by omega), s.below h.2.1 (by omega) (by omega) (Nat.le_refl _), h.2.2⟩)
    (fun c pre U V h s => ⟨h.1, s.blk h.2.1 (by omega), s.below h.2.2.1 (by omega) (by omega) (Nat.le_refl _), h.2.2.2⟩)
    ⟨hr0, hB0, rfl⟩
    (fun x => { tmps := #[.slice A m c, undef, .pointer (some ⟨w.heap.size, 0, none⟩), undef, .bool x.2, .slice A m c, str bs, .func (.func 30) #[] #[.pointer (some ⟨w.heap.size + 1, 0, none⟩)], str x.1, .bool x.2, undef, undef], defers := [] }) ?assign ?body ?done ?stop
  case assign =>
    intro l x W K hK
    unfold encP
    gi_wp2
    exact hK
  case body =>
    rintro l pre ⟨x, ok⟩ W ⟨hr, hB, hp⟩ hpre
    have hc := hr.cell 0
    have hf := hr.frozen 0
    replace hr := Lib.hid hr
    replace hp := Lib.hid hp
    cases ok with
    | true =>
      gi_wp2
      exact ⟨KeepsOthers.refl _, Kept.refl _ _ _, hr.out, hB, by simp [hp.out]⟩
    | false =>
      gi_wp2
      exact ⟨KeepsOthers.setCell _ _ _, rfl, hr.out.set_ 0 _, hB.setCell (p := ⟨w.heap.size, 0, none⟩) (Nat.le_refl _) _, by simp⟩
  case done =>
    rintro W ⟨hr, hB, hp⟩ hK
    have hc := hr.cell 0
    have hf := hr.frozen 0
    replace hr := Lib.hid hr
    replace hp := Lib.hid hp
    gi_wp2
    have hK' := (KeepsOthers.setCell W ⟨w.heap.size, 0, none⟩ (.bool true)).same _ _ hK rfl
    refine ⟨by simp, .inl ⟨_, _, rfl, run_takeDeferred hK', ?_⟩⟩
    have hr5 := (blk_put (hr.out.set_ 0 (.bool true)) W0.heap.size (.deferred none) (by omega)).cell 0
    refine ⟨.bool true, ?_, by unfold signsB; rw [hp.out], below_put (hB.setCell (p := ⟨w.heap.size, 0, none⟩) (Nat.le_refl _) _) _ _ (by omega)⟩
    simp [results, Tryd.f14, go_sem, hr5]
  case stop =>
    rintro c pre W hpre ⟨rfl, hr, hB, hp⟩ hK
    have hc := hr.cell 0
    replace hr := Lib.hid hr
    replace hp := Lib.hid hp
    gi_wp2
    refine ⟨by simp, .inl ⟨_, _, rfl, run_takeDeferred hK, ?_⟩⟩
    have hr5 := (blk_put hr.out W0.heap.size (.deferred none) (by omega)).cell 0
    refine ⟨.bool false, ?_, ?_, below_put hB _ _ (by omega)⟩
    · simp [results, Tryd.f14, go_sem, hr5]
    · obtain ⟨r, hr⟩ := hpre
      unfold signsB; rw [← hr, List.all_append, hp.out, Bool.false_and]
end Go.Proofs.YtgomlebemefdcaaDoor

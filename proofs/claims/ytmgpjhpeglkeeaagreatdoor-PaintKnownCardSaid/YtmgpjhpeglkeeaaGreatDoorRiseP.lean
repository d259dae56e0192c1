/- The keys of a map, in order: paint.rising, at its three instances. No condition. -/
import Derived.Test.YtmgpjhpeglkeeaaGreatDoorAmD
import Derived.Test.YtmgpjhpeglkeeaaGreatDoorKyO
import Derived.Test.YtmgpjhpeglkeeaaGreatDoorKyS
import Derived.Test.YtmgpjhpeglkeeaaGreatDoorSxU
import Derived.Test.YtmgpjhpeglkeeaaGreatDoorKyLay
import Derived.Test.YtmgpjhpeglkeeaaGreatDoorPkShelf
import Derived.Shelf.SlIterI.Sorted
import Derived.Shelf.SortM.Plain
import Derived.Shelf.SortM.SortNone
set_option linter.unusedVariables false
namespace Go.Proofs.YtmgpjhpeglkeeaaGreatDoor
open Go Go.Proofs Go.RowKit Go.Maps Go.Sort Go.Shelf Go.WideShapes Go.Am
set_option maxHeartbeats 4000000
set_option maxRecDepth 100000
theorem wf_u8 {n : Int} (h : 0 ≤ n ∧ n < 256) : (Lit.int .u8 n).wf = true := by
  have h1 : (0 : Int) ≤ n := h.1
  have h2 : n ≤ 255 := by omega
  simp [Lit.wf, IntKind.min, IntKind.max, IntKind.bits, IntKind.signed, h1, h2]
theorem wf_i64 {n : Int} (h : 0 ≤ n ∧ n < 256) : (Lit.int .i64 n).wf = true := by
  have h1 : (-9223372036854775808 : Int) ≤ n := by omega
  have h2 : n ≤ 9223372036854775807 := by omega
  simp [Lit.wf, IntKind.min, IntKind.max, IntKind.bits, IntKind.signed, h1, h2]
/-- slices.Sort's contracts at bytes, as slices.Sorted leans on them -/
theorem sortsB (m : Nat) : KyU.SortsIn Tryz.prog Tryz.sortedB_ren Fence.wide m := by
  refine ⟨fun g cap cur ss W hb ht hne h12 hc hm hs => callsIn_wide.2 ?_, fun p cap W => callsIn_wide.2 (sort_nil p cap W)⟩
  have h := sort_u g 0 cap ss.toArray W (holds_of_block_u hb ht) (by simpa using h12)
  rw [show ss.toArray.size = ss.length by simp] at h
  refine h.mono fun e w' hr => ?_
  obtain ⟨rfl, n, rfl⟩ := hr
  obtain ⟨q1, q2⟩ := sorted_row (n := n) (e := Tryz.sortedB_ren.t 26) hb hc hs
  exact ⟨rfl, q1, q2⟩
theorem rise_b : RiseC Tryz.prog 30 .u8 5 := by
  intro w b es ck ks hb hkeys hborn hnd hl hr
  obtain ⟨ls, hown, hperm⟩ := owns_mk (k := 5) Tryz.underlying5 hb hkeys hborn hnd hl (fun n hn => wf_u8 (hr n hn))
  have hp := u8_perm hperm
  have hsz : Maps.size (DataW.map ls) ≤ 12 := by
    have := hperm.length_eq
    simp only [List.length_map] at this
    rw [Maps.size_eq, this]; exact hl
  clear hb hkeys hborn
  refine (callsIn_wide (n := 6)).1 ?_
  have hbl := hown.lt
  have hseq : SeqGives Fence.wide 2 Tryz.prog 110 #[.pointer (some ⟨w.heap.size, 0, none⟩)] encU (fun ss => ss.Perm (u8Keys (DataW.map ls))) (Maps.size (DataW.map ls)) (w.alloc (.cells #[.map (some b)] 109)) :=
    KyU.keys_gives (ρ := Tryz.keysB_ren) { Tryz.keysB with } Fence.wide _ trivial rfl (by omega) w.heap.size b 12 _ _ (by simp) (by simp) (by
      obtain ⟨es, clock, hb, Ft, hs, hD⟩ := hown
      exact ⟨es, clock, (Below.heap_alloc _ _ b hbl).trans hb, Ft, hs, hD⟩)
  have cK : ∀ mb W, CallsIn Fence.wide 5 Tryz.prog 62 #[.map mb] W fun e w' => e = .returned (.func (.func 110) #[] #[.pointer (some ⟨W.heap.size, 0, none⟩)]) ∧ w' = W.alloc (.cells #[.map mb] 109) := fun mb W => KyU.keys_in Tryz.keysB Fence.wide 5 trivial rfl mb W
  have cS := KyU.sorted_in Tryz.sortedB Fence.wide 5 trivial trivial trivial trivial rfl (by omega) (sortsB _) (enters_of Tryz.func109 (by kernel_rfl) rfl) 110 #[.pointer (some ⟨w.heap.size, 0, none⟩)] trivial (enters_of Tryz.func110 (by kernel_rfl) rfl) _ _ hsz _ hseq
  change CallsIn _ _ Tryz.prog 61 _ _ _ at cS
  have hfK : Fence.wide.fn 62 := trivial
  have hfS : Fence.wide.fn 61 := trivial
  clear hseq hsz
  refine callsIn_of_wp Tryz.func30 rfl trivial ?_ rfl
  simp only [Tryz.ntmps30, List.size_toArray, List.length_cons, List.length_nil, Nat.reduceAdd, Nat.reduceSub, Array.replicate_succ, Array.replicate_zero, List.push_toArray, List.append_toArray, List.nil_append, List.cons_append]
  gi_wp2_with (first
    | (gi_at_call 62; refine (cK _ _).mono ?_; rintro e w' ⟨rfl, rfl⟩)
    | (gi_at_call 61; refine cS.mono ?_; rintro e w' ⟨v, ss, rfl, hS, hrow, hnil, hb⟩))
  go_ret
  have hss : ss.Perm ks := hS.trans hp
  refine ⟨v, rfl, ?_, hnil.trans ⟨fun h => by subst h; exact List.nil_perm.1 hss, fun h => by subst h; exact List.perm_nil.1 hss⟩, ((Below.refl _ w).alloc (Nat.le_refl _) _).trans (hb.mono (by simp))⟩
  rw [← hss.length_eq, ← isort_of_perm hss]
  exact ownsRow_base_a hrow (by simp)
theorem sortsA (m : Nat) : AnyZI.SortsIn Tryz.prog Tryz.sortedA_ren Fence.wide m :=
  ⟨fun blk off cap ss W hH hblk hsz => callsIn_wide.2 (AnyM.slices_Sort_int Tryz.sortA blk off cap ss W hH hblk hsz),
   fun p cap W => callsIn_wide.2 (AnyM.slices_Sort_int_none Tryz.sortA p cap W)⟩
theorem sort_few : ∀ {ss : List Int}, ss.length ≤ 1 → ss.mergeSort (fun x y => decide (x ≤ y)) = isort ss
  | [], _ => by simp [isort]
  | [x], _ => by simp [isort, insI]
  | _ :: _ :: _, h => by simp at h
theorem rise_a : RiseC Tryz.prog 29 .i64 3 := by
  intro w b es ck ks hb hkeys hborn hnd hl hr
  obtain ⟨ls, hown, hperm⟩ := owns_mk (k := 3) Tryz.underlying3 hb hkeys hborn hnd (Nat.le_trans hl (by decide)) (fun n hn => wf_i64 (hr n hn))
  have hp := i64_perm hperm
  have hsz : Maps.size (DataW.map ls) ≤ 1 := by
    have := hperm.length_eq
    simp only [List.length_map] at this
    rw [Maps.size_eq, this]; exact hl
  clear hb hkeys hborn
  refine (callsIn_wide (n := 6)).1 ?_
  have hbl := hown.lt
  have hseq : SeqGives Fence.wide 2 Tryz.prog 107 #[.pointer (some ⟨w.heap.size, 0, none⟩)] encZ (fun ss => ss.Perm (intKeys (DataW.map ls))) (Maps.size (DataW.map ls)) (w.alloc (.cells #[.map (some b)] 78)) :=
    AnyZI.keys_gives (ρ := Tryz.keysA_ren) { Tryz.keysA with } Fence.wide _ trivial rfl (by omega) w.heap.size b 12 _ _ (by simp) (by simp) (by
      obtain ⟨es, clock, hb, Ft, hs, hD⟩ := hown
      exact ⟨es, clock, (Below.heap_alloc _ _ b hbl).trans hb, Ft, hs, hD⟩)
  have cK : ∀ mb W, CallsIn Fence.wide 5 Tryz.prog 60 #[.map mb] W fun e w' => e = .returned (.func (.func 107) #[] #[.pointer (some ⟨W.heap.size, 0, none⟩)]) ∧ w' = W.alloc (.cells #[.map mb] 78) := fun mb W => AnyZI.keys_in Tryz.keysA Fence.wide 5 trivial rfl mb W
  have cS := AnyZI.sorted_in Tryz.sortedA Fence.wide 5 trivial trivial trivial trivial rfl (by omega) (sortsA _) (enters_of Tryz.func106 (by kernel_rfl) rfl) 107 #[.pointer (some ⟨w.heap.size, 0, none⟩)] trivial (enters_of Tryz.func107 (by kernel_rfl) rfl) _ _ (by unfold maxLen; omega) (by omega) _ hseq
  change CallsIn _ _ Tryz.prog 59 _ _ _ at cS
  have hfK : Fence.wide.fn 60 := trivial
  have hfS : Fence.wide.fn 59 := trivial
  clear hseq hsz
  refine callsIn_of_wp Tryz.func29 rfl trivial ?_ rfl
  simp only [Tryz.ntmps29, List.size_toArray, List.length_cons, List.length_nil, Nat.reduceAdd, Nat.reduceSub, Array.replicate_succ, Array.replicate_zero, List.push_toArray, List.append_toArray, List.nil_append, List.cons_append]
  gi_wp2_with (first
    | (gi_at_call 60; refine (cK _ _).mono ?_; rintro e w' ⟨rfl, rfl⟩)
    | (gi_at_call 59; refine cS.mono ?_; rintro e w' ⟨v, ss, rfl, hS, hrow, hnil, hb⟩))
  go_ret
  have hss : ss.Perm ks := hS.trans hp
  refine ⟨v, rfl, ?_, hnil.trans ⟨fun h => by subst h; exact List.nil_perm.1 hss, fun h => by subst h; exact List.perm_nil.1 hss⟩, ((Below.refl _ w).alloc (Nat.le_refl _) _).trans (hb.mono (by simp))⟩
  rw [← hss.length_eq, ← isort_of_perm hss, ← sort_few (by rw [hss.length_eq]; exact hl)]
  exact ownsRow_base_a hrow (by simp)
theorem rise_c : RiseC Tryz.prog 31 .i64 3 := by
  intro w b es ck ks hb hkeys hborn hnd hl hr
  obtain ⟨ls, hown, hperm⟩ := owns_mk (k := 3) Tryz.underlying3 hb hkeys hborn hnd (Nat.le_trans hl (by decide)) (fun n hn => wf_i64 (hr n hn))
  have hp := i64_perm hperm
  have hsz : Maps.size (DataW.map ls) ≤ 1 := by
    have := hperm.length_eq
    simp only [List.length_map] at this
    rw [Maps.size_eq, this]; exact hl
  clear hb hkeys hborn
  refine (callsIn_wide (n := 6)).1 ?_
  have hbl := hown.lt
  have hseq : SeqGives Fence.wide 2 Tryz.prog 111 #[.pointer (some ⟨w.heap.size, 0, none⟩)] encZ (fun ss => ss.Perm (intKeys (DataW.map ls))) (Maps.size (DataW.map ls)) (w.alloc (.cells #[.map (some b)] 79)) :=
    AnyZI.keys_gives (ρ := Tryz.keysC_ren) { Tryz.keysC with } Fence.wide _ trivial rfl (by omega) w.heap.size b 12 _ _ (by simp) (by simp) (by
      obtain ⟨es, clock, hb, Ft, hs, hD⟩ := hown
      exact ⟨es, clock, (Below.heap_alloc _ _ b hbl).trans hb, Ft, hs, hD⟩)
  have cK : ∀ mb W, CallsIn Fence.wide 5 Tryz.prog 63 #[.map mb] W fun e w' => e = .returned (.func (.func 111) #[] #[.pointer (some ⟨W.heap.size, 0, none⟩)]) ∧ w' = W.alloc (.cells #[.map mb] 79) := fun mb W => AnyZI.keys_in Tryz.keysC Fence.wide 5 trivial rfl mb W
  have cS := AnyZI.sorted_in Tryz.sortedA Fence.wide 5 trivial trivial trivial trivial rfl (by omega) (sortsA _) (enters_of Tryz.func106 (by kernel_rfl) rfl) 111 #[.pointer (some ⟨w.heap.size, 0, none⟩)] trivial (enters_of Tryz.func111 (by kernel_rfl) rfl) _ _ (by unfold maxLen; omega) (by omega) _ hseq
  change CallsIn _ _ Tryz.prog 59 _ _ _ at cS
  have hfK : Fence.wide.fn 63 := trivial
  have hfS : Fence.wide.fn 59 := trivial
  clear hseq hsz
  refine callsIn_of_wp Tryz.func31 rfl trivial ?_ rfl
  simp only [Tryz.ntmps31, List.size_toArray, List.length_cons, List.length_nil, Nat.reduceAdd, Nat.reduceSub, Array.replicate_succ, Array.replicate_zero, List.push_toArray, List.append_toArray, List.nil_append, List.cons_append]
  gi_wp2_with (first
    | (gi_at_call 63; refine (cK _ _).mono ?_; rintro e w' ⟨rfl, rfl⟩)
    | (gi_at_call 59; refine cS.mono ?_; rintro e w' ⟨v, ss, rfl, hS, hrow, hnil, hb⟩))
  go_ret
  have hss : ss.Perm ks := hS.trans hp
  refine ⟨v, rfl, ?_, hnil.trans ⟨fun h => by subst h; exact List.nil_perm.1 hss, fun h => by subst h; exact List.perm_nil.1 hss⟩, ((Below.refl _ w).alloc (Nat.le_refl _) _).trans (hb.mono (by simp))⟩
  rw [← hss.length_eq, ← isort_of_perm hss, ← sort_few (by rw [hss.length_eq]; exact hl)]
  exact ownsRow_base_a hrow (by simp)
theorem rep_c : RepC Tryz.prog 89 := fun w s c hs hc => Tryz.strings_Repeat s c w (by omega) (by have := Nat.mul_le_mul hs hc; omega)
end Go.Proofs.YtmgpjhpeglkeeaaGreatDoor

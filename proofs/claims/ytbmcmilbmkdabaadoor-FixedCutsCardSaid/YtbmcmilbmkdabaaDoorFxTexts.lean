/- Fixed: the law of texts, walked. No condition. -/
import Derived.Test.YtbmcmilbmkdabaaDoorFxRtext
namespace Go.Proofs.YtbmcmilbmkdabaaDoor
open Go Go.RowKit Go.Wk Go.Sort Go.Lib
set_option maxHeartbeats 1000000 in
theorem texts_law (n : Int) (h : i64 n) (whole : Bool) (w : World) (htab : Tab w)
    (haw : Calls Tryd.prog 11 #[] w fun e w' => e = .returned (.bool true) ∧ Below w.heap.size w w') :
    Calls Tryd.prog 4 #[.int .i64 n, .bool whole] w fun e w' => e = .returned (.bool true) ∧ Below w.heap.size w w' := by
  have c1 : ∀ w, Tab w → Calls Tryd.prog 14 #[.int .i64 n, .bool whole] w fun e w' => e = .returned (str (textL n whole)) ∧ Below w.heap.size w w' := by
    intro w ht
    cases whole with
    | true => exact fixed_Text_whole n h w ht
    | false => exact fixed_Text n h w ht
  have c2 := fun w => ref_Text n h whole w
  generalize textL n whole = S at *
  unfold str at c1 c2
  generalize (⟨S.toArray⟩ : ByteArray) = B at *
  replace htab := Lib.hid htab
  replace c1 := Lib.hid c1
  have c3 := fun w => fixed_In n w
  have c4 := fun w => ref_In n w
  generalize isIn n = I at *
  go_enter Tryd.func4, Tryd.ntmps4
  go_wp2_with (first
    | (go_at_call 11; (with_reducible refine haw.mono ?_); rintro e w1 ⟨rfl, hw1⟩; have k1 := c1.out _ (htab.out.below hw1))
    | (go_at_call 14; (with_reducible refine k1.mono ?_); rintro e w2 ⟨rfl, hw2⟩)
    | (go_at_call 15; (with_reducible refine (c2 _).mono ?_); rintro e w3 ⟨rfl, hw3⟩)
    | (go_at_call 16; (with_reducible refine (c3 _).mono ?_); rintro e w4 ⟨rfl, rfl⟩)
    | (go_at_call 17; (with_reducible refine (c4 _).mono ?_); rintro e w4 ⟨rfl, rfl⟩))
  go_ret
  exact ⟨rfl, bthen (bthen hw1 hw2) hw3⟩
theorem laid_tail {P : Program} {w : World} {x : String × DataW Unit} {l : List (String × DataW Unit)} (h : laidMet P (x :: l) w) : laidMet P l w := by
  obtain ⟨ps, ⟨g, t, cs, fuel, p, q, _, _, _, _, hq, hp⟩, hnd, hc⟩ := h
  subst hp
  exact ⟨q, hq, (List.nodup_append.1 hnd).2.1, fun b off h => hc b off (List.mem_append_right _ h)⟩
theorem tab_of {W : World} {a b : String × DataW Unit} {rest : List (String × DataW Unit)} (h : laidMet Tryd.prog (a :: b :: ("internal/strconv.uint64pow10", Rows.laid_internal_strconv_uint64pow10) :: rest) W) : Tab W := by
  have h3 := laid_tail (laid_tail h)
  have e : (Rows.laid_internal_strconv_uint64pow10 : DataW Unit) = Lib.tabData .u64 Lib.pow10Tab := by kernel_rfl
  rw [e] at h3
  exact Lib.tabIs_of_head (g := 2) (t := 89) (e := 54) (n := 20) (by kernel_rfl) (by kernel_rfl) Tryd.underlying89 Tryd.underlying54 (by kernel_rfl) (by kernel_rfl) h3
end Go.Proofs.YtbmcmilbmkdabaaDoor

/- Sums: the contract of Copy. No condition. -/
import Derived.Test.YtdeomolfbfplpaaSumsW
import Derived.Test.YtdeomolfbfplpaaRegLin
namespace Go.Proofs.Ytdeomolfbfplpaa.sumsOne
open Go Go.Wk Go.RowKit Go.Proofs.Ytdeomolfbfplpaa
set_option maxHeartbeats 1000000 in
theorem ref_copy (A : Option Addr) (c : Nat) (bs : List UInt8) (w : World) (hl : bs.length ≤ 2000) (h : Byt w A bs) :
    Calls Try.prog 11 #[.slice A bs.length c] w fun e w' => ∃ v, e = .returned v ∧ w'.ownsRow w.heap.size 5 1 v bs.length (valsB bs) ∧ Below w.heap.size w w' := by
  obtain ⟨i0, hi, hz0, hz1, hz2⟩ := byte_info
  go_enter Try.func11, Try.ntmps11
  go_wp2
  go_loopw [3, 4] (fun v i wr => ∃ k : Nat, k ≤ bs.length ∧ i = .int .i64 k ∧ wr.ownsRow w.heap.size 5 1 v k (valsB (bs.take k)) ∧ Below w.heap.size w wr) (fun _ i _ => bs.length - (intOf i).toNat)
  case atStart => exact ⟨0, Nat.zero_le _, rfl, ⟨by simp [valsB], .inl ⟨rfl, rfl⟩⟩, Below.refl _ _⟩
  case round =>
    obtain ⟨k, hk, rfl, hown, hb⟩ := hrel
    by_cases hlt : k < bs.length
    · obtain ⟨b, o, rfl, hc⟩ := (h.below hb).2 (by omega)
      have hck := hc k hlt
      have hsz := hb.size
      have HF : valsB (bs.take (k + 1)) = valsB (bs.take k) ++ [.int .u8 (bs[k].toNat : Int)] := by rw [List.take_succ_eq_append_getElem hlt, valsB_app]; rfl
      clear hc
      generalize bs[k] = u at *
      go_wp2_with (at_builtin; refine wpList_append_own _ rfl _ _ 25 rfl w.heap.size 5 i0 (.int .u8 0) 1 1 Try.underlying25 hi hz0 hz1 hz2 rfl (by decide) _ _ _ rfl (hown.alloc _) ⟨wr.heap.size, 0, none⟩ 1 1 [.int .u8 (u.toNat : Int)] rfl rfl ?c1 ?c2 ?c3 ?c4 ?c5 ?_)
      case c1 =>
        intro j u' hj
        match j, hj with
        | 0, hj => simp at hj; subst hj; simp [Addr.add]
      case c2 => intro u' hu; simp at hu; subst hu; rfl
      case c3 => unfold maxLen; omega
      case c4 => omega
      case c5 => simp; omega
      intro v2 w2 hown2 hgrow2 _
      have hb1 : Below w.heap.size w (wr.alloc (Obj.cells #[Value.int IntKind.u8 ↑u.toNat] 5)) := hb.alloc (by omega) _
      have hb2 := hb1.grown hgrow2 (by simp; omega) (fun j hj => (hown.lt j hj).1)
      clear hgrow2 hb1 hown hck h
      go_wp2
      go_roundw
      case rel => exact ⟨k + 1, by omega, by go_num, by rw [HF]; exact hown2, hb2⟩
      case measure => simp [intOf]; omega
    · have hk' : k = bs.length := by omega
      subst hk'
      rw [List.take_length] at hown
      go_wp2
      go_ret
      exact ⟨_, rfl, hown, hb⟩
end Go.Proofs.Ytdeomolfbfplpaa.sumsOne

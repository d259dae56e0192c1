/- The next sign of a text; the function that is ranged over. No condition. -/
import Derived.Test.YtgomlebemefdcaaDoorXeSign
import Derived.Test.YtgomlebemefdcaaDoorXeShelf2
set_option linter.unusedVariables false
namespace Go.Proofs.YtgomlebemefdcaaDoor
open Go Go.RowKit Go.Wk Go.Xt
attribute [local go_sem] Oper.semAt_some
def nextOk (l : List UInt8) : Bool := signV ((Lib.decodeL l).1 : Int) && (decide ((Lib.decodeL l).1 ≠ 65533) || decide (1 < (Lib.decodeL l).2))
theorem decode_str (l : List UInt8) (h : l ≠ []) : Lib.decodeGo ⟨l.toArray⟩ = Lib.decodeL l := by
  unfold Lib.decodeGo
  rw [if_neg]
  · rfl
  · intro e
    apply h
    have : l.length = 0 := by simpa [ByteArray.size] using e
    exact List.eq_nil_of_length_eq_zero this
set_option maxHeartbeats 1000000 in
set_option maxRecDepth 100000 in
theorem xml_next {w : World} (l : List UInt8) (h : l ≠ []) (hT : Lib.Utf8Tabs 0 1 w) :
    Calls Tryd.prog 31 #[str l] w fun e w' => e = .returned (.tuple #[.int .i32 ((Lib.decodeL l).1 : Int), .int .i64 ((Lib.decodeL l).2 : Int), .bool (nextOk l)]) ∧ Below w.heap.size w w' := by
  have hd : Calls Tryd.prog 22 #[str l] w fun e w' => e = .returned (.tuple #[.int .i32 (Lib.decodeGo ⟨l.toArray⟩).1, .int .i64 (Lib.decodeGo ⟨l.toArray⟩).2]) ∧ Below w.heap.size w w' := Tryd.utf8_DecodeRuneInString ⟨l.toArray⟩ w hT
  rw [decode_str l h] at hd
  have hk : nextOk l = (signV ((Lib.decodeL l).1 : Int) && (decide ((Lib.decodeL l).1 ≠ 65533) || decide (1 < (Lib.decodeL l).2))) := rfl
  generalize nextOk l = K at *
  generalize (Lib.decodeL l).1 = c at *
  generalize (Lib.decodeL l).2 = n at *
  have cs := fun (w : World) => xml_sign (w := w) (c : Int)
  generalize signV (c : Int) = S at *
  replace hk := Lib.hid hk
  clear hT
  go_enter Tryd.func31, Tryd.ntmps31
  go_wp2_with (first
    | (go_at_call 22; (with_reducible refine hd.mono ?_); rintro e w1 ⟨rfl, hb⟩; replace hb := Lib.hid hb)
    | (go_at_call 43; (with_reducible refine (cs _).mono ?_); rintro e w2 ⟨rfl, rfl⟩))
  · have hc : (c : Int) = 65533 := by assumption
    have hS : S = true := by assumption
    go_ret3
    refine ⟨?_, hb.out⟩
    rw [hk.out, hS, hc, show (decide (c ≠ 65533)) = false by simp; omega]
    simp; omega
  · have hc : ¬ (c : Int) = 65533 := by assumption
    have hS : S = true := by assumption
    go_ret3
    refine ⟨?_, hb.out⟩
    rw [hk.out, hS, show (decide (c ≠ 65533)) = true by simp; omega]
    simp
  · have hS : ¬ S = true := by assumption
    go_ret3
    refine ⟨?_, hb.out⟩
    rw [hk.out, show S = false by simpa using hS]
    simp
/-- the signs of a text, and whether each is one -/
def partsS (l : List UInt8) : List (List UInt8 × Bool) := if h : l = [] then [] else (l.take (Lib.decodeL l).2, nextOk l) :: partsS (l.drop (Lib.decodeL l).2)
termination_by l.length
decreasing_by
  have := Lib.decodeL_width l
  have : 0 < l.length := List.length_pos_iff.2 h
  simp; omega
theorem partsS_nil : partsS [] = [] := by rw [partsS]; simp
theorem partsS_cons (l : List UInt8) (h : l ≠ []) : partsS l = (l.take (Lib.decodeL l).2, nextOk l) :: partsS (l.drop (Lib.decodeL l).2) := by rw [partsS]; simp [h]
def encP (x : List UInt8 × Bool) : Array Value := #[str x.1, .bool x.2]
def boxLen (b : Nat) (w : World) : Nat := match w.cell? ⟨b, 0, none⟩ with
  | some (.string s) => s.size
  | _ => 0
theorem boxLen_of {b : Nat} {w : World} {l : List UInt8} (h : Blk w b 9 #[str l]) : boxLen b w = l.length := by
  unfold boxLen
  rw [h.cell 0]
  show ByteArray.size ⟨l.toArray⟩ = _
  simp [ByteArray.size]
theorem tabs_kept {u w : World} (h : Lib.Utf8Tabs 0 1 u) (h0 : w.heap[0]? = u.heap[0]?) (h1 : w.heap[1]? = u.heap[1]?) : Lib.Utf8Tabs 0 1 w := by
  have e0 : ∀ c, w.cell? ⟨0, c, none⟩ = u.cell? ⟨0, c, none⟩ := fun c => World.cell?_of_block h0
  have e1 : ∀ c, w.cell? ⟨1, c, none⟩ = u.cell? ⟨1, c, none⟩ := fun c => World.cell?_of_block h1
  exact ⟨fun c hc => (e0 c).trans (h.1 c hc), fun i hi => ⟨(e1 _).trans (h.2 i hi).1, (e1 _).trans (h.2 i hi).2⟩⟩
set_option maxHeartbeats 2000000 in
set_option maxRecDepth 100000 in
theorem signs_stops {w0 : World} {b : Nat} (l : List UInt8) (hl : l.length ≤ 100000) (hb2 : 2 ≤ b) (hbox : Blk w0 b 9 #[str l]) (hT : Lib.Utf8Tabs 0 1 w0) :
    SeqB Tryd.prog 30 #[.pointer (some ⟨b, 0, none⟩)] 2 b encP (partsS l) w0 := by
  intro L J Jx W hk hJ hJx hY h0
  have hT0 : Lib.Utf8Tabs 0 1 W := tabs_kept hT (hk.low 0 (by omega)) (hk.low 1 (by omega))
  have hbx : Blk W b 9 #[str l] := hk.own.trans hbox
  refine callsIn_of_wp Tryd.func30 rfl trivial ?_ rfl
  simp only [Tryd.ntmps30, List.size_toArray, List.length_cons, List.length_nil, Nat.reduceAdd, Nat.reduceSub, Array.replicate_succ, Array.replicate_zero, List.push_toArray, List.append_toArray, List.nil_append, List.cons_append]
  gi_wp2
  gi_loopw [3] (fun _ wr => ∃ (pre : List (List UInt8 × Bool)) (r : List UInt8), partsS l = pre ++ partsS r ∧ r.length ≤ 100000 ∧ Blk wr b 9 #[str r] ∧ Lib.Utf8Tabs 0 1 wr ∧ J pre wr) (fun _ wr => boxLen b wr)
  case atStart => exact ⟨[], l, rfl, hl, hbx, hT0, h0⟩
  case round =>
    obtain ⟨pre, r, hpr, hrl, hbr, hTr, hJr⟩ := hrel
    have hcell0 := hbr.cell 0
    have hfz := hbr.frozen 0
    have hblt := hbr.lt
    have hml := Lib.hid (boxLen_of hbr)
    obtain ⟨S, hS⟩ : ∃ S : ByteArray, S = ⟨r.toArray⟩ := ⟨_, rfl⟩
    have hstr : str r = .string S := by rw [hS]; rfl
    have hsz : S.size = r.length := by rw [hS]; simp [ByteArray.size]
    have hcell : wr.cell? ⟨b, 0, none⟩ = some (.string S) := by rw [← hstr]; exact hcell0
    clear hcell0
    by_cases hne : r = []
    · have hs0 : S.size = 0 := by rw [hsz, hne]; rfl
      have HJ : J (partsS l) wr := by rw [hpr, hne, partsS_nil, List.append_nil]; exact hJr
      replace HJ := Lib.hid HJ
      clear hstr hsz hS hpr hJr hTr hbr hk hJ hJx hY h0 hne
      have hs1 : S.size ≤ 0 := by omega
      clear hs0
      gi_wp2
      go_end0
      exact ⟨⟨_, rfl⟩, .inl HJ.out⟩
    · have hpos : 0 < r.length := List.length_pos_iff.2 hne
      have hw1 := Lib.decodeL_width r
      have hw2 := Lib.decodeL_le r hne
      have cn := xml_next (w := wr) r hne hTr
      rw [hstr] at cn
      have hpc := partsS_cons r hne
      rw [hpc] at hpr
      have hpre : pre ++ [(r.take (Lib.decodeL r).2, nextOk r)] <+: partsS l := ⟨partsS (r.drop (Lib.decodeL r).2), by rw [hpr]; simp⟩
      have hpr2 : partsS l = (pre ++ [(r.take (Lib.decodeL r).2, nextOk r)]) ++ partsS (r.drop (Lib.decodeL r).2) := by rw [hpr]; simp
      have e1 : ∀ n, str (r.take n) = .string (S.extract 0 n) := fun n => by
        show Value.string _ = _
        congr 1
        apply bytes_ext
        rw [bytes_cut, hS]; simp
      have e2 : ∀ n, n ≤ r.length → str (r.drop n) = .string (S.extract n S.size) := fun n hn => by
        show Value.string _ = _
        congr 1
        apply bytes_ext
        rw [bytes_cut, hS]; simp [ByteArray.size]
      have e2 := e2 _ hw2
      have hd : (r.drop (Lib.decodeL r).2).length < r.length := by simp; omega
      have e1 := e1 (Lib.decodeL r).2
      have hy := hY pre (r.take (Lib.decodeL r).2, nextOk r)
      have hyw : encP (r.take (Lib.decodeL r).2, nextOk r) = #[.string (S.extract 0 (Lib.decodeL r).2), .bool (nextOk r)] := by unfold encP; rw [e1]
      rw [hyw] at hy
      clear hyw hY e1 hpc hpr
      generalize (Lib.decodeL r).1 = c at *
      generalize (Lib.decodeL r).2 = n at *
      generalize nextOk r = K at *
      generalize (r.take n, K) = X at *
      generalize r.drop n = r2 at *
      have hzs : 0 < S.size := by omega
      have hns : n ≤ S.size := by omega
      have hss : S.size ≤ 100000 := by omega
      have hml2 : Hid (boxLen b wr = r.length) := hml
      replace hsz := Lib.hid hsz
      replace e2 := Lib.hid e2
      replace hpr2 := Lib.hid hpr2
      replace hJ := Lib.hid hJ
      replace hJx := Lib.hid hJx
      replace hy := Lib.hid hy
      replace hTr := Lib.hid hTr
      replace hbr := Lib.hid hbr
      clear hS hk h0 hne hml hT hT0 hbx hbox
      have hbS : Blk wr b 9 #[.string S] := by rw [← hstr]; exact hbr.out
      replace hbS := Lib.hid hbS
      clear hstr
      have f110 : Fence.wide.fn 31 := trivial
      gi_wp2_with (refine ⟨rfl, ?_⟩; gi_at_call 31; refine (callsIn_wide.2 cn).mono ?_; rintro e w1 ⟨rfl, hb1⟩; have hc1 := (hb1.cell (p := ⟨b, 0, none⟩) hblt).trans hcell; have hf1 := (hb1.frozen (p := ⟨b, 0, none⟩) hblt).trans hfz; obtain ⟨fn, tmps, assign, body, hyy, hR⟩ := hy.out w1 (hJ.out _ _ _ hJr (Wk.Save.of_below hb1)) hpre; replace hb1 := Lib.hid hb1)
      refine ⟨rfl, ?_⟩
      refine hR.mono ?_
      rintro e W3 (⟨rfl, hJ3, hk3⟩ | ⟨rfl, hJx3⟩)
      · have hbr1 : Blk w1 b 9 #[.string S] := (hb1.out.block b hblt).trans hbS.out
        have hb3 : Blk W3 b 9 #[.string S] := hk3.own.trans hbr1
        have hc3 := hb3.cell 0
        have hf3 := hb3.frozen 0
        have HT3 := Lib.hid (tabs_kept (tabs_kept hTr.out (hb1.out.block 0 (by omega)) (hb1.out.block 1 (by omega))) (hk3.low 0 (by omega)) (hk3.low 1 (by omega)))
        have hc3 : W3.cell? ⟨b, 0, none⟩ = some (.string S) := hc3
        clear hR hyy hc1 hf1
        replace hJ3 := Lib.hid hJ3
        replace hk3 := Lib.hid hk3
        gi_wp2
        have hset : Blk (W3.setCell ⟨b, 0, none⟩ (.string (S.extract n S.size))) b 9 #[str r2] := by
          rw [e2.out]; exact hb3.set_ 0 _
        go_roundw
        case rel =>
          refine ⟨_, r2, hpr2.out, by omega, hset, ?_, hJ.out _ _ _ hJ3.out ((Wk.Save.refl b W3).store 0 _)⟩
          exact tabs_kept HT3.out (Below.heap_setCell _ _ _ _ (by show 0 ≠ b; omega)) (Below.heap_setCell _ _ _ _ (by show 1 ≠ b; omega))
        case measure => rw [boxLen_of hset, hml2.out]; exact hd
      · gi_wp2
        refine bodyPost_ret (results_none rfl _ _ _) rfl ?_
        exact ⟨⟨_, rfl⟩, .inr ⟨_, hpre, hJx3⟩⟩
end Go.Proofs.YtgomlebemefdcaaDoor

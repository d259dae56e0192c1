/- The reader reads a content. No condition. -/
import Derived.Test.YtgomlebemefdcaaDoorXeKids
set_option linter.unusedVariables false
namespace Go.Proofs.YtgomlebemefdcaaDoor
open Go Go.RowKit Go.Wk Go.Xt Go.Xe
def ElemR (w : World) (L R : Nat) (A : Option Addr) (c : Nat) (bs : List UInt8) (n : Nd) (m2 : Nat) (r' : List UInt8) (e : Ending) (w' : World) : Prop :=
  ∃ (N : ByteArray) (a1 : Option Addr) (n1 c1 : Nat) (a2 : Option Addr) (n2 c2 : Nat) (bl : List Nat), e = .returned (.tuple #[.agg #[.string ⟨#[]⟩, .string N, .string ⟨#[]⟩, .slice a1 n1 c1, .slice a2 n2 c2], .int .i64 0]) ∧
    NdAt w' n [.string ⟨#[]⟩, .string N, .string ⟨#[]⟩, .slice a1 n1 c1, .slice a2 n2 c2] bl ∧ (∀ k ∈ bl, w.heap.size ≤ k ∧ k < w'.heap.size) ∧ End w L R A c bs m2 r' w'
def ElemC (L R : Nat) (A : Option Addr) (c : Nat) (bs : List UInt8) (d : Nat) : Prop :=
  ∀ w p m r n m2 r', RS w L R A c bs p m → Rest bs p r → Elem d m r n m2 r' → Calls Tryd.prog 40 #[.pointer (some ⟨R, 0, none⟩), .int .i64 (d : Int)] w (ElemR w L R A c bs n m2 r')
def ContR (w : World) (L R : Nat) (A : Option Addr) (c : Nat) (bs : List UInt8) (ks : List Nd) (m2 : Nat) (r' : List UInt8) (e : Ending) (w' : World) : Prop :=
  ∃ (a : Option Addr) (n cp : Nat) (bk : List Nat), e = .returned (.tuple #[.slice a n cp, .int .i64 0]) ∧ KsAt w' ks (.slice a n cp) bk ∧ (∀ k ∈ bk, w.heap.size ≤ k ∧ k < w'.heap.size) ∧ End w L R A c bs m2 r' w'
def ContL (w : World) (L R : Nat) (A : Option Addr) (c : Nat) (bs : List UInt8) (d : Nat) (ks : List Nd) (m2 : Nat) (r' : List UInt8) (s6 s7 : Value) (wr : World) : Prop :=
  ∃ (q m1 : Nat) (r1 t1 : List UInt8) (done rest : List Nd) (vs : List Value) (b : List Nat), Rest bs q r1 ∧ Cont (d + 1) m1 t1 r1 rest m2 r' ∧ done ++ rest = ks ∧ s7 = .string ⟨t1.toArray⟩ ∧ Kids w.heap.size wr s6 done vs b ∧ done.length + t1.length + r1.length ≤ bs.length ∧
    RS wr L R A c bs q m1 ∧ Fr L R w wr
theorem slice_of {w : World} {B e s n : Nat} {v : Value} {xs : List Value} (h : w.ownsRow B e s v n xs) : ∃ a c, v = .slice a n c := by
  rcases h.2 with ⟨rfl, rfl⟩ | ⟨g, cap, cur, rfl, _⟩
  · exact ⟨none, 0, rfl⟩
  · exact ⟨_, _, rfl⟩
set_option maxHeartbeats 4000000 in
set_option maxRecDepth 100000 in
theorem xml_content {w : World} {L R c p m m2 d : Nat} {A : Option Addr} {bs r r' : List UInt8} {ks : List Nd} (hd : d ≤ 1000) (hE : ElemC L R A c bs d) (h : RS w L R A c bs p m) (hr : Rest bs p r) (hC : Cont (d + 1) m [] r ks m2 r') :
    Calls Tryd.prog 52 #[.pointer (some ⟨R, 0, none⟩), .int .i64 ((d : Int) + 1)] w (ContR w L R A c bs ks m2 r') := by
  have hLB := h.cur.L_lt
  have hRB := h.rdr.lt
  have hsm := h.cur.small
  have hAB := Lib.hid h.A_lt
  have hlr := hr.len
  replace hE := Lib.hid hE
  replace h := Lib.hid h
  replace hr := Lib.hid hr
  replace hC := Lib.hid hC
  obtain ⟨i0, hi0, hz0, hz1, hz2⟩ := node_info
  go_enter Tryd.func52, Tryd.ntmps52
  go_wp2
  go_loopw [6, 7] (fun s6 s7 wr => ContL w L R A c bs d ks m2 r' s6 s7 wr) (fun _ _ wr => bs.length + 1 - posOf L wr)
  case atStart => exact ⟨p, m, r, [], [], ks, [], [], hr.out, hC.out, rfl, rfl, Kids.nil _ _, by simp; omega, h.out, Fr.refl _ _ _⟩
  case round =>
    obtain ⟨q, m1, r1, t1, done, rest, vs, b, hq, hC1, hks, rfl, hK, hlen, hS, hF⟩ := hrel
    have hpos := Lib.hid hS.pos
    have hFz := hF.size
    have hql := hq.len
    clear h hr hC hlr
    obtain ⟨T, hT⟩ : ∃ T : ByteArray, (⟨t1.toArray⟩ : ByteArray) = T := ⟨_, rfl⟩
    rw [hT]
    have hTz : T.size = t1.length := by rw [← hT]; simp [ByteArray.size]
    have hTl : T.data.toList = t1 := by rw [← hT]
    cases hC1 with
    | skip _ _ _ _ _ o r2 r3 _ _ hTx hM hC2 =>
      have hol := txt_len hTx
      have hml := misc_len hM
      obtain ⟨O, hO⟩ : ∃ O : ByteArray, (⟨o.toArray⟩ : ByteArray) = O := ⟨_, rfl⟩
      have hOz : O.size = o.length := by rw [← hO]; simp [ByteArray.size]
      have hTO : Hid ((⟨(t1 ++ o).toArray⟩ : ByteArray) = T ++ O) := Lib.hid (by rw [← hT, ← hO]; apply bytes_ext; simp)
      have ct : Calls Tryd.prog 63 #[.pointer (some ⟨R, 0, none⟩), .int .i64 (-1)] wr fun e w' => e = .returned (.tuple #[.string ⟨o.toArray⟩, .int .i64 0]) ∧ End wr L R A c bs m1 r2 w' := xml_text (-1) (by omega) hS hq hTx
      have cm := fun w1 q1 (h1 : RS w1 L R A c bs q1 m1) (hq1 : Rest bs q1 r2) => xml_misc h1 hq1 hM
      rw [hO] at ct
      have s1 : T.size ≤ 100000 := by omega
      have s2 : O.size ≤ 100000 := by omega
      replace cm := Lib.hid cm
      replace hTz := Lib.hid hTz
      replace hOz := Lib.hid hOz
      replace hT := Lib.hid hT
      replace hO := Lib.hid hO
      replace hTl := Lib.hid hTl
      replace hK := Lib.hid hK
      replace hS := Lib.hid hS
      replace hF := Lib.hid hF
      replace hC2 := Lib.hid hC2
      replace hks := Lib.hid hks
      replace hlen := Lib.hid hlen
      replace hol := Lib.hid hol
      replace hml := Lib.hid hml
      replace hql := Lib.hid hql
      clear hM hTx hq
      go_wp2_with (first
        | (go_at_call 63; (with_reducible refine ct.mono ?_); rintro e w1 ⟨rfl, ⟨⟨q1, h1, hq1⟩, f1⟩⟩; have k2 := cm.out w1 q1 h1 hq1; replace f1 := Lib.hid f1; replace h1 := Lib.hid h1; replace hq1 := Lib.hid hq1)
        | (go_at_call 50; (with_reducible refine k2.mono ?_); rintro e w2 ⟨rfl, ⟨⟨q2, h2, hq2⟩, f2⟩⟩; replace f2 := Lib.hid f2; replace h2 := Lib.hid h2; replace hq2 := Lib.hid hq2))
      have F := f1.out.trans f2.out
      have l1 := hol.out
      have l2 := hml.out
      have l3 := hlen.out
      have l4 := hql.out
      have l5 := hq2.out.len
      go_roundw
      case rel => exact ⟨q2, m1, r3, t1 ++ o, done, rest, vs, b, hq2.out, hC2.out, hks.out, by rw [hTO.out], hK.out.fr F hLB hRB, by rw [List.length_append]; omega, h2.out, hF.out.trans F⟩
      case measure => rw [h2.out.pos, hpos.out]; omega
    | done _ _ _ _ o r2 r3 hTx hM hx3 =>
      have hol := txt_len hTx
      obtain ⟨O, hO⟩ : ∃ O : ByteArray, (⟨o.toArray⟩ : ByteArray) = O := ⟨_, rfl⟩
      have hOz : O.size = o.length := by rw [← hO]; simp [ByteArray.size]
      have ct : Calls Tryd.prog 63 #[.pointer (some ⟨R, 0, none⟩), .int .i64 (-1)] wr fun e w' => e = .returned (.tuple #[.string ⟨o.toArray⟩, .int .i64 0]) ∧ End wr L R A c bs m2 r2 w' := xml_text (-1) (by omega) hS hq hTx
      have cm := fun w1 q1 (h1 : RS w1 L R A c bs q1 m2) (hq1 : Rest bs q1 r2) => xml_misc h1 hq1 hM
      rw [hO] at ct
      have c54 : ∀ w2 q2, RS w2 L R A c bs q2 m2 → Rest bs q2 r2 → Calls Tryd.prog 54 #[.pointer (some ⟨L, 0, none⟩), .string ⟨#[60, 47]⟩] w2 fun e w' => e = .returned (.bool true) ∧ RS w' L R A c bs (q2 + 2) m2 ∧ Fr L R w2 w' := fun w2 q2 h2 hq2 => rs_yes h2 ⟨#[60, 47]⟩ r' (by decide) (by decide) (by rw [hq2.eq]; exact hx3)
      have hx4 : ∀ q2, Rest bs q2 r2 → Rest bs (q2 + 2) r' := fun q2 h => Rest.app (s := [60, 47]) (by rw [← hx3]; exact h)
      replace hx4 := Lib.hid hx4
      clear hx3
      by_cases hemp : t1 ++ o = []
      · rw [if_pos hemp, List.append_nil] at hks
        have e1 : t1 = [] := (List.append_eq_nil_iff.1 hemp).1
        have e2 : o = [] := (List.append_eq_nil_iff.1 hemp).2
        have eT : T = ⟨#[]⟩ := by rw [← hT, e1]
        have eO : O = ⟨#[]⟩ := by rw [← hO, e2]
        rw [eO] at ct
        rw [eT]
        obtain ⟨a6, cp6, rfl⟩ := slice_of hK.own
        have hee : ((⟨#[]⟩ : ByteArray) ++ ⟨#[]⟩).toList.isEmpty = true := by rw [ByteArray.toList_eq]; rfl
        clear eT eO
        replace cm := Lib.hid cm
        replace hTz := Lib.hid hTz
        replace hOz := Lib.hid hOz
        replace hT := Lib.hid hT
        replace hO := Lib.hid hO
        replace hTl := Lib.hid hTl
        replace hK := Lib.hid hK
        replace hS := Lib.hid hS
        replace hF := Lib.hid hF
        replace hks := Lib.hid hks
        replace hlen := Lib.hid hlen
        replace hol := Lib.hid hol
        replace hql := Lib.hid hql
        replace c54 := Lib.hid c54
        replace e1 := Lib.hid e1
        replace e2 := Lib.hid e2
        replace hemp := Lib.hid hemp
        clear hM hTx hq
        go_wp2_with (first
          | (go_at_call 63; (with_reducible refine ct.mono ?_); rintro e w1 ⟨rfl, ⟨⟨q1, h1, hq1⟩, f1⟩⟩; have k2 := cm.out w1 q1 h1 hq1; replace f1 := Lib.hid f1; replace h1 := Lib.hid h1; replace hq1 := Lib.hid hq1)
          | (go_at_call 50; (with_reducible refine k2.mono ?_); rintro e w2 ⟨rfl, ⟨⟨q2, h2, hq2⟩, f2⟩⟩; have c2 := h2.rdr.cell 0; have F := f1.out.trans f2; have K2 := hK.out.fr F hLB hRB; have k3 := c54.out w2 q2 h2 hq2; replace f2 := Lib.hid f2; replace h2 := Lib.hid h2; replace hq2 := Lib.hid hq2; replace F := Lib.hid F; replace K2 := Lib.hid K2)
          | (go_at_call 54; (with_reducible refine k3.mono ?_); rintro e w3 ⟨rfl, h3, f3⟩; replace f3 := Lib.hid f3; replace h3 := Lib.hid h3))
        go_ret2
        obtain ⟨bk, hks1, hbk⟩ := (K2.out.fr f3.out hLB hRB).ks
        exact ⟨_, _, _, bk, rfl, (by rw [← hks.out]; exact hks1), hbk, ⟨_, h3.out, hx4.out q2 hq2.out⟩, (hF.out.trans F.out).trans f3.out⟩
      · rw [if_neg hemp] at hks
        obtain ⟨TO, hTO⟩ : ∃ TO : ByteArray, T ++ O = TO := ⟨_, rfl⟩
        have hTO2 : (⟨(t1 ++ o).toArray⟩ : ByteArray) = TO := by rw [← hTO, ← hT, ← hO]; apply bytes_ext; simp
        have hN : ∀ w, NdAt w (.tx (t1 ++ o)) [.string ⟨#[]⟩, .string ⟨#[]⟩, .string TO, .slice none 0 0, .slice none 0 0] [] := fun w => by rw [← hTO2]; exact .tx _
        have s1 : T.size ≤ 100000 := by omega
        have s2 : O.size ≤ 100000 := by omega
        have hTl2 : ¬ TO.toList = [] := by rw [ByteArray.toList_eq, ← hTO2]; simpa using hemp
        have hTl3 : (TO.toList == []) = false := by simpa using hTl2
        have hTl4 : TO.toList.isEmpty = false := by simpa using hTl2
        replace hN := Lib.hid hN
        replace hTO2 := Lib.hid hTO2
        replace hemp := Lib.hid hemp
        replace cm := Lib.hid cm
        replace hTz := Lib.hid hTz
        replace hOz := Lib.hid hOz
        replace hT := Lib.hid hT
        replace hO := Lib.hid hO
        replace hTl := Lib.hid hTl
        replace hK := Lib.hid hK
        replace hS := Lib.hid hS
        replace hF := Lib.hid hF
        replace hks := Lib.hid hks
        replace hlen := Lib.hid hlen
        replace hol := Lib.hid hol
        replace hql := Lib.hid hql
        replace c54 := Lib.hid c54
        clear hM hTx hq
        go_wp2_with (first
          | (go_at_call 63; (with_reducible refine ct.mono ?_); rintro e w1 ⟨rfl, ⟨⟨q1, h1, hq1⟩, f1⟩⟩; have k2 := cm.out w1 q1 h1 hq1; replace f1 := Lib.hid f1; replace h1 := Lib.hid h1; replace hq1 := Lib.hid hq1)
          | (go_at_call 50; (with_reducible refine k2.mono ?_); rintro e w2 ⟨rfl, ⟨⟨q2, h2, hq2⟩, f2⟩⟩; have F := f1.out.trans f2; have K2 := hK.out.fr F hLB hRB; have hsz2 := F.size; have own2 := K2.own; have hND := hN.out w2; replace f2 := Lib.hid f2; replace h2 := Lib.hid h2; replace hq2 := Lib.hid hq2; replace F := Lib.hid F; replace K2 := Lib.hid K2; replace hND := Lib.hid hND)
          | (at_builtin; refine wpList_append_own_at _ rfl (.tmp 34) (.tmp 37) 25 rfl w.heap.size 27 i0 _ 5 96 Tryd.underlying25 hi0 hz0 hz1 hz2 rfl (by decide) _ _ _ rfl (own2.alloc _) ⟨w2.heap.size, 0, none⟩ 1 1 [.string ⟨#[]⟩, .string ⟨#[]⟩, .string TO, .slice none 0 0, .slice none 0 0] rfl rfl (five_new _ _ _ _ _ _ _) (five_one _ _ _ _ _ rfl rfl) (by have := hlen.out; unfold maxLen; omega) (by have := hlen.out; omega) (by simp; omega) ?_; intro v5 w5 hown5 hg5 _ hat5; have K5 := K2.out.add hND.out (by simp) (by simp) hown5 hg5 hat5; have B5 : Below w.heap.size w2 w5 := ((Below.refl w.heap.size w2).alloc (by omega) _).grown hg5 (by simp; omega) (fun j hj => (own2.lt j hj).1); have h5 := h2.out.belowB B5 hLB hRB hAB.out; have c5 := h5.rdr.cell 0; have k3 := c54.out w5 q2 h5 hq2.out; obtain ⟨a5, cp5, rfl⟩ := slice_of hown5; replace K5 := Lib.hid K5; replace B5 := Lib.hid B5; replace h5 := Lib.hid h5; replace hown5 := Lib.hid hown5; replace hg5 := Lib.hid hg5; replace hat5 := Lib.hid hat5)
          | (go_at_call 54; (with_reducible refine k3.mono ?_); rintro e w3 ⟨rfl, h3, f3⟩; replace f3 := Lib.hid f3; replace h3 := Lib.hid h3))
        go_ret2
        obtain ⟨bk, hks1, hbk⟩ := (K5.out.fr f3.out hLB hRB).ks
        exact ⟨_, _, _, bk, rfl, (by rw [← hks.out]; exact hks1), hbk, ⟨_, h3.out, hx4.out q2 hq2.out⟩, ((hF.out.trans F.out).tail B5.out).trans f3.out⟩
    | elem _ _ m3 _ _ _ o r2 r3 k ks2 _ hTx hM hx3 hEl hC2 =>
      have hol := txt_len hTx
      obtain ⟨O, hO⟩ : ∃ O : ByteArray, (⟨o.toArray⟩ : ByteArray) = O := ⟨_, rfl⟩
      have hOz : O.size = o.length := by rw [← hO]; simp [ByteArray.size]
      have ct : Calls Tryd.prog 63 #[.pointer (some ⟨R, 0, none⟩), .int .i64 (-1)] wr fun e w' => e = .returned (.tuple #[.string ⟨o.toArray⟩, .int .i64 0]) ∧ End wr L R A c bs m1 r2 w' := xml_text (-1) (by omega) hS hq hTx
      have cm := fun w1 q1 (h1 : RS w1 L R A c bs q1 m1) (hq1 : Rest bs q1 r2) => xml_misc h1 hq1 hM
      rw [hO] at ct
      have hlE := elem_len hEl
      have c54 : ∀ w2 q2, RS w2 L R A c bs q2 m1 → Rest bs q2 r2 → Calls Tryd.prog 54 #[.pointer (some ⟨L, 0, none⟩), .string ⟨#[60, 47]⟩] w2 fun e w' => e = .returned (.bool false) ∧ RS w' L R A c bs q2 m1 ∧ Fr L R w2 w' := fun w2 q2 h2 hq2 => rs_no h2 ⟨#[60, 47]⟩ (by decide) (by decide) (by rw [hq2.eq]; exact hx3)
      have cE := fun w3 q3 (h3 : RS w3 L R A c bs q3 m1) (hq3 : Rest bs q3 r2) => hE.out w3 q3 m1 r2 k m3 r3 h3 hq3 hEl
      replace cE := Lib.hid cE
      replace hC2 := Lib.hid hC2
      replace hlE := Lib.hid hlE
      clear hx3 hEl
      by_cases hemp : t1 ++ o = []
      · rw [if_pos hemp, List.nil_append] at hks
        have e1 : t1 = [] := (List.append_eq_nil_iff.1 hemp).1
        have e2 : o = [] := (List.append_eq_nil_iff.1 hemp).2
        have eT : T = ⟨#[]⟩ := by rw [← hT, e1]
        have eO : O = ⟨#[]⟩ := by rw [← hO, e2]
        have ezt : t1.length = 0 := by rw [e1]; rfl
        have ezo : o.length = 0 := by rw [e2]; rfl
        rw [eO] at ct
        rw [eT]
        obtain ⟨a6, cp6, rfl⟩ := slice_of hK.own
        have hee : ((⟨#[]⟩ : ByteArray) ++ ⟨#[]⟩).toList.isEmpty = true := by rw [ByteArray.toList_eq]; rfl
        clear eT eO
        replace cm := Lib.hid cm
        replace hTz := Lib.hid hTz
        replace hOz := Lib.hid hOz
        replace hT := Lib.hid hT
        replace hO := Lib.hid hO
        replace hTl := Lib.hid hTl
        replace hK := Lib.hid hK
        replace hS := Lib.hid hS
        replace hF := Lib.hid hF
        replace hks := Lib.hid hks
        replace hlen := Lib.hid hlen
        replace hol := Lib.hid hol
        replace hql := Lib.hid hql
        replace c54 := Lib.hid c54
        replace e1 := Lib.hid e1
        replace e2 := Lib.hid e2
        replace ezt := Lib.hid ezt
        replace ezo := Lib.hid ezo
        replace hemp := Lib.hid hemp
        clear hM hTx hq
        go_wp2_with (first
          | (go_at_call 63; (with_reducible refine ct.mono ?_); rintro e w1 ⟨rfl, ⟨⟨q1, h1, hq1⟩, f1⟩⟩; have k2 := cm.out w1 q1 h1 hq1; replace f1 := Lib.hid f1; replace h1 := Lib.hid h1; replace hq1 := Lib.hid hq1)
          | (go_at_call 50; (with_reducible refine k2.mono ?_); rintro e w2 ⟨rfl, ⟨⟨q2, h2, hq2⟩, f2⟩⟩; have c2 := h2.rdr.cell 0; have F := f1.out.trans f2; have K2 := hK.out.fr F hLB hRB; have k3 := c54.out w2 q2 h2 hq2; replace f2 := Lib.hid f2; replace h2 := Lib.hid h2; replace hq2 := Lib.hid hq2; replace F := Lib.hid F; replace K2 := Lib.hid K2)
          | (go_at_call 54; (with_reducible refine k3.mono ?_); rintro e w3 ⟨rfl, h3, f3⟩; have K3 := K2.out.fr f3 hLB hRB; have hv3 := K3.v_lt; have k4 := cE.out w3 q2 h3 hq2.out; replace f3 := Lib.hid f3; replace h3 := Lib.hid h3; replace K3 := Lib.hid K3; replace hv3 := Lib.hid hv3)
          | (go_at_call 40; (with_reducible refine k4.mono ?_); rintro e w6 ⟨N, a1, n1, c1, a2, n2, c2, bl, rfl, hnd, hbl, ⟨⟨q6, h6, hq6⟩, f6⟩⟩; have hba : Below w6.heap.size w6 (w6.alloc (.cells #[.string ⟨#[]⟩, .string N, .string ⟨#[]⟩, .slice a1 n1 c1, .slice a2 n2 c2] 27)) := (Below.refl _ _).alloc (Nat.le_refl _) _; have K6 := (K3.out.fr f6 hLB hRB).fr (Fr.of_below (L := L) (R := R) hba) hLB hRB; have own6 := K6.own; have hsz6 : w.heap.size ≤ w6.heap.size := Nat.le_trans ((hF.out.trans F.out).size) (Nat.le_trans f3.out.size f6.size); have hsz3 : w.heap.size ≤ w3.heap.size := Nat.le_trans ((hF.out.trans F.out).size) f3.out.size; have hnd6 := hnd.keep (fun j hj => hba.block j (hbl j hj).2); have h66 := h6.below hba; have hs61 : (w6.alloc (.cells #[.string ⟨#[]⟩, .string N, .string ⟨#[]⟩, .slice a1 n1 c1, .slice a2 n2 c2] 27)).heap.size = w6.heap.size + 1 := World.size_alloc _ _; replace f6 := Lib.hid f6; replace h6 := Lib.hid h6; replace hq6 := Lib.hid hq6; replace hnd := Lib.hid hnd; replace hbl := Lib.hid hbl; replace hba := Lib.hid hba; replace K6 := Lib.hid K6; replace hnd6 := Lib.hid hnd6; replace h66 := Lib.hid h66; replace hs61 := Lib.hid hs61)
          | (at_builtin; refine wpList_append_own_at _ rfl (.tmp 55) (.tmp 57) 25 rfl w.heap.size 27 i0 _ 5 96 Tryd.underlying25 hi0 hz0 hz1 hz2 rfl (by decide) _ _ _ rfl (own6.alloc _) ⟨w6.heap.size + 1, 0, none⟩ 1 1 [.string ⟨#[]⟩, .string N, .string ⟨#[]⟩, .slice a1 n1 c1, .slice a2 n2 c2] rfl rfl (by have := five_new (w6.alloc (.cells #[.string ⟨#[]⟩, .string N, .string ⟨#[]⟩, .slice a1 n1 c1, .slice a2 n2 c2] 27)) (.string ⟨#[]⟩) (.string N) (.string ⟨#[]⟩) (.slice a1 n1 c1) (.slice a2 n2 c2) 27; rw [hs61.out] at this; exact this) (five_one _ _ _ _ _ rfl rfl) (by have := hlen.out; have := hol.out; have := ezt.out; unfold maxLen; omega) (by have := hlen.out; have := hol.out; have := ezt.out; omega) (by simp; omega) ?_; intro v7 w7 hown7 hg7 _ hat7; have K7 := K6.out.add hnd6.out (fun j hj => ⟨Nat.le_trans hsz3 (hbl.out j hj).1, by rw [hs61.out]; have := (hbl.out j hj).2; omega⟩) (fun j hj e => by have := hv3.out j e; have := (hbl.out j hj).1; omega) hown7 hg7 hat7; have B7 : Below w.heap.size w6 w7 := (((Below.refl w.heap.size w6).alloc hsz6 _).alloc (by rw [hs61.out]; omega) _).grown hg7 (by simp; omega) (fun j hj => (own6.lt j hj).1); have h7 := h6.out.belowB B7 hLB hRB hAB.out; replace K7 := Lib.hid K7; replace B7 := Lib.hid B7; replace h7 := Lib.hid h7; replace hown7 := Lib.hid hown7; replace hg7 := Lib.hid hg7; replace hat7 := Lib.hid hat7))
        have l1 := hol.out
        have l3 := hlen.out
        have l4 := hql.out
        have l5 := hlE.out
        have l6 := hq6.out.len
        have l7 := ezt.out
        have l8 := ezo.out
        go_roundw
        case rel => exact ⟨q6, m3, r3, [], done ++ [k], ks2, _, _, hq6.out, hC2.out, by rw [← hks.out]; simp, rfl, K7.out, by simp; omega, h7.out, ((hF.out.trans F.out).trans (f3.out.trans f6.out)).tail B7.out⟩
        case measure => rw [h7.out.pos, hpos.out]; omega
      · rw [if_neg hemp] at hks
        have hpz : 0 < t1.length + o.length := by
          rw [← List.length_append]; exact List.length_pos_iff.2 hemp
        obtain ⟨TO, hTO⟩ : ∃ TO : ByteArray, T ++ O = TO := ⟨_, rfl⟩
        have hTO2 : (⟨(t1 ++ o).toArray⟩ : ByteArray) = TO := by rw [← hTO, ← hT, ← hO]; apply bytes_ext; simp
        have hN : ∀ w, NdAt w (.tx (t1 ++ o)) [.string ⟨#[]⟩, .string ⟨#[]⟩, .string TO, .slice none 0 0, .slice none 0 0] [] := fun w => by rw [← hTO2]; exact .tx _
        have s1 : T.size ≤ 100000 := by omega
        have s2 : O.size ≤ 100000 := by omega
        have hTl2 : ¬ TO.toList = [] := by rw [ByteArray.toList_eq, ← hTO2]; simpa using hemp
        have hTl3 : (TO.toList == []) = false := by simpa using hTl2
        have hTl4 : TO.toList.isEmpty = false := by simpa using hTl2
        replace hN := Lib.hid hN
        replace hTO2 := Lib.hid hTO2
        replace hemp := Lib.hid hemp
        replace hpz := Lib.hid hpz
        have hda : Hid ((done ++ [Nd.tx (t1 ++ o)]).length = done.length + 1) := Lib.hid (by simp)
        replace cm := Lib.hid cm
        replace hTz := Lib.hid hTz
        replace hOz := Lib.hid hOz
        replace hT := Lib.hid hT
        replace hO := Lib.hid hO
        replace hTl := Lib.hid hTl
        replace hK := Lib.hid hK
        replace hS := Lib.hid hS
        replace hF := Lib.hid hF
        replace hks := Lib.hid hks
        replace hlen := Lib.hid hlen
        replace hol := Lib.hid hol
        replace hql := Lib.hid hql
        replace c54 := Lib.hid c54
        clear hM hTx hq
        go_wp2_with (first
          | (go_at_call 63; (with_reducible refine ct.mono ?_); rintro e w1 ⟨rfl, ⟨⟨q1, h1, hq1⟩, f1⟩⟩; have k2 := cm.out w1 q1 h1 hq1; replace f1 := Lib.hid f1; replace h1 := Lib.hid h1; replace hq1 := Lib.hid hq1)
          | (go_at_call 50; (with_reducible refine k2.mono ?_); rintro e w2 ⟨rfl, ⟨⟨q2, h2, hq2⟩, f2⟩⟩; have F := f1.out.trans f2; have K2 := hK.out.fr F hLB hRB; have hsz2 := F.size; have own2 := K2.own; have hND := hN.out w2; replace f2 := Lib.hid f2; replace h2 := Lib.hid h2; replace hq2 := Lib.hid hq2; replace F := Lib.hid F; replace K2 := Lib.hid K2; replace hND := Lib.hid hND)
          | (at_builtin; refine wpList_append_own_at _ rfl (.tmp 34) (.tmp 37) 25 rfl w.heap.size 27 i0 _ 5 96 Tryd.underlying25 hi0 hz0 hz1 hz2 rfl (by decide) _ _ _ rfl (own2.alloc _) ⟨w2.heap.size, 0, none⟩ 1 1 [.string ⟨#[]⟩, .string ⟨#[]⟩, .string TO, .slice none 0 0, .slice none 0 0] rfl rfl (five_new _ _ _ _ _ _ _) (five_one _ _ _ _ _ rfl rfl) (by have := hlen.out; unfold maxLen; omega) (by have := hlen.out; omega) (by simp; omega) ?_; intro v5 w5 hown5 hg5 _ hat5; have K5 := K2.out.add hND.out (by simp) (by simp) hown5 hg5 hat5; have B5 : Below w.heap.size w2 w5 := ((Below.refl w.heap.size w2).alloc (by omega) _).grown hg5 (by simp; omega) (fun j hj => (own2.lt j hj).1); have h5 := h2.out.belowB B5 hLB hRB hAB.out; have c5 := h5.rdr.cell 0; have k3 := c54.out w5 q2 h5 hq2.out; obtain ⟨a5, cp5, rfl⟩ := slice_of hown5; replace K5 := Lib.hid K5; replace B5 := Lib.hid B5; replace h5 := Lib.hid h5; replace hown5 := Lib.hid hown5; replace hg5 := Lib.hid hg5; replace hat5 := Lib.hid hat5)
          | (go_at_call 54; (with_reducible refine k3.mono ?_); rintro e w3 ⟨rfl, h3, f3⟩; have K3 := K5.out.fr f3 hLB hRB; have hv3 := K3.v_lt; have k4 := cE.out w3 q2 h3 hq2.out; replace f3 := Lib.hid f3; replace h3 := Lib.hid h3; replace K3 := Lib.hid K3; replace hv3 := Lib.hid hv3)
          | (go_at_call 40; (with_reducible refine k4.mono ?_); rintro e w6 ⟨N, a1, n1, c1, a2, n2, c2, bl, rfl, hnd, hbl, ⟨⟨q6, h6, hq6⟩, f6⟩⟩; have hba : Below w6.heap.size w6 (w6.alloc (.cells #[.string ⟨#[]⟩, .string N, .string ⟨#[]⟩, .slice a1 n1 c1, .slice a2 n2 c2] 27)) := (Below.refl _ _).alloc (Nat.le_refl _) _; have K6 := (K3.out.fr f6 hLB hRB).fr (Fr.of_below (L := L) (R := R) hba) hLB hRB; have own6 := K6.own; have hsz6 : w.heap.size ≤ w6.heap.size := Nat.le_trans (Nat.le_trans (hF.out.trans F.out).size B5.out.size) (Nat.le_trans f3.out.size f6.size); have hsz3 : w.heap.size ≤ w3.heap.size := Nat.le_trans (Nat.le_trans (hF.out.trans F.out).size B5.out.size) f3.out.size; have hnd6 := hnd.keep (fun j hj => hba.block j (hbl j hj).2); have h66 := h6.below hba; have hs61 : (w6.alloc (.cells #[.string ⟨#[]⟩, .string N, .string ⟨#[]⟩, .slice a1 n1 c1, .slice a2 n2 c2] 27)).heap.size = w6.heap.size + 1 := World.size_alloc _ _; replace f6 := Lib.hid f6; replace h6 := Lib.hid h6; replace hq6 := Lib.hid hq6; replace hnd := Lib.hid hnd; replace hbl := Lib.hid hbl; replace hba := Lib.hid hba; replace K6 := Lib.hid K6; replace hnd6 := Lib.hid hnd6; replace h66 := Lib.hid h66; replace hs61 := Lib.hid hs61)
          | (at_builtin; refine wpList_append_own_at _ rfl (.tmp 55) (.tmp 57) 25 rfl w.heap.size 27 i0 _ 5 96 Tryd.underlying25 hi0 hz0 hz1 hz2 rfl (by decide) _ _ _ rfl (own6.alloc _) ⟨w6.heap.size + 1, 0, none⟩ 1 1 [.string ⟨#[]⟩, .string N, .string ⟨#[]⟩, .slice a1 n1 c1, .slice a2 n2 c2] rfl rfl (by have := five_new (w6.alloc (.cells #[.string ⟨#[]⟩, .string N, .string ⟨#[]⟩, .slice a1 n1 c1, .slice a2 n2 c2] 27)) (.string ⟨#[]⟩) (.string N) (.string ⟨#[]⟩) (.slice a1 n1 c1) (.slice a2 n2 c2) 27; rw [hs61.out] at this; exact this) (five_one _ _ _ _ _ rfl rfl) (by have := hlen.out; have := hol.out; have := hpz.out; have := hda.out; unfold maxLen; omega) (by have := hlen.out; have := hol.out; have := hpz.out; have := hda.out; omega) (by simp; omega) ?_; intro v7 w7 hown7 hg7 _ hat7; have K7 := K6.out.add hnd6.out (fun j hj => ⟨Nat.le_trans hsz3 (hbl.out j hj).1, by rw [hs61.out]; have := (hbl.out j hj).2; omega⟩) (fun j hj e => by have := hv3.out j e; have := (hbl.out j hj).1; omega) hown7 hg7 hat7; have B7 : Below w.heap.size w6 w7 := (((Below.refl w.heap.size w6).alloc hsz6 _).alloc (by rw [hs61.out]; omega) _).grown hg7 (by simp; omega) (fun j hj => (own6.lt j hj).1); have h7 := h6.out.belowB B7 hLB hRB hAB.out; replace K7 := Lib.hid K7; replace B7 := Lib.hid B7; replace h7 := Lib.hid h7; replace hown7 := Lib.hid hown7; replace hg7 := Lib.hid hg7; replace hat7 := Lib.hid hat7))
        have l1 := hol.out
        have l3 := hlen.out
        have l4 := hql.out
        have l5 := hlE.out
        have l6 := hq6.out.len
        have l7 := hpz.out
        go_roundw
        case rel => exact ⟨q6, m3, r3, [], (done ++ [.tx (t1 ++ o)]) ++ [k], ks2, _, _, hq6.out, hC2.out, by rw [← hks.out]; simp, rfl, K7.out, by simp; omega, h7.out, (((hF.out.trans F.out).tail B5.out).trans (f3.out.trans f6.out)).tail B7.out⟩
        case measure => rw [h7.out.pos, hpos.out]; omega
end Go.Proofs.YtgomlebemefdcaaDoor

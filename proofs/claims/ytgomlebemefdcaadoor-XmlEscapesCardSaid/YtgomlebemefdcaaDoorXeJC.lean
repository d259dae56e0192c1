/- Walks and laws, joined: part C. No condition. -/
import Derived.Test.YtgomlebemefdcaaDoorXeJB
import Derived.BigRegion
import Derived.Test.YtgomlebemefdcaaDoorXeJA
import Derived.RegionTactic
import Derived.Deep.DeepCutAuto
set_option linter.unusedSimpArgs false
set_option linter.unusedVariables false
/- The reader reads a content. No condition. -/
namespace Go.Proofs.YtgomlebemefdcaaDoor
open Go Go.RowKit Go.Wk Go.Xt Go.Xe
def ElemR (w : World) (L R : Nat) (A : Option Addr) (c : Nat) (bs : List UInt8) (n : Nd) (m2 : Nat) (r' : List UInt8) (e : Ending) (w' : World) : Prop :=
  ∃ (N : ByteArray) (a1 : Option Addr) (n1 c1 : Nat) (a2 : Option Addr) (n2 c2 : Nat) (bl : List Nat), e = .returned (.tuple #[.agg #[.string ⟨#[]⟩, .string N, .string ⟨#[]⟩, .slice a1 n1 c1, .slice a2 n2 c2], .int .i64 0]) ∧
    NdAt w' n [.string ⟨#[]⟩, .string N, .string ⟨#[]⟩, .slice a1 n1 c1, .slice a2 n2 c2] bl ∧ (∀ k ∈ bl, w.heap.size ≤ k ∧ k < w'.heap.size) ∧ End w L R A c bs m2 r' w'
def ElemC (L R : Nat) (A : Option Addr) (c : Nat) (bs : List UInt8) (d : Nat) : Prop :=
  ∀ w p m r n m2 r', RS w L R A c bs p m → Rest bs p r → Elem d m r n m2 r' → Calls Tryd.prog 40 #[.pointer (some ⟨R, 0, none⟩), .int .i64 (d : Int)] w (ElemR w L R A c bs n m2 r')
def ContR (w : World) (L R : Nat) (A : Option Addr) (c : Nat) (bs : List UInt8) (ks : List Nd) (m2 : Nat) (r' : List UInt8) (e : Ending) (w' : World) : Prop :=
  ∃ (a : Option Addr) (n cp : Nat) (bk : List Nat), e = .returned (.tuple #[.slice a n cp, .int .i64 0]) ∧ KsAt w' ks (.slice a n cp) bk ∧ (∀ k ∈ bk, w.heap.size ≤ k ∧ k < w'.heap.size) ∧ End w L R A c bs m2 r' w'
def ContL (w : World) (L R : Nat) (A : Option Addr) (c : Nat) (bs : List UInt8) (d : Nat) (ks : List Nd) (m2 : Nat) (r' : List UInt8) (s6 s7 : Value) (wr : World) : Prop :=
  ∃ (q m1 : Nat) (r1 t1 : List UInt8) (done rest : List Nd) (vs : List Value) (b : List Nat), Rest bs q r1 ∧ Cont (d + 1) m1 t1 r1 rest m2 r' ∧ done ++ rest = ks ∧ s7 = .string ⟨t1.toArray⟩ ∧ Kids w.heap.size wr s6 done vs b ∧ done.length + t1.length + r1.length ≤ bs.length ∧
    RS wr L R A c bs q m1 ∧ Fr L R w wr
theorem slice_of {w : World} {B e s n : Nat} {v : Value} {xs : List Value} (h : w.ownsRow B e s v n xs) : ∃ a c, v = .slice a n c := by
  rcases h.2 with ⟨rfl, rfl⟩ | ⟨g, cap, cur, rfl, _⟩
  · exact ⟨none, 0, rfl⟩
  · exact ⟨_, _, rfl⟩
set_option maxHeartbeats 4000000 in
set_option maxRecDepth 100000 in
theorem xml_content {w : World} {L R c p m m2 d : Nat} {A : Option Addr} {bs r r' : List UInt8} {ks : List Nd} (hd : d ≤ 1000) (hE : ElemC L R A c bs d) (h : RS w L R A c bs p m) (hr : Rest bs p r) (hC : Cont (d + 1) m [] r ks m2 r') :
    Calls Tryd.prog 52 #[.pointer (some ⟨R, 0, none⟩), .int .i64 ((d : Int) + 1)] w (ContR w L R A c bs ks m2 r') := by
  have hLB := h.cur.L_lt
  have hRB := h.rdr.lt
  have hsm := h.cur.small
  have hAB := Lib.hid h.A_lt
  have hlr := hr.len
  replace hE := Lib.hid hE
  replace h := Lib.hid h
  replace hr := Lib.hid hr
  replace hC := Lib.hid hC
  obtain ⟨i0, hi0, hz0, hz1, hz2⟩ := node_info
  go_enter Tryd.func52, Tryd.ntmps52
  go_wp2
  go_loopw [6, 7] (fun s6 s7 wr => ContL w L R A c bs d ks m2 r' s6 s7 wr) (fun _ _ wr => bs.length + 1 - posOf L wr)
  case atStart => exact ⟨p, m, r, [], [], ks, [], [], hr.out, hC.out, rfl, rfl, Kids.nil _ _, by simp; omega, h.out, Fr.refl _ _ _⟩
  case round =>
    obtain ⟨q, m1, r1, t1, done, rest, vs, b, hq, hC1, hks, rfl, hK, hlen, hS, hF⟩ := hrel
    have hpos := Lib.hid hS.pos
    have hFz := hF.size
    have hql := hq.len
    clear h hr hC hlr
    obtain ⟨T, hT⟩ : ∃ T : ByteArray, (⟨t1.toArray⟩ : ByteArray) = T := ⟨_, rfl⟩
    rw [hT]
    have hTz : T.size = t1.length := by rw [← hT]; simp [ByteArray.size]
    have hTl : T.data.toList = t1 := by rw [← hT]
    cases hC1 with
    | skip _ _ _ _ _ o r2 r3 _ _ hTx hM hC2 =>
      have hol := txt_len hTx
      have hml := misc_len hM
      obtain ⟨O, hO⟩ : ∃ O : ByteArray, (⟨o.toArray⟩ : ByteArray) = O := ⟨_, rfl⟩
      have hOz : O.size = o.length := by rw [← hO]; simp [ByteArray.size]
      have hTO : Hid ((⟨(t1 ++ o).toArray⟩ : ByteArray) = T ++ O) := Lib.hid (by rw [← hT, ← hO]; apply bytes_ext; simp)
      have ct : Calls Tryd.prog 63 #[.pointer (some ⟨R, 0, none⟩), .int .i64 (-1)] wr fun e w' => e = .returned (.tuple #[.string ⟨o.toArray⟩, .int .i64 0]) ∧ End wr L R A c bs m1 r2 w' := xml_text (-1) (by omega) hS hq hTx
      have cm := fun w1 q1 (h1 : RS w1 L R A c bs q1 m1) (hq1 : Rest bs q1 r2) => xml_misc h1 hq1 hM
      rw [hO] at ct
      have s1 : T.size ≤ 100000 := by omega
      have s2 : O.size ≤ 100000 := by omega
      replace cm := Lib.hid cm
      replace hTz := Lib.hid hTz
      replace hOz := Lib.hid hOz
      replace hT := Lib.hid hT
      replace hO := Lib.hid hO
      replace hTl := Lib.hid hTl
      replace hK := Lib.hid hK
      replace hS := Lib.hid hS
      replace hF := Lib.hid hF
      replace hC2 := Lib.hid hC2
      replace hks := Lib.hid hks
      replace hlen := Lib.hid hlen
      replace hol := Lib.hid hol
      replace hml := Lib.hid hml
      replace hql := Lib.hid hql
      clear hM hTx hq
      go_wp2_with (first
        | (go_at_call 63; (with_reducible refine ct.mono ?_); rintro e w1 ⟨rfl, ⟨⟨q1, h1, hq1⟩, f1⟩⟩; have k2 := cm.out w1 q1 h1 hq1; replace f1 := Lib.hid f1; replace h1 := Lib.hid h1; replace hq1 := Lib.hid hq1)
        | (go_at_call 50; (with_reducible refine k2.mono ?_); rintro e w2 ⟨rfl, ⟨⟨q2, h2, hq2⟩, f2⟩⟩; replace f2 := Lib.hid f2; replace h2 := Lib.hid h2; replace hq2 := Lib.hid hq2))
      have F := f1.out.trans f2.out
      have l1 := hol.out
      have l2 := hml.out
      have l3 := hlen.out
      have l4 := hql.out
      have l5 := hq2.out.len
      go_roundw
      case rel => exact ⟨q2, m1, r3, t1 ++ o, done, rest, vs, b, hq2.out, hC2.out, hks.out, by rw [hTO.out], hK.out.fr F hLB hRB, by rw [List.length_append]; omega, h2.out, hF.out.trans F⟩
      case measure => rw [h2.out.pos, hpos.out]; omega
    | done _ _ _ _ o r2 r3 hTx hM hx3 =>
      have hol := txt_len hTx
      obtain ⟨O, hO⟩ : ∃ O : ByteArray, (⟨o.toArray⟩ : ByteArray) = O := ⟨_, rfl⟩
      have hOz : O.size = o.length := by rw [← hO]; simp [ByteArray.size]
      have ct : Calls Tryd.prog 63 #[.pointer (some ⟨R, 0, none⟩), .int .i64 (-1)] wr fun e w' => e = .returned (.tuple #[.string ⟨o.toArray⟩, .int .i64 0]) ∧ End wr L R A c bs m2 r2 w' := xml_text (-1) (by omega) hS hq hTx
      have cm := fun w1 q1 (h1 : RS w1 L R A c bs q1 m2) (hq1 : Rest bs q1 r2) => xml_misc h1 hq1 hM
      rw [hO] at ct
      have c54 : ∀ w2 q2, RS w2 L R A c bs q2 m2 → Rest bs q2 r2 → Calls Tryd.prog 54 #[.pointer (some ⟨L, 0, none⟩), .string ⟨#[60, 47]⟩] w2 fun e w' => e = .returned (.bool true) ∧ RS w' L R A c bs (q2 + 2) m2 ∧ Fr L R w2 w' := fun w2 q2 h2 hq2 => rs_yes h2 ⟨#[60, 47]⟩ r' (by decide) (by decide) (by rw [hq2.eq]; exact hx3)
      have hx4 : ∀ q2, Rest bs q2 r2 → Rest bs (q2 + 2) r' := fun q2 h => Rest.app (s := [60, 47]) (by rw [← hx3]; exact h)
      replace hx4 := Lib.hid hx4
      clear hx3
      by_cases hemp : t1 ++ o = []
      · rw [if_pos hemp, List.append_nil] at hks
        have e1 : t1 = [] := (List.append_eq_nil_iff.1 hemp).1
        have e2 : o = [] := (List.append_eq_nil_iff.1 hemp).2
        have eT : T = ⟨#[]⟩ := by rw [← hT, e1]
        have eO : O = ⟨#[]⟩ := by rw [← hO, e2]
        rw [eO] at ct
        rw [eT]
        obtain ⟨a6, cp6, rfl⟩ := slice_of hK.own
        have hee : ((⟨#[]⟩ : ByteArray) ++ ⟨#[]⟩).toList.isEmpty = true := by rw [ByteArray.toList_eq]; rfl
        clear eT eO
        replace cm := Lib.hid cm
        replace hTz := Lib.hid hTz
        replace hOz := Lib.hid hOz
        replace hT := Lib.hid hT
        replace hO := Lib.hid hO
        replace hTl := Lib.hid hTl
        replace hK := Lib.hid hK
        replace hS := Lib.hid hS
        replace hF := Lib.hid hF
        replace hks := Lib.hid hks
        replace hlen := Lib.hid hlen
        replace hol := Lib.hid hol
        replace hql := Lib.hid hql
        replace c54 := Lib.hid c54
        replace e1 := Lib.hid e1
        replace e2 := Lib.hid e2
        replace hemp := Lib.hid hemp
        clear hM hTx hq
        go_wp2_with (first
          | (go_at_call 63; (with_reducible refine ct.mono ?_); rintro e w1 ⟨rfl, ⟨⟨q1, h1, hq1⟩, f1⟩⟩; have k2 := cm.out w1 q1 h1 hq1; replace f1 := Lib.hid f1; replace h1 := Lib.hid h1; replace hq1 := Lib.hid hq1)
          | (go_at_call 50; (with_reducible refine k2.mono ?_); rintro e w2 ⟨rfl, ⟨⟨q2, h2, hq2⟩, f2⟩⟩; have c2 := h2.rdr.cell 0; have F := f1.out.trans f2; have K2 := hK.out.fr F hLB hRB; have k3 := c54.out w2 q2 h2 hq2; replace f2 := Lib.hid f2; replace h2 := Lib.hid h2; replace hq2 := Lib.hid hq2; replace F := Lib.hid F; replace K2 := Lib.hid K2)
          | (go_at_call 54; (with_reducible refine k3.mono ?_); rintro e w3 ⟨rfl, h3, f3⟩; replace f3 := Lib.hid f3; replace h3 := Lib.hid h3))
        go_ret2
        obtain ⟨bk, hks1, hbk⟩ := (K2.out.fr f3.out hLB hRB).ks
        exact ⟨_, _, _, bk, rfl, (by rw [← hks.out]; exact hks1), hbk, ⟨_, h3.out, hx4.out q2 hq2.out⟩, (hF.out.trans F.out).trans f3.out⟩
      · rw [if_neg hemp] at hks
        obtain ⟨TO, hTO⟩ : ∃ TO : ByteArray, T ++ O = TO := ⟨_, rfl⟩
        have hTO2 : (⟨(t1 ++ o).toArray⟩ : ByteArray) = TO := by rw [← hTO, ← hT, ← hO]; apply bytes_ext; simp
        have hN : ∀ w, NdAt w (.tx (t1 ++ o)) [.string ⟨#[]⟩, .string ⟨#[]⟩, .string TO, .slice none 0 0, .slice none 0 0] [] := fun w => by rw [← hTO2]; exact .tx _
        have s1 : T.size ≤ 100000 := by omega
        have s2 : O.size ≤ 100000 := by omega
        have hTl2 : ¬ TO.toList = [] := by rw [ByteArray.toList_eq, ← hTO2]; simpa using hemp
        have hTl3 : (TO.toList == []) = false := by simpa using hTl2
        have hTl4 : TO.toList.isEmpty = false := by simpa using hTl2
        replace hN := Lib.hid hN
        replace hTO2 := Lib.hid hTO2
        replace hemp := Lib.hid hemp
        replace cm := Lib.hid cm
        replace hTz := Lib.hid hTz
        replace hOz := Lib.hid hOz
        replace hT := Lib.hid hT
        replace hO := Lib.hid hO
        replace hTl := Lib.hid hTl
        replace hK := Lib.hid hK
        replace hS := Lib.hid hS
        replace hF := Lib.hid hF
        replace hks := Lib.hid hks
        replace hlen := Lib.hid hlen
        replace hol := Lib.hid hol
        replace hql := Lib.hid hql
        replace c54 := Lib.hid c54
        clear hM hTx hq
        go_wp2_with (first
          | (go_at_call 63; (with_reducible refine ct.mono ?_); rintro e w1 ⟨rfl, ⟨⟨q1, h1, hq1⟩, f1⟩⟩; have k2 := cm.out w1 q1 h1 hq1; replace f1 := Lib.hid f1; replace h1 := Lib.hid h1; replace hq1 := Lib.hid hq1)
          | (go_at_call 50; (with_reducible refine k2.mono ?_); rintro e w2 ⟨rfl, ⟨⟨q2, h2, hq2⟩, f2⟩⟩; have F := f1.out.trans f2; have K2 := hK.out.fr F hLB hRB; have hsz2 := F.size; have own2 := K2.own; have hND := hN.out w2; replace f2 := Lib.hid f2; replace h2 := Lib.hid h2; replace hq2 := Lib.hid hq2; replace F := Lib.hid F; replace K2 := Lib.hid K2; replace hND := Lib.hid hND)
          | (at_builtin; refine wpList_append_own_at _ rfl (.tmp 34) (.tmp 37) 25 rfl w.heap.size 27 i0 _ 5 96 Tryd.underlying25 hi0 hz0 hz1 hz2 rfl (by decide) _ _ _ rfl (own2.alloc _) ⟨w2.heap.size, 0, none⟩ 1 1 [.string ⟨#[]⟩, .string ⟨#[]⟩, .string TO, .slice none 0 0, .slice none 0 0] rfl rfl (five_new _ _ _ _ _ _ _) (five_one _ _ _ _ _ rfl rfl) (by have := hlen.out; unfold maxLen; omega) (by have := hlen.out; omega) (by simp; omega) ?_; intro v5 w5 hown5 hg5 _ hat5; have K5 := K2.out.add hND.out (by simp) (by simp) hown5 hg5 hat5; have B5 : Below w.heap.size w2 w5 := ((Below.refl w.heap.size w2).alloc (by omega) _).grown hg5 (by simp; omega) (fun j hj => (own2.lt j hj).1); have h5 := h2.out.belowB B5 hLB hRB hAB.out; have c5 := h5.rdr.cell 0; have k3 := c54.out w5 q2 h5 hq2.out; obtain ⟨a5, cp5, rfl⟩ := slice_of hown5; replace K5 := Lib.hid K5; replace B5 := Lib.hid B5; replace h5 := Lib.hid h5; replace hown5 := Lib.hid hown5; replace hg5 := Lib.hid hg5; replace hat5 := Lib.hid hat5)
          | (go_at_call 54; (with_reducible refine k3.mono ?_); rintro e w3 ⟨rfl, h3, f3⟩; replace f3 := Lib.hid f3; replace h3 := Lib.hid h3))
        go_ret2
        obtain ⟨bk, hks1, hbk⟩ := (K5.out.fr f3.out hLB hRB).ks
        exact ⟨_, _, _, bk, rfl, (by rw [← hks.out]; exact hks1), hbk, ⟨_, h3.out, hx4.out q2 hq2.out⟩, ((hF.out.trans F.out).tail B5.out).trans f3.out⟩
    | elem _ _ m3 _ _ _ o r2 r3 k ks2 _ hTx hM hx3 hEl hC2 =>
      have hol := txt_len hTx
      obtain ⟨O, hO⟩ : ∃ O : ByteArray, (⟨o.toArray⟩ : ByteArray) = O := ⟨_, rfl⟩
      have hOz : O.size = o.length := by rw [← hO]; simp [ByteArray.size]
      have ct : Calls Tryd.prog 63 #[.pointer (some ⟨R, 0, none⟩), .int .i64 (-1)] wr fun e w' => e = .returned (.tuple #[.string ⟨o.toArray⟩, .int .i64 0]) ∧ End wr L R A c bs m1 r2 w' := xml_text (-1) (by omega) hS hq hTx
      have cm := fun w1 q1 (h1 : RS w1 L R A c bs q1 m1) (hq1 : Rest bs q1 r2) => xml_misc h1 hq1 hM
      rw [hO] at ct
      have hlE := elem_len hEl
      have c54 : ∀ w2 q2, RS w2 L R A c bs q2 m1 → Rest bs q2 r2 → Calls Tryd.prog 54 #[.pointer (some ⟨L, 0, none⟩), .string ⟨#[60, 47]⟩] w2 fun e w' => e = .returned (.bool false) ∧ RS w' L R A c bs q2 m1 ∧ Fr L R w2 w' := fun w2 q2 h2 hq2 => rs_no h2 ⟨#[60, 47]⟩ (by decide) (by decide) (by rw [hq2.eq]; exact hx3)
      have cE := fun w3 q3 (h3 : RS w3 L R A c bs q3 m1) (hq3 : Rest bs q3 r2) => hE.out w3 q3 m1 r2 k m3 r3 h3 hq3 hEl
      replace cE := Lib.hid cE
      replace hC2 := Lib.hid hC2
      replace hlE := Lib.hid hlE
      clear hx3 hEl
      by_cases hemp : t1 ++ o = []
      · rw [if_pos hemp, List.nil_append] at hks
        have e1 : t1 = [] := (List.append_eq_nil_iff.1 hemp).1
        have e2 : o = [] := (List.append_eq_nil_iff.1 hemp).2
        have eT : T = ⟨#[]⟩ := by rw [← hT, e1]
        have eO : O = ⟨#[]⟩ := by rw [← hO, e2]
        have ezt : t1.length = 0 := by rw [e1]; rfl
        have ezo : o.length = 0 := by rw [e2]; rfl
        rw [eO] at ct
        rw [eT]
        obtain ⟨a6, cp6, rfl⟩ := slice_of hK.own
        have hee : ((⟨#[]⟩ : ByteArray) ++ ⟨#[]⟩).toList.isEmpty = true := by rw [ByteArray.toList_eq]; rfl
        clear eT eO
        replace cm := Lib.hid cm
        replace hTz := Lib.hid hTz
        replace hOz := Lib.hid hOz
        replace hT := Lib.hid hT
        replace hO := Lib.hid hO
        replace hTl := Lib.hid hTl
        replace hK := Lib.hid hK
        replace hS := Lib.hid hS
        replace hF := Lib.hid hF
        replace hks := Lib.hid hks
        replace hlen := Lib.hid hlen
        replace hol := Lib.hid hol
        replace hql := Lib.hid hql
        replace c54 := Lib.hid c54
        replace e1 := Lib.hid e1
        replace e2 := Lib.hid e2
        replace ezt := Lib.hid ezt
        replace ezo := Lib.hid ezo
        replace hemp := Lib.hid hemp
        clear hM hTx hq
        go_wp2_with (first
          | (go_at_call 63; (with_reducible refine ct.mono ?_); rintro e w1 ⟨rfl, ⟨⟨q1, h1, hq1⟩, f1⟩⟩; have k2 := cm.out w1 q1 h1 hq1; replace f1 := Lib.hid f1; replace h1 := Lib.hid h1; replace hq1 := Lib.hid hq1)
          | (go_at_call 50; (with_reducible refine k2.mono ?_); rintro e w2 ⟨rfl, ⟨⟨q2, h2, hq2⟩, f2⟩⟩; have c2 := h2.rdr.cell 0; have F := f1.out.trans f2; have K2 := hK.out.fr F hLB hRB; have k3 := c54.out w2 q2 h2 hq2; replace f2 := Lib.hid f2; replace h2 := Lib.hid h2; replace hq2 := Lib.hid hq2; replace F := Lib.hid F; replace K2 := Lib.hid K2)
          | (go_at_call 54; (with_reducible refine k3.mono ?_); rintro e w3 ⟨rfl, h3, f3⟩; have K3 := K2.out.fr f3 hLB hRB; have hv3 := K3.v_lt; have k4 := cE.out w3 q2 h3 hq2.out; replace f3 := Lib.hid f3; replace h3 := Lib.hid h3; replace K3 := Lib.hid K3; replace hv3 := Lib.hid hv3)
          | (go_at_call 40; (with_reducible refine k4.mono ?_); rintro e w6 ⟨N, a1, n1, c1, a2, n2, c2, bl, rfl, hnd, hbl, ⟨⟨q6, h6, hq6⟩, f6⟩⟩; have hba : Below w6.heap.size w6 (w6.alloc (.cells #[.string ⟨#[]⟩, .string N, .string ⟨#[]⟩, .slice a1 n1 c1, .slice a2 n2 c2] 27)) := (Below.refl _ _).alloc (Nat.le_refl _) _; have K6 := (K3.out.fr f6 hLB hRB).fr (Fr.of_below (L := L) (R := R) hba) hLB hRB; have own6 := K6.own; have hsz6 : w.heap.size ≤ w6.heap.size := Nat.le_trans ((hF.out.trans F.out).size) (Nat.le_trans f3.out.size f6.size); have hsz3 : w.heap.size ≤ w3.heap.size := Nat.le_trans ((hF.out.trans F.out).size) f3.out.size; have hnd6 := hnd.keep (fun j hj => hba.block j (hbl j hj).2); have h66 := h6.below hba; have hs61 : (w6.alloc (.cells #[.string ⟨#[]⟩, .string N, .string ⟨#[]⟩, .slice a1 n1 c1, .slice a2 n2 c2] 27)).heap.size = w6.heap.size + 1 := World.size_alloc _ _; replace f6 := Lib.hid f6; replace h6 := Lib.hid h6; replace hq6 := Lib.hid hq6; replace hnd := Lib.hid hnd; replace hbl := Lib.hid hbl; replace hba := Lib.hid hba; replace K6 := Lib.hid K6; replace hnd6 := Lib.hid hnd6; replace h66 := Lib.hid h66; replace hs61 := Lib.hid hs61)
          | (at_builtin; refine wpList_append_own_at _ rfl (.tmp 55) (.tmp 57) 25 rfl w.heap.size 27 i0 _ 5 96 Tryd.underlying25 hi0 hz0 hz1 hz2 rfl (by decide) _ _ _ rfl (own6.alloc _) ⟨w6.heap.size + 1, 0, none⟩ 1 1 [.string ⟨#[]⟩, .string N, .string ⟨#[]⟩, .slice a1 n1 c1, .slice a2 n2 c2] rfl rfl (by have := five_new (w6.alloc (.cells #[.string ⟨#[]⟩, .string N, .string ⟨#[]⟩, .slice a1 n1 c1, .slice a2 n2 c2] 27)) (.string ⟨#[]⟩) (.string N) (.string ⟨#[]⟩) (.slice a1 n1 c1) (.slice a2 n2 c2) 27; rw [hs61.out] at this; exact this) (five_one _ _ _ _ _ rfl rfl) (by have := hlen.out; have := hol.out; have := ezt.out; unfold maxLen; omega) (by have := hlen.out; have := hol.out; have := ezt.out; omega) (by simp; omega) ?_; intro v7 w7 hown7 hg7 _ hat7; have K7 := K6.out.add hnd6.out (fun j hj => ⟨Nat.le_trans hsz3 (hbl.out j hj).1, by rw [hs61.out]; have := (hbl.out j hj).2; omega⟩) (fun j hj e => by have := hv3.out j e; have := (hbl.out j hj).1; omega) hown7 hg7 hat7; have B7 : Below w.heap.size w6 w7 := (((Below.refl w.heap.size w6).alloc hsz6 _).alloc (by rw [hs61.out]; omega) _).grown hg7 (by simp; omega) (fun j hj => (own6.lt j hj).1); have h7 := h6.out.belowB B7 hLB hRB hAB.out; replace K7 := Lib.hid K7; replace B7 := Lib.hid B7; replace h7 := Lib.hid h7; replace hown7 := Lib.hid hown7; replace hg7 := Lib.hid hg7; replace hat7 := Lib.hid hat7))
        have l1 := hol.out
        have l3 := hlen.out
        have l4 := hql.out
        have l5 := hlE.out
        have l6 := hq6.out.len
        have l7 := ezt.out
        have l8 := ezo.out
        go_roundw
        case rel => exact ⟨q6, m3, r3, [], done ++ [k], ks2, _, _, hq6.out, hC2.out, by rw [← hks.out]; simp, rfl, K7.out, by simp; omega, h7.out, ((hF.out.trans F.out).trans (f3.out.trans f6.out)).tail B7.out⟩
        case measure => rw [h7.out.pos, hpos.out]; omega
      · rw [if_neg hemp] at hks
        have hpz : 0 < t1.length + o.length := by
          rw [← List.length_append]; exact List.length_pos_iff.2 hemp
        obtain ⟨TO, hTO⟩ : ∃ TO : ByteArray, T ++ O = TO := ⟨_, rfl⟩
        have hTO2 : (⟨(t1 ++ o).toArray⟩ : ByteArray) = TO := by rw [← hTO, ← hT, ← hO]; apply bytes_ext; simp
        have hN : ∀ w, NdAt w (.tx (t1 ++ o)) [.string ⟨#[]⟩, .string ⟨#[]⟩, .string TO, .slice none 0 0, .slice none 0 0] [] := fun w => by rw [← hTO2]; exact .tx _
        have s1 : T.size ≤ 100000 := by omega
        have s2 : O.size ≤ 100000 := by omega
        have hTl2 : ¬ TO.toList = [] := by rw [ByteArray.toList_eq, ← hTO2]; simpa using hemp
        have hTl3 : (TO.toList == []) = false := by simpa using hTl2
        have hTl4 : TO.toList.isEmpty = false := by simpa using hTl2
        replace hN := Lib.hid hN
        replace hTO2 := Lib.hid hTO2
        replace hemp := Lib.hid hemp
        replace hpz := Lib.hid hpz
        have hda : Hid ((done ++ [Nd.tx (t1 ++ o)]).length = done.length + 1) := Lib.hid (by simp)
        replace cm := Lib.hid cm
        replace hTz := Lib.hid hTz
        replace hOz := Lib.hid hOz
        replace hT := Lib.hid hT
        replace hO := Lib.hid hO
        replace hTl := Lib.hid hTl
        replace hK := Lib.hid hK
        replace hS := Lib.hid hS
        replace hF := Lib.hid hF
        replace hks := Lib.hid hks
        replace hlen := Lib.hid hlen
        replace hol := Lib.hid hol
        replace hql := Lib.hid hql
        replace c54 := Lib.hid c54
        clear hM hTx hq
        go_wp2_with (first
          | (go_at_call 63; (with_reducible refine ct.mono ?_); rintro e w1 ⟨rfl, ⟨⟨q1, h1, hq1⟩, f1⟩⟩; have k2 := cm.out w1 q1 h1 hq1; replace f1 := Lib.hid f1; replace h1 := Lib.hid h1; replace hq1 := Lib.hid hq1)
          | (go_at_call 50; (with_reducible refine k2.mono ?_); rintro e w2 ⟨rfl, ⟨⟨q2, h2, hq2⟩, f2⟩⟩; have F := f1.out.trans f2; have K2 := hK.out.fr F hLB hRB; have hsz2 := F.size; have own2 := K2.own; have hND := hN.out w2; replace f2 := Lib.hid f2; replace h2 := Lib.hid h2; replace hq2 := Lib.hid hq2; replace F := Lib.hid F; replace K2 := Lib.hid K2; replace hND := Lib.hid hND)
          | (at_builtin; refine wpList_append_own_at _ rfl (.tmp 34) (.tmp 37) 25 rfl w.heap.size 27 i0 _ 5 96 Tryd.underlying25 hi0 hz0 hz1 hz2 rfl (by decide) _ _ _ rfl (own2.alloc _) ⟨w2.heap.size, 0, none⟩ 1 1 [.string ⟨#[]⟩, .string ⟨#[]⟩, .string TO, .slice none 0 0, .slice none 0 0] rfl rfl (five_new _ _ _ _ _ _ _) (five_one _ _ _ _ _ rfl rfl) (by have := hlen.out; unfold maxLen; omega) (by have := hlen.out; omega) (by simp; omega) ?_; intro v5 w5 hown5 hg5 _ hat5; have K5 := K2.out.add hND.out (by simp) (by simp) hown5 hg5 hat5; have B5 : Below w.heap.size w2 w5 := ((Below.refl w.heap.size w2).alloc (by omega) _).grown hg5 (by simp; omega) (fun j hj => (own2.lt j hj).1); have h5 := h2.out.belowB B5 hLB hRB hAB.out; have c5 := h5.rdr.cell 0; have k3 := c54.out w5 q2 h5 hq2.out; obtain ⟨a5, cp5, rfl⟩ := slice_of hown5; replace K5 := Lib.hid K5; replace B5 := Lib.hid B5; replace h5 := Lib.hid h5; replace hown5 := Lib.hid hown5; replace hg5 := Lib.hid hg5; replace hat5 := Lib.hid hat5)
          | (go_at_call 54; (with_reducible refine k3.mono ?_); rintro e w3 ⟨rfl, h3, f3⟩; have K3 := K5.out.fr f3 hLB hRB; have hv3 := K3.v_lt; have k4 := cE.out w3 q2 h3 hq2.out; replace f3 := Lib.hid f3; replace h3 := Lib.hid h3; replace K3 := Lib.hid K3; replace hv3 := Lib.hid hv3)
          | (go_at_call 40; (with_reducible refine k4.mono ?_); rintro e w6 ⟨N, a1, n1, c1, a2, n2, c2, bl, rfl, hnd, hbl, ⟨⟨q6, h6, hq6⟩, f6⟩⟩; have hba : Below w6.heap.size w6 (w6.alloc (.cells #[.string ⟨#[]⟩, .string N, .string ⟨#[]⟩, .slice a1 n1 c1, .slice a2 n2 c2] 27)) := (Below.refl _ _).alloc (Nat.le_refl _) _; have K6 := (K3.out.fr f6 hLB hRB).fr (Fr.of_below (L := L) (R := R) hba) hLB hRB; have own6 := K6.own; have hsz6 : w.heap.size ≤ w6.heap.size := Nat.le_trans (Nat.le_trans (hF.out.trans F.out).size B5.out.size) (Nat.le_trans f3.out.size f6.size); have hsz3 : w.heap.size ≤ w3.heap.size := Nat.le_trans (Nat.le_trans (hF.out.trans F.out).size B5.out.size) f3.out.size; have hnd6 := hnd.keep (fun j hj => hba.block j (hbl j hj).2); have h66 := h6.below hba; have hs61 : (w6.alloc (.cells #[.string ⟨#[]⟩, .string N, .string ⟨#[]⟩, .slice a1 n1 c1, .slice a2 n2 c2] 27)).heap.size = w6.heap.size + 1 := World.size_alloc _ _; replace f6 := Lib.hid f6; replace h6 := Lib.hid h6; replace hq6 := Lib.hid hq6; replace hnd := Lib.hid hnd; replace hbl := Lib.hid hbl; replace hba := Lib.hid hba; replace K6 := Lib.hid K6; replace hnd6 := Lib.hid hnd6; replace h66 := Lib.hid h66; replace hs61 := Lib.hid hs61)
          | (at_builtin; refine wpList_append_own_at _ rfl (.tmp 55) (.tmp 57) 25 rfl w.heap.size 27 i0 _ 5 96 Tryd.underlying25 hi0 hz0 hz1 hz2 rfl (by decide) _ _ _ rfl (own6.alloc _) ⟨w6.heap.size + 1, 0, none⟩ 1 1 [.string ⟨#[]⟩, .string N, .string ⟨#[]⟩, .slice a1 n1 c1, .slice a2 n2 c2] rfl rfl (by have := five_new (w6.alloc (.cells #[.string ⟨#[]⟩, .string N, .string ⟨#[]⟩, .slice a1 n1 c1, .slice a2 n2 c2] 27)) (.string ⟨#[]⟩) (.string N) (.string ⟨#[]⟩) (.slice a1 n1 c1) (.slice a2 n2 c2) 27; rw [hs61.out] at this; exact this) (five_one _ _ _ _ _ rfl rfl) (by have := hlen.out; have := hol.out; have := hpz.out; have := hda.out; unfold maxLen; omega) (by have := hlen.out; have := hol.out; have := hpz.out; have := hda.out; omega) (by simp; omega) ?_; intro v7 w7 hown7 hg7 _ hat7; have K7 := K6.out.add hnd6.out (fun j hj => ⟨Nat.le_trans hsz3 (hbl.out j hj).1, by rw [hs61.out]; have := (hbl.out j hj).2; omega⟩) (fun j hj e => by have := hv3.out j e; have := (hbl.out j hj).1; omega) hown7 hg7 hat7; have B7 : Below w.heap.size w6 w7 := (((Below.refl w.heap.size w6).alloc hsz6 _).alloc (by rw [hs61.out]; omega) _).grown hg7 (by simp; omega) (fun j hj => (own6.lt j hj).1); have h7 := h6.out.belowB B7 hLB hRB hAB.out; replace K7 := Lib.hid K7; replace B7 := Lib.hid B7; replace h7 := Lib.hid h7; replace hown7 := Lib.hid hown7; replace hg7 := Lib.hid hg7; replace hat7 := Lib.hid hat7))
        have l1 := hol.out
        have l3 := hlen.out
        have l4 := hql.out
        have l5 := hlE.out
        have l6 := hq6.out.len
        have l7 := hpz.out
        go_roundw
        case rel => exact ⟨q6, m3, r3, [], (done ++ [.tx (t1 ++ o)]) ++ [k], ks2, _, _, hq6.out, hC2.out, by rw [← hks.out]; simp, rfl, K7.out, by simp; omega, h7.out, (((hF.out.trans F.out).tail B5.out).trans (f3.out.trans f6.out)).tail B7.out⟩
        case measure => rw [h7.out.pos, hpos.out]; omega
end Go.Proofs.YtgomlebemefdcaaDoor

/- What the beginning's mark answers. No condition. -/
namespace Go.Proofs.YtgomlebemefdcaaDoor
open Go Go.RowKit Go.Wk Go.Xt Go.Xe
def MarkG (w : World) (L R : Nat) (A : Option Addr) (c : Nat) (bs : List UInt8) (many : Nat) (N : ByteArray) (l : List (List UInt8 × List UInt8)) (closed : Bool) (r : List UInt8) (e : Ending) (w' : World) : Prop :=
  ∃ (a1 : Option Addr) (n1 c1 : Nat) (ba : List Nat), e = .returned (.tuple #[.string ⟨#[]⟩, .string N, .bool closed, .agg #[.string ⟨#[]⟩, .string N, .string ⟨#[]⟩, .slice a1 n1 c1, .slice none 0 0], .int .i64 0]) ∧ AtA w' l (.slice a1 n1 c1) ba ∧ (∀ k ∈ ba, w.heap.size ≤ k ∧ k < w'.heap.size) ∧ End w L R A c bs (many + 1) r w'
end Go.Proofs.YtgomlebemefdcaaDoor

/- The beginning's mark with one attribute. No condition. -/
namespace Go.Proofs.YtgomlebemefdcaaDoor
open Go Go.RowKit Go.Wk Go.Xt Go.Xe
theorem atts_ne {r r' : List UInt8} {a : List UInt8 × List UInt8} (h : Atts r [a] r') : a.1 ≠ [120, 109, 108, 110, 115] := by
  cases h with
  | one r1 r2 r3 a x x1 rc h1 h2 h3 h4 h5 h6 h7 =>
    cases h5 with
    | mk nm r1 v q r2 r3 hn hne hnx => exact hnx
theorem ba_toList : (⟨#[120, 109, 108, 110, 115]⟩ : ByteArray).toList = [120, 109, 108, 110, 115] := by rw [ByteArray.toList_eq]
set_option maxHeartbeats 4000000 in
set_option maxRecDepth 100000 in
theorem xml_mark_one {w : World} {L R c p many : Nat} {A : Option Addr} {bs r r' nm : List UInt8} {a : List UInt8 × List UInt8} {closed : Bool} (d : Nat) (hd0 : 0 < d) (hd : d ≤ 1000) (hm : many < 4000) (h : RS w L R A c bs p many) (hr : Rest bs p r) (hM : Xe.Mark r nm [a] closed r') :
    Calls Tryd.prog 51 #[.pointer (some ⟨R, 0, none⟩), .int .i64 d] w (MarkG w L R A c bs many ⟨nm.toArray⟩ [a] closed r') := by
  obtain ⟨N, hN⟩ : ∃ N : ByteArray, (⟨nm.toArray⟩ : ByteArray) = N := ⟨_, rfl⟩
  have hN2 : str nm = .string N := by rw [← hN]; rfl
  rw [hN]
  obtain ⟨an, av⟩ := a
  obtain ⟨NA, hNA⟩ : ∃ N : ByteArray, (⟨an.toArray⟩ : ByteArray) = N := ⟨_, rfl⟩
  have hNA2 : str an = .string NA := by rw [← hNA]; rfl
  obtain ⟨VA, hVA⟩ : ∃ N : ByteArray, (⟨av.toArray⟩ : ByteArray) = N := ⟨_, rfl⟩
  have hVA2 : str av = .string VA := by rw [← hVA]; rfl
  have hb0 : Below w.heap.size w (w.alloc (.cells #[.string ⟨#[]⟩, .string ⟨#[]⟩, .string ⟨#[]⟩, .slice none 0 0, .slice none 0 0] 27)) := (Below.refl _ _).alloc (Nat.le_refl _) _
  have h0 := h.below hb0
  have hnew := Blk.new w 27 #[.string ⟨#[]⟩, .string ⟨#[]⟩, .string ⟨#[]⟩, .slice none 0 0, .slice none 0 0]
  have c0 := h0.rdr.cell 0
  have hRlt := h.rdr.lt
  have hLlt := h.cur.L_lt
  have hAlt := Lib.hid h.A_lt
  have hdz : ((d : Int) == 0) = false := by simp; omega
  have hmm : ¬ (4000 : Int) < (many : Int) + 1 := by omega
  cases hM with
  | «open» r0 _ _ r1 r2 hn hne hdr hno hA =>
    have m1 : Calls Tryd.prog 54 #[.pointer (some ⟨L, 0, none⟩), .string ⟨#[60]⟩] _ fun e w' => e = .returned (.bool true) ∧ RS w' L R A c bs (p + 1) many ∧ Fr L R _ w' := rs_yes h0 ⟨#[60]⟩ r0 (by decide) (by decide) hr.eq
    have hr1 : Rest bs (p + 1) r0 := hr.app (s := [60])
    have cf := fun w1 (h1 : RS w1 L R A c bs (p + 1) many) => xml_full h1 hr1 hn hne (by rw [hdr]; exact hno)
    simp only [hdr, hN2] at cf
    have ca := fun w2 q (h2 : RS w2 L R A c bs q (many + 1)) (hq : Rest bs q r1) => xml_attrs_one h2 hq hA
    simp only [hNA2, hVA2] at ca
    have hax := atts_ne hA
    have haxB : (NA.toList == [120, 109, 108, 110, 115]) = false := by
      have := str_ne (a := NA) (b := ⟨#[120, 109, 108, 110, 115]⟩) (by rw [← hNA]; simpa using hax)
      rw [ba_toList] at this
      exact this
    have m2 : ∀ w3 q, RS w3 L R A c bs q (many + 1) → Rest bs q (62 :: r') → Calls Tryd.prog 54 #[.pointer (some ⟨L, 0, none⟩), .string ⟨#[47]⟩] w3 fun e w' => e = .returned (.bool false) ∧ RS w' L R A c bs q (many + 1) ∧ Fr L R w3 w' := fun w3 q h3 hq => rs_no h3 ⟨#[47]⟩ (by decide) (by decide) (by rw [hq.eq]; simp [List.cons_prefix_cons])
    have m3 : ∀ w3 q, RS w3 L R A c bs q (many + 1) → Rest bs q (62 :: r') → Calls Tryd.prog 54 #[.pointer (some ⟨L, 0, none⟩), .string ⟨#[62]⟩] w3 fun e w' => e = .returned (.bool true) ∧ RS w' L R A c bs (q + 1) (many + 1) ∧ Fr L R w3 w' := fun w3 q h3 hq => rs_yes h3 ⟨#[62]⟩ r' (by decide) (by decide) hq.eq
    have cn : ∀ w5 q, RS w5 L R A c bs q (many + 1) → ∀ ga cpa, 1 ≤ cpa → w5.cell? ⟨ga, 0, none⟩ = some (.string ⟨#[]⟩) → w5.cell? ⟨ga, 1, none⟩ = some (.string NA) → w5.cell? ⟨ga, 2, none⟩ = some (.string VA) → Calls Tryd.prog 62 #[.pointer (some ⟨R, 0, none⟩), .string ⟨#[]⟩, .string N, .slice (some ⟨ga, 0, none⟩) 1 cpa] w5 fun e w' => ∃ g2 cap2, e = .returned (.tuple #[.agg #[.string ⟨#[]⟩, .string N, .string ⟨#[]⟩, .slice (some ⟨g2, 0, none⟩) 1 cap2, .slice none 0 0], .int .i64 0]) ∧
      w5.heap.size ≤ g2 ∧ g2 < w'.heap.size ∧ w'.ownsRow 0 34 3 (.slice (some ⟨g2, 0, none⟩) 1 cap2) 1 [.string ⟨#[]⟩, .string NA, .string VA] ∧ Below w5.heap.size w5 w' := fun w5 q h5 ga cpa hcp t0 t1 t2 => xml_node_one N ga cpa NA VA h5 haxB hcp t0 t1 t2
    replace cf := Lib.hid cf
    replace ca := Lib.hid ca
    replace m2 := Lib.hid m2
    replace m3 := Lib.hid m3
    replace cn := Lib.hid cn
    have h0f := Lib.hid (Fr.refl L R (w.alloc (.cells #[.string ⟨#[]⟩, .string ⟨#[]⟩, .string ⟨#[]⟩, .slice none 0 0, .slice none 0 0] 27)))
    replace h0 := Lib.hid h0
    replace hnew := Lib.hid hnew
    replace hb0 := Lib.hid hb0
    clear hn hne hdr hno hA h hr hr1 hN hN2 hax haxB
    replace hNA := Lib.hid hNA
    replace hVA := Lib.hid hVA
    replace hNA2 := Lib.hid hNA2
    replace hVA2 := Lib.hid hVA2
    go_enter Tryd.func51, Tryd.ntmps51
    go_wp2_with (first
      | (go_at_call 54; (with_reducible refine m1.mono ?_); rintro e w1 ⟨rfl, h1, f1⟩; have k2 := cf.out w1 h1; replace f1 := Lib.hid f1; replace h1 := Lib.hid h1; clear m1)
      | (go_at_call 53; (with_reducible refine k2.mono ?_); rintro e w2 ⟨rfl, ⟨⟨q, h2, hq⟩, f2⟩⟩; have c21 := h2.rdr.cell 1; have f21 := h2.rdr.frozen 1; have h2b := h2.bump; have k3 := ca.out _ q h2b hq; replace f2 := Lib.hid f2; replace h2 := Lib.hid h2; replace h2b := Lib.hid h2b; replace hq := Lib.hid hq)
      | (go_at_call 61; (with_reducible refine k3.mono ?_); rintro e w3 ⟨ga, cpa, rfl, hcp, hga, t30, t31, t32, ⟨⟨q3, h3, hq3⟩, f3⟩⟩; have hgaB : w.heap.size ≤ ga := Nat.le_trans (Nat.le_trans (by rw [World.size_alloc]; exact Nat.le_succ _) (f1.out.trans f2.out).size) (Nat.le_trans (Fr.bump (L := L) (R := R) w2 (.int .i64 ((many : Int) + 1))).size hga); have hgl := cell_lt t30; have c3 := h3.rdr.cell 0; have k4 := m2.out w3 q3 h3 hq3; replace f3 := Lib.hid f3; replace h3 := Lib.hid h3; replace hq3 := Lib.hid hq3)
      | (go_at_call 54; (with_reducible refine k4.mono ?_); rintro e w4 ⟨rfl, h4, f4⟩; have c4 := h4.rdr.cell 0; have k5 := m3.out w4 q3 h4 hq3.out; replace f4 := Lib.hid f4; replace h4 := Lib.hid h4; clear k4)
      | (go_at_call 54; (with_reducible refine k5.mono ?_); rintro e w5 ⟨rfl, h5, f5⟩; have f45 := f4.out.trans f5; have hb45 := f45.block ga hgl (by omega) (by omega); have t50 : w5.cell? ⟨ga, 0, none⟩ = some (.string ⟨#[]⟩) := (World.cell?_of_block hb45).trans t30; have t51 : w5.cell? ⟨ga, 1, none⟩ = some (.string NA) := (World.cell?_of_block hb45).trans t31; have t52 : w5.cell? ⟨ga, 2, none⟩ = some (.string VA) := (World.cell?_of_block hb45).trans t32; have k6 := cn.out w5 _ h5 ga cpa hcp t50 t51 t52; have hw5 : w.heap.size < w5.heap.size := Nat.lt_of_le_of_lt hgaB (Nat.lt_of_lt_of_le hgl f45.size); replace f45 := Lib.hid f45; replace hb45 := Lib.hid hb45; replace f5 := Lib.hid f5; replace h5 := Lib.hid h5)
      | (go_at_call 62; (with_reducible refine k6.mono ?_); rintro e w6 ⟨g2, cap2, rfl, hg2, hg2l, hown2, b6⟩; replace hown2 := Lib.hid hown2; replace b6 := Lib.hid b6))
    have F : Fr L R _ w6 := ((((h0f.out.trans (f1.out.trans f2.out)).trans (Fr.bump w2 (.int .i64 ((many : Int) + 1)))).trans f3.out).trans (f4.out.trans f5.out)).trans (Fr.of_below b6.out)
    have hz7 : Blk w6 w.heap.size 27 #[.string ⟨#[]⟩, .string ⟨#[]⟩, .string ⟨#[]⟩, .slice none 0 0, .slice none 0 0] := (F.block w.heap.size (by simp) (by omega) (by omega)).trans hnew.out
    have hz7 := hz7.alloc (.cells #[.string ⟨#[]⟩, .string N, .string ⟨#[]⟩, .slice (some ⟨g2, 0, none⟩) 1 cap2, .slice none 0 0] 27)
    have hz8 := Blk.new w6 27 #[.string ⟨#[]⟩, .string N, .string ⟨#[]⟩, .slice (some ⟨g2, 0, none⟩) 1 cap2, .slice none 0 0]
    have hw67 : Below w6.heap.size w6 (w6.alloc (.cells #[.string ⟨#[]⟩, .string N, .string ⟨#[]⟩, .slice (some ⟨g2, 0, none⟩) 1 cap2, .slice none 0 0] 27)) := (Below.refl _ _).alloc (Nat.le_refl _) _
    obtain ⟨W, hW⟩ : ∃ W, W = w6.alloc (.cells #[.string ⟨#[]⟩, .string N, .string ⟨#[]⟩, .slice (some ⟨g2, 0, none⟩) 1 cap2, .slice none 0 0] 27) := ⟨_, rfl⟩
    rw [← hW] at hz7 hz8 hw67 ⊢
    obtain ⟨g8, hg8⟩ : ∃ g, g = w6.heap.size := ⟨_, rfl⟩
    obtain ⟨g7, hg7⟩ : ∃ g, g = w.heap.size := ⟨_, rfl⟩
    rw [← hg8] at hz8 ⊢
    rw [← hg7] at hz7 ⊢
    have a0 := hz7.cell 0
    have a1 := hz7.cell 1
    have a2 := hz7.cell 2
    have a3 := hz7.cell 3
    have a4 := hz7.cell 4
    have e0 := hz8.cell 0
    have e1 := hz8.cell 1
    have e2 := hz8.cell 2
    have e3 := hz8.cell 3
    have e4 := hz8.cell 4
    have z0 := hz7.frozen 0
    have z1 := hz7.frozen 1
    have z2 := hz7.frozen 2
    have z3 := hz7.frozen 3
    have z4 := hz7.frozen 4
    replace hz7 := Lib.hid hz7
    replace hz8 := Lib.hid hz8
    replace hW := Lib.hid hW
    replace hw67 := Lib.hid hw67
    replace hg7 := Lib.hid hg7
    replace hg8 := Lib.hid hg8
    replace F := Lib.hid F
    go_region
    have hBV := Lib.hid (((((((Below.refl w.heap.size W).setCell (p := ⟨g7, 0, none⟩) (Nat.le_of_eq hg7.out.symm) (.string ⟨#[]⟩)).setCell (p := ⟨g7, 1, none⟩) (Nat.le_of_eq hg7.out.symm) (.string N)).setCell (p := ⟨g7, 2, none⟩) (Nat.le_of_eq hg7.out.symm) (.string ⟨#[]⟩)).setCell (p := ⟨g7, 3, none⟩) (Nat.le_of_eq hg7.out.symm) (.slice (some ⟨g2, 0, none⟩) 1 cap2)).setCell (p := ⟨g7, 4, none⟩) (Nat.le_of_eq hg7.out.symm) (.slice none 0 0)).drew)
    have hV := (((((hz7.out.set_ 0 (.string ⟨#[]⟩)).set_ 1 (.string N)).set_ 2 (.string ⟨#[]⟩)).set_ 3 (.slice (some ⟨g2, 0, none⟩) 1 cap2)).set_ 4 (.slice none 0 0)).drew
    have hSV0 : Save g7 W ((((((W.setCell ⟨g7, 0, none⟩ (.string ⟨#[]⟩)).setCell ⟨g7, 1, none⟩ (.string N)).setCell ⟨g7, 2, none⟩ (.string ⟨#[]⟩)).setCell ⟨g7, 3, none⟩ (.slice (some ⟨g2, 0, none⟩) 1 cap2)).setCell ⟨g7, 4, none⟩ (.slice none 0 0)).drew) := (put5_save W g7 (.string ⟨#[]⟩) (.string N) (.string ⟨#[]⟩) (.slice (some ⟨g2, 0, none⟩) 1 cap2) (.slice none 0 0)).drawn 1
    have hSV := Lib.hid hSV0
    clear hSV0
    have hWs : W.heap.size = g8 + 1 := by rw [hW.out, hg8.out, World.size_alloc]
    replace hWs := Lib.hid hWs
    generalize ((((((W.setCell ⟨g7, 0, none⟩ (.string ⟨#[]⟩)).setCell ⟨g7, 1, none⟩ (.string N)).setCell ⟨g7, 2, none⟩ (.string ⟨#[]⟩)).setCell ⟨g7, 3, none⟩ (.slice (some ⟨g2, 0, none⟩) 1 cap2)).setCell ⟨g7, 4, none⟩ (.slice none 0 0)).drew) = V at *
    have r0 := hV.cell 0
    have r1 := hV.cell 1
    have r2 := hV.cell 2
    have r3 := hV.cell 3
    have r4 := hV.cell 4
    clear a0 a1 a2 a3 a4 e0 e1 e2 e3 e4 z0 z1 z2 z3 z4 hV
    go_wp2
    refine bodyPost_ret (v := .tuple #[.string ⟨#[]⟩, .string N, .bool false, .agg #[.string ⟨#[]⟩, .string N, .string ⟨#[]⟩, .slice (some ⟨g2, 0, none⟩) 1 cap2, .slice none 0 0], .int .i64 0]) (by simp [results, Tryd.results51, go_sem, r0, r1, r2, r3, r4]) rfl ⟨some ⟨g2, 0, none⟩, 1, cap2, [g2], rfl, ?_, ?_, ⟨q3 + 1, ?_, hq3.out.app (s := [62])⟩, ?_⟩
    · refine .inr ⟨g2, cap2, rfl, ?_, rfl⟩
      have e1 : atV [(an, av)] = [.string ⟨#[]⟩, .string NA, .string VA] := by show [str [], str an, str av] = _; rw [hNA2.out, hVA2.out]; rfl
      rw [e1]
      have hk : V.heap[g2]? = w6.heap[g2]? := (hSV.out.block g2 (by rw [hWs.out, hg8.out]; omega) (by rw [hg7.out]; omega)).trans (hw67.out.block g2 hg2l)
      exact own_same hown2.out hk
    · intro k hk
      simp at hk
      subst hk
      have := hSV.out.size
      have e2 := hWs.out
      have e3 := hg8.out
      omega
    · exact ((h5.out.below b6.out).below hw67.out).belowB hBV.out hLlt hRlt hAlt.out
    · exact ((Fr.of_below hb0.out).trans (F.out.trans (Fr.of_below hw67.out))).tail hBV.out
  | shut r0 _ _ r1 r2 hn hne hdr hno hA =>
    have m1 : Calls Tryd.prog 54 #[.pointer (some ⟨L, 0, none⟩), .string ⟨#[60]⟩] _ fun e w' => e = .returned (.bool true) ∧ RS w' L R A c bs (p + 1) many ∧ Fr L R _ w' := rs_yes h0 ⟨#[60]⟩ r0 (by decide) (by decide) hr.eq
    have hr1 : Rest bs (p + 1) r0 := hr.app (s := [60])
    have cf := fun w1 (h1 : RS w1 L R A c bs (p + 1) many) => xml_full h1 hr1 hn hne (by rw [hdr]; exact hno)
    simp only [hdr, hN2] at cf
    have ca := fun w2 q (h2 : RS w2 L R A c bs q (many + 1)) (hq : Rest bs q r1) => xml_attrs_one h2 hq hA
    simp only [hNA2, hVA2] at ca
    have hax := atts_ne hA
    have haxB : (NA.toList == [120, 109, 108, 110, 115]) = false := by
      have := str_ne (a := NA) (b := ⟨#[120, 109, 108, 110, 115]⟩) (by rw [← hNA]; simpa using hax)
      rw [ba_toList] at this
      exact this
    have m2 : ∀ w3 q, RS w3 L R A c bs q (many + 1) → Rest bs q (47 :: 62 :: r') → Calls Tryd.prog 54 #[.pointer (some ⟨L, 0, none⟩), .string ⟨#[47]⟩] w3 fun e w' => e = .returned (.bool true) ∧ RS w' L R A c bs (q + 1) (many + 1) ∧ Fr L R w3 w' := fun w3 q h3 hq => rs_yes h3 ⟨#[47]⟩ (62 :: r') (by decide) (by decide) hq.eq
    have m3 : ∀ w3 q, RS w3 L R A c bs q (many + 1) → Rest bs q (62 :: r') → Calls Tryd.prog 54 #[.pointer (some ⟨L, 0, none⟩), .string ⟨#[62]⟩] w3 fun e w' => e = .returned (.bool true) ∧ RS w' L R A c bs (q + 1) (many + 1) ∧ Fr L R w3 w' := fun w3 q h3 hq => rs_yes h3 ⟨#[62]⟩ r' (by decide) (by decide) hq.eq
    have cn : ∀ w5 q, RS w5 L R A c bs q (many + 1) → ∀ ga cpa, 1 ≤ cpa → w5.cell? ⟨ga, 0, none⟩ = some (.string ⟨#[]⟩) → w5.cell? ⟨ga, 1, none⟩ = some (.string NA) → w5.cell? ⟨ga, 2, none⟩ = some (.string VA) → Calls Tryd.prog 62 #[.pointer (some ⟨R, 0, none⟩), .string ⟨#[]⟩, .string N, .slice (some ⟨ga, 0, none⟩) 1 cpa] w5 fun e w' => ∃ g2 cap2, e = .returned (.tuple #[.agg #[.string ⟨#[]⟩, .string N, .string ⟨#[]⟩, .slice (some ⟨g2, 0, none⟩) 1 cap2, .slice none 0 0], .int .i64 0]) ∧
      w5.heap.size ≤ g2 ∧ g2 < w'.heap.size ∧ w'.ownsRow 0 34 3 (.slice (some ⟨g2, 0, none⟩) 1 cap2) 1 [.string ⟨#[]⟩, .string NA, .string VA] ∧ Below w5.heap.size w5 w' := fun w5 q h5 ga cpa hcp t0 t1 t2 => xml_node_one N ga cpa NA VA h5 haxB hcp t0 t1 t2
    replace cf := Lib.hid cf
    replace ca := Lib.hid ca
    replace m2 := Lib.hid m2
    replace m3 := Lib.hid m3
    replace cn := Lib.hid cn
    have h0f := Lib.hid (Fr.refl L R (w.alloc (.cells #[.string ⟨#[]⟩, .string ⟨#[]⟩, .string ⟨#[]⟩, .slice none 0 0, .slice none 0 0] 27)))
    replace h0 := Lib.hid h0
    replace hnew := Lib.hid hnew
    replace hb0 := Lib.hid hb0
    clear hn hne hdr hno hA h hr hr1 hN hN2 hax haxB
    replace hNA := Lib.hid hNA
    replace hVA := Lib.hid hVA
    replace hNA2 := Lib.hid hNA2
    replace hVA2 := Lib.hid hVA2
    go_enter Tryd.func51, Tryd.ntmps51
    go_wp2_with (first
      | (go_at_call 54; (with_reducible refine m1.mono ?_); rintro e w1 ⟨rfl, h1, f1⟩; have k2 := cf.out w1 h1; replace f1 := Lib.hid f1; replace h1 := Lib.hid h1; clear m1)
      | (go_at_call 53; (with_reducible refine k2.mono ?_); rintro e w2 ⟨rfl, ⟨⟨q, h2, hq⟩, f2⟩⟩; have c21 := h2.rdr.cell 1; have f21 := h2.rdr.frozen 1; have h2b := h2.bump; have k3 := ca.out _ q h2b hq; replace f2 := Lib.hid f2; replace h2 := Lib.hid h2; replace h2b := Lib.hid h2b; replace hq := Lib.hid hq)
      | (go_at_call 61; (with_reducible refine k3.mono ?_); rintro e w3 ⟨ga, cpa, rfl, hcp, hga, t30, t31, t32, ⟨⟨q3, h3, hq3⟩, f3⟩⟩; have hgaB : w.heap.size ≤ ga := Nat.le_trans (Nat.le_trans (by rw [World.size_alloc]; exact Nat.le_succ _) (f1.out.trans f2.out).size) (Nat.le_trans (Fr.bump (L := L) (R := R) w2 (.int .i64 ((many : Int) + 1))).size hga); have hgl := cell_lt t30; have c3 := h3.rdr.cell 0; have k4 := m2.out w3 q3 h3 hq3; replace f3 := Lib.hid f3; replace h3 := Lib.hid h3; replace hq3 := Lib.hid hq3)
      | (go_at_call 54; (with_reducible refine k4.mono ?_); rintro e w4 ⟨rfl, h4, f4⟩; have c4 := h4.rdr.cell 0; have hq4 := hq3.out.app (s := [47]); have k5 := m3.out w4 (q3 + 1) h4 hq4; replace hq4 := Lib.hid hq4; replace f4 := Lib.hid f4; replace h4 := Lib.hid h4; clear k4)
      | (go_at_call 54; (with_reducible refine k5.mono ?_); rintro e w5 ⟨rfl, h5, f5⟩; have f45 := f4.out.trans f5; have hb45 := f45.block ga hgl (by omega) (by omega); have t50 : w5.cell? ⟨ga, 0, none⟩ = some (.string ⟨#[]⟩) := (World.cell?_of_block hb45).trans t30; have t51 : w5.cell? ⟨ga, 1, none⟩ = some (.string NA) := (World.cell?_of_block hb45).trans t31; have t52 : w5.cell? ⟨ga, 2, none⟩ = some (.string VA) := (World.cell?_of_block hb45).trans t32; have k6 := cn.out w5 _ h5 ga cpa hcp t50 t51 t52; have hw5 : w.heap.size < w5.heap.size := Nat.lt_of_le_of_lt hgaB (Nat.lt_of_lt_of_le hgl f45.size); replace f45 := Lib.hid f45; replace hb45 := Lib.hid hb45; replace f5 := Lib.hid f5; replace h5 := Lib.hid h5)
      | (go_at_call 62; (with_reducible refine k6.mono ?_); rintro e w6 ⟨g2, cap2, rfl, hg2, hg2l, hown2, b6⟩; replace hown2 := Lib.hid hown2; replace b6 := Lib.hid b6))
    have F : Fr L R _ w6 := ((((h0f.out.trans (f1.out.trans f2.out)).trans (Fr.bump w2 (.int .i64 ((many : Int) + 1)))).trans f3.out).trans (f4.out.trans f5.out)).trans (Fr.of_below b6.out)
    have hz7 : Blk w6 w.heap.size 27 #[.string ⟨#[]⟩, .string ⟨#[]⟩, .string ⟨#[]⟩, .slice none 0 0, .slice none 0 0] := (F.block w.heap.size (by simp) (by omega) (by omega)).trans hnew.out
    have hz7 := hz7.alloc (.cells #[.string ⟨#[]⟩, .string N, .string ⟨#[]⟩, .slice (some ⟨g2, 0, none⟩) 1 cap2, .slice none 0 0] 27)
    have hz8 := Blk.new w6 27 #[.string ⟨#[]⟩, .string N, .string ⟨#[]⟩, .slice (some ⟨g2, 0, none⟩) 1 cap2, .slice none 0 0]
    have hw67 : Below w6.heap.size w6 (w6.alloc (.cells #[.string ⟨#[]⟩, .string N, .string ⟨#[]⟩, .slice (some ⟨g2, 0, none⟩) 1 cap2, .slice none 0 0] 27)) := (Below.refl _ _).alloc (Nat.le_refl _) _
    obtain ⟨W, hW⟩ : ∃ W, W = w6.alloc (.cells #[.string ⟨#[]⟩, .string N, .string ⟨#[]⟩, .slice (some ⟨g2, 0, none⟩) 1 cap2, .slice none 0 0] 27) := ⟨_, rfl⟩
    rw [← hW] at hz7 hz8 hw67 ⊢
    obtain ⟨g8, hg8⟩ : ∃ g, g = w6.heap.size := ⟨_, rfl⟩
    obtain ⟨g7, hg7⟩ : ∃ g, g = w.heap.size := ⟨_, rfl⟩
    rw [← hg8] at hz8 ⊢
    rw [← hg7] at hz7 ⊢
    have a0 := hz7.cell 0
    have a1 := hz7.cell 1
    have a2 := hz7.cell 2
    have a3 := hz7.cell 3
    have a4 := hz7.cell 4
    have e0 := hz8.cell 0
    have e1 := hz8.cell 1
    have e2 := hz8.cell 2
    have e3 := hz8.cell 3
    have e4 := hz8.cell 4
    have z0 := hz7.frozen 0
    have z1 := hz7.frozen 1
    have z2 := hz7.frozen 2
    have z3 := hz7.frozen 3
    have z4 := hz7.frozen 4
    replace hz7 := Lib.hid hz7
    replace hz8 := Lib.hid hz8
    replace hW := Lib.hid hW
    replace hw67 := Lib.hid hw67
    replace hg7 := Lib.hid hg7
    replace hg8 := Lib.hid hg8
    replace F := Lib.hid F
    go_region
    have hBV := Lib.hid (((((((Below.refl w.heap.size W).setCell (p := ⟨g7, 0, none⟩) (Nat.le_of_eq hg7.out.symm) (.string ⟨#[]⟩)).setCell (p := ⟨g7, 1, none⟩) (Nat.le_of_eq hg7.out.symm) (.string N)).setCell (p := ⟨g7, 2, none⟩) (Nat.le_of_eq hg7.out.symm) (.string ⟨#[]⟩)).setCell (p := ⟨g7, 3, none⟩) (Nat.le_of_eq hg7.out.symm) (.slice (some ⟨g2, 0, none⟩) 1 cap2)).setCell (p := ⟨g7, 4, none⟩) (Nat.le_of_eq hg7.out.symm) (.slice none 0 0)).drew)
    have hV := (((((hz7.out.set_ 0 (.string ⟨#[]⟩)).set_ 1 (.string N)).set_ 2 (.string ⟨#[]⟩)).set_ 3 (.slice (some ⟨g2, 0, none⟩) 1 cap2)).set_ 4 (.slice none 0 0)).drew
    have hSV0 : Save g7 W ((((((W.setCell ⟨g7, 0, none⟩ (.string ⟨#[]⟩)).setCell ⟨g7, 1, none⟩ (.string N)).setCell ⟨g7, 2, none⟩ (.string ⟨#[]⟩)).setCell ⟨g7, 3, none⟩ (.slice (some ⟨g2, 0, none⟩) 1 cap2)).setCell ⟨g7, 4, none⟩ (.slice none 0 0)).drew) := (put5_save W g7 (.string ⟨#[]⟩) (.string N) (.string ⟨#[]⟩) (.slice (some ⟨g2, 0, none⟩) 1 cap2) (.slice none 0 0)).drawn 1
    have hSV := Lib.hid hSV0
    clear hSV0
    have hWs : W.heap.size = g8 + 1 := by rw [hW.out, hg8.out, World.size_alloc]
    replace hWs := Lib.hid hWs
    generalize ((((((W.setCell ⟨g7, 0, none⟩ (.string ⟨#[]⟩)).setCell ⟨g7, 1, none⟩ (.string N)).setCell ⟨g7, 2, none⟩ (.string ⟨#[]⟩)).setCell ⟨g7, 3, none⟩ (.slice (some ⟨g2, 0, none⟩) 1 cap2)).setCell ⟨g7, 4, none⟩ (.slice none 0 0)).drew) = V at *
    have r0 := hV.cell 0
    have r1 := hV.cell 1
    have r2 := hV.cell 2
    have r3 := hV.cell 3
    have r4 := hV.cell 4
    clear a0 a1 a2 a3 a4 e0 e1 e2 e3 e4 z0 z1 z2 z3 z4 hV
    go_wp2
    refine bodyPost_ret (v := .tuple #[.string ⟨#[]⟩, .string N, .bool true, .agg #[.string ⟨#[]⟩, .string N, .string ⟨#[]⟩, .slice (some ⟨g2, 0, none⟩) 1 cap2, .slice none 0 0], .int .i64 0]) (by simp [results, Tryd.results51, go_sem, r0, r1, r2, r3, r4]) rfl ⟨some ⟨g2, 0, none⟩, 1, cap2, [g2], rfl, ?_, ?_, ⟨q3 + 1 + 1, ?_, hq4.out.app (s := [62])⟩, ?_⟩
    · refine .inr ⟨g2, cap2, rfl, ?_, rfl⟩
      have e1 : atV [(an, av)] = [.string ⟨#[]⟩, .string NA, .string VA] := by show [str [], str an, str av] = _; rw [hNA2.out, hVA2.out]; rfl
      rw [e1]
      have hk : V.heap[g2]? = w6.heap[g2]? := (hSV.out.block g2 (by rw [hWs.out, hg8.out]; omega) (by rw [hg7.out]; omega)).trans (hw67.out.block g2 hg2l)
      exact own_same hown2.out hk
    · intro k hk
      simp at hk
      subst hk
      have := hSV.out.size
      have e2 := hWs.out
      have e3 := hg8.out
      omega
    · exact ((h5.out.below b6.out).below hw67.out).belowB hBV.out hLlt hRlt hAlt.out
    · exact ((Fr.of_below hb0.out).trans (F.out.trans (Fr.of_below hw67.out))).tail hBV.out
end Go.Proofs.YtgomlebemefdcaaDoor

/- The beginning's mark, with one attribute or none. No condition. -/
namespace Go.Proofs.YtgomlebemefdcaaDoor
open Go Go.RowKit Go.Wk Go.Xt Go.Xe
theorem xml_mark {w : World} {L R c p many : Nat} {A : Option Addr} {bs r r' nm : List UInt8} {l : List (List UInt8 × List UInt8)} {closed : Bool} (d : Nat) (hd0 : 0 < d) (hd : d ≤ 1000) (hm : many < 4000) (h : RS w L R A c bs p many) (hr : Rest bs p r) (hM : Xe.Mark r nm l closed r') :
    Calls Tryd.prog 51 #[.pointer (some ⟨R, 0, none⟩), .int .i64 d] w (MarkG w L R A c bs many ⟨nm.toArray⟩ l closed r') := by
  match l, hM with
  | [], hM =>
    refine (xml_mark_nil d hd0 hd hm h hr hM).mono ?_
    rintro e w' ⟨rfl, hE⟩
    exact ⟨none, 0, 0, [], rfl, .inl ⟨rfl, rfl, rfl⟩, by simp, hE⟩
  | [a], hM => exact xml_mark_one d hd0 hd hm h hr hM
  | a :: b :: l, hM =>
    exfalso
    cases hM with
    | «open» _ _ _ _ _ _ _ _ _ hA => cases hA
    | shut _ _ _ _ _ _ _ _ _ hA => cases hA
end Go.Proofs.YtgomlebemefdcaaDoor

/- The reader reads an element. No condition. -/
namespace Go.Proofs.YtgomlebemefdcaaDoor
open Go Go.RowKit Go.Wk Go.Xt Go.Xe
theorem RS.same {w : World} {L R c p many : Nat} {A : Option Addr} {bs : List UInt8} (h : RS w L R A c bs p many) : RS (w.setCell ⟨R, 2, none⟩ (.slice none 0 0)) L R A c bs p many := by
  have hc := h.cur
  have hne : ∀ o, (⟨R, 2, none⟩ : Addr) ≠ ⟨L, o, none⟩ := fun o e => h.ne (by cases e; rfl)
  refine ⟨⟨hc.ne, Save.refl _ _, ?_, ?_, ?_, ⟨hc.byt.1, fun h0 => ?_⟩, hc.le, hc.small⟩, h.rdr.set_ 2 _, h.ne, h.neA, h.cap⟩
  · rw [World.cell?_setCell_other _ _ _ _ (hne 0)]; exact hc.cb
  · rw [World.cell?_setCell_other _ _ _ _ (hne 1)]; exact hc.ca
  · rw [World.frozen?_setCell]; exact hc.fr
  · obtain ⟨b, o, rfl, hcell⟩ := hc.byt.2 h0
    have hb : b ≠ R := h.neA h0 _ rfl
    refine ⟨b, o, rfl, fun i hi => ?_⟩
    rw [World.cell?_setCell_other _ _ _ _ (fun e => hb (congrArg Addr.block e).symm)]
    exact hcell i hi
theorem Fr.bump2 {L R : Nat} (w : World) (u : Value) : Fr L R w (w.setCell ⟨R, 2, none⟩ u) := (Fr.refl L R w).store 2 u
set_option maxHeartbeats 4000000 in
set_option maxRecDepth 100000 in
theorem xml_elem_shut {w : World} {L R c p m d : Nat} {A : Option Addr} {bs r r' nm : List UInt8} {l : List (List UInt8 × List UInt8)} (hd : d ≤ 900) (h : RS w L R A c bs p m) (hr : Rest bs p r) (hm : m < 4000) (hM : Xe.Mark r nm l true r') :
    Calls Tryd.prog 40 #[.pointer (some ⟨R, 0, none⟩), .int .i64 ((d : Int) + 1)] w (ElemR w L R A c bs (.el nm l []) (m + 1) r') := by
  have hb0 : Below w.heap.size w (w.alloc (.cells z5 27)) := (Below.refl _ _).alloc (Nat.le_refl _) _
  have h0 := h.below hb0
  have hnew := Blk.new w 27 z5
  have hRlt := h.rdr.lt
  have hLlt := h.cur.L_lt
  have hAlt := Lib.hid h.A_lt
  obtain ⟨N, hN⟩ : ∃ N : ByteArray, (⟨nm.toArray⟩ : ByteArray) = N := ⟨_, rfl⟩
  have hdi : (((d + 1 : Nat) : Int)) = (d : Int) + 1 := by omega
  have cm := xml_mark (d + 1) (by omega) (by omega) hm h0 hr hM
  rw [hN, hdi] at cm
  have c02 := h0.rdr.cell 2
  replace hN := Lib.hid hN
  replace h0 := Lib.hid h0
  replace hb0 := Lib.hid hb0
  replace hnew := Lib.hid hnew
  clear h hr hM hdi
  go_enter Tryd.func40, Tryd.ntmps40
  go_wp2_with (go_at_call 51; (with_reducible refine cm.mono ?_); rintro e w1 ⟨a1, n1, c1, ba, rfl, hA, hba, ⟨⟨q1, h1, hq1⟩, f1⟩⟩; have hz4 : Blk w1 w.heap.size 27 z5 := (f1.block w.heap.size (by simp) (by omega) (by omega)).trans hnew.out; have hbn : Below w1.heap.size w1 (w1.alloc (.cells #[.string ⟨#[]⟩, .string N, .string ⟨#[]⟩, .slice a1 n1 c1, .slice none 0 0] 27)) := (Below.refl _ _).alloc (Nat.le_refl _) _; have h11 := h1.below hbn; have c21 := h1.rdr.cell 2; have f21 := h1.rdr.frozen 2; have hR1 : R < w1.heap.size := h1.rdr.lt; have hg4 : w.heap.size < w1.heap.size := hz4.lt; have a0 := hz4.cell 0; have a1' := hz4.cell 1; have a2 := hz4.cell 2; have a3 := hz4.cell 3; have a4 := hz4.cell 4; have y0 := hz4.frozen 0; have y1 := hz4.frozen 1; have y2 := hz4.frozen 2; have y3 := hz4.frozen 3; have y4 := hz4.frozen 4; replace h11 := Lib.hid h11; replace hbn := Lib.hid hbn; replace h1 := Lib.hid h1; replace hz4 := Lib.hid hz4; replace hA := Lib.hid hA; replace hba := Lib.hid hba; replace hq1 := Lib.hid hq1; replace f1 := Lib.hid f1)
  obtain ⟨g4, hg⟩ : ∃ g, g = w.heap.size := ⟨_, rfl⟩
  have hzR : Blk (w1.setCell ⟨R, 2, none⟩ (.slice none 0 0)) w.heap.size 27 z5 := hz4.out.far (by show w.heap.size ≠ R; omega) _
  have hV := put5_blk hzR (.string ⟨#[]⟩) (.string N) (.string ⟨#[]⟩) (.slice a1 n1 c1) (.slice none 0 0)
  have hS := put5_save (w1.setCell ⟨R, 2, none⟩ (.slice none 0 0)) w.heap.size (.string ⟨#[]⟩) (.string N) (.string ⟨#[]⟩) (.slice a1 n1 c1) (.slice none 0 0)
  have hR2 := h1.out.same
  have hSR : Save R w1 (w1.setCell ⟨R, 2, none⟩ (.slice none 0 0)) := (Save.refl R w1).store 2 _
  unfold put5 at hV hS
  obtain ⟨U, hU⟩ : ∃ U, U = (((((w1.setCell ⟨R, 2, none⟩ (.slice none 0 0)).setCell ⟨w.heap.size, 0, none⟩ (.string ⟨#[]⟩)).setCell ⟨w.heap.size, 1, none⟩ (.string N)).setCell ⟨w.heap.size, 2, none⟩ (.string ⟨#[]⟩)).setCell ⟨w.heap.size, 3, none⟩ (.slice a1 n1 c1)).setCell ⟨w.heap.size, 4, none⟩ (.slice none 0 0) := ⟨_, rfl⟩
  rw [← hU] at hV hS ⊢
  have hbU : Below U.heap.size U (U.alloc (.cells #[.string ⟨#[]⟩, .string N, .string ⟨#[]⟩, .slice a1 n1 c1, .slice none 0 0] 27)) := (Below.refl _ _).alloc (Nat.le_refl _) _
  have hV2 := hV.alloc (.cells #[.string ⟨#[]⟩, .string N, .string ⟨#[]⟩, .slice a1 n1 c1, .slice none 0 0] 27)
  generalize (U.alloc (.cells #[.string ⟨#[]⟩, .string N, .string ⟨#[]⟩, .slice a1 n1 c1, .slice none 0 0] 27)) = V at *
  have r0 := hV2.cell 0
  have r1 := hV2.cell 1
  have r2 := hV2.cell 2
  have r3 := hV2.cell 3
  have r4 := hV2.cell 4
  have hSV : Save w.heap.size (w1.setCell ⟨R, 2, none⟩ (.slice none 0 0)) V := hS.trans (Save.of_below hbU)
  have hsz2 : (w1.setCell ⟨R, 2, none⟩ (.slice none 0 0)).heap.size = w1.heap.size := by simp [World.setCell]
  have hkeep : ∀ k, k < w1.heap.size → k ≠ R → k ≠ w.heap.size → V.heap[k]? = w1.heap[k]? := fun k h1 h2 h3 => (hSV.block k (by rw [hsz2]; exact h1) h3).trans (hSR.block k h1 h2)
  have hN2 : str nm = .string N := by rw [← hN.out]; rfl
  have hsw : (w.alloc (.cells z5 27)).heap.size = w.heap.size + 1 := World.size_alloc _ _
  refine bodyPost_ret (v := .tuple #[.agg #[.string ⟨#[]⟩, .string N, .string ⟨#[]⟩, .slice a1 n1 c1, .slice none 0 0], .int .i64 0]) (by simp [results, Tryd.results40, go_sem, r0, r1, r2, r3, r4]) rfl ⟨N, a1, n1, c1, none, 0, 0, ba ++ [], rfl, ?_, ?_, ⟨q1, ?_, hq1.out⟩, ?_⟩
  · rw [← hN2]
    exact .el nm l [] _ _ ba [] (hA.out.keep fun k hk => hkeep k (hba.out k hk).2 (by have := (hba.out k hk).1; omega) (by have := (hba.out k hk).1; omega)) .nil
  · intro k hk
    rw [List.append_nil] at hk
    have := hba.out k hk
    have := hSV.size
    omega
  · exact hR2.belowB (hSV.below (Nat.le_refl _) (by omega)) hLlt hRlt hAlt.out
  · exact ((Fr.of_below hb0.out).trans (f1.out.trans (Fr.bump2 w1 (.slice none 0 0)))).tail (hSV.below (Nat.le_refl _) (by omega))
set_option maxHeartbeats 8000000 in
set_option maxRecDepth 100000 in
theorem xml_elem_open {w : World} {L R c p m m2 d : Nat} {A : Option Addr} {bs r r1 r2 r3 r' nm : List UInt8} {l : List (List UInt8 × List UInt8)} {ks : List Nd} (hd : d ≤ 900) (hE : ElemC L R A c bs d) (h : RS w L R A c bs p m) (hr : Rest bs p r) (hm : m < 4000) (hM : Xe.Mark r nm l false r1)
    (hK : Cont (d + 1) (m + 1) [] r1 ks m2 r2) (hn : nameS r2 = nm) (hne : nm ≠ []) (hdr : r2.drop nm.length = r3) (hno : ¬ [58] <+: r3) (hend : r3.drop (ws r3) = 62 :: r') :
    Calls Tryd.prog 40 #[.pointer (some ⟨R, 0, none⟩), .int .i64 ((d : Int) + 1)] w (ElemR w L R A c bs (.el nm l ks) m2 r') := by
  have hb0 : Below w.heap.size w (w.alloc (.cells z5 27)) := (Below.refl _ _).alloc (Nat.le_refl _) _
  have h0 := h.below hb0
  have hnew := Blk.new w 27 z5
  have hRlt := h.rdr.lt
  have hLlt := h.cur.L_lt
  have hAlt := Lib.hid h.A_lt
  obtain ⟨N, hN⟩ : ∃ N : ByteArray, (⟨nm.toArray⟩ : ByteArray) = N := ⟨_, rfl⟩
  have hN2 : str nm = .string N := by rw [← hN]; rfl
  have hdi : (((d + 1 : Nat) : Int)) = (d : Int) + 1 := by omega
  have cm := xml_mark (d + 1) (by omega) (by omega) hm h0 hr hM
  rw [hN, hdi] at cm
  have c02 := h0.rdr.cell 2
  have cc : ∀ W q, RS W L R A c bs q (m + 1) → Rest bs q r1 → Calls Tryd.prog 52 #[.pointer (some ⟨R, 0, none⟩), .int .i64 ((d : Int) + 1)] W (ContR W L R A c bs ks m2 r2) := fun W q hW hq => xml_content (by omega) hE hW hq hK
  have cf : ∀ W q, RS W L R A c bs q m2 → Rest bs q r2 → Calls Tryd.prog 53 #[.pointer (some ⟨R, 0, none⟩)] W fun e w' => e = .returned (.tuple #[.string ⟨#[]⟩, .string N, .int .i64 0]) ∧ End W L R A c bs m2 r3 w' := fun W q hW hq => by
    have := xml_full hW hq hn hne (by rw [hdr]; exact hno)
    rw [hdr, hN2] at this
    exact this
  have cb : ∀ W q, RS W L R A c bs q m2 → Rest bs q r3 → Calls Tryd.prog 49 #[.pointer (some ⟨R, 0, none⟩)] W fun e w' => e = .returned (.int .i64 (ws r3 : Nat)) ∧ RS w' L R A c bs (q + ws r3) m2 ∧ Fr L R W w' := fun W q hW hq => xml_blank hW hq.eq
  have cg : ∀ W q, RS W L R A c bs q m2 → Rest bs q (62 :: r') → Calls Tryd.prog 54 #[.pointer (some ⟨L, 0, none⟩), .string ⟨#[62]⟩] W fun e w' => e = .returned (.bool true) ∧ RS w' L R A c bs (q + 1) m2 ∧ Fr L R W w' := fun W q hW hq => rs_yes hW ⟨#[62]⟩ r' (by decide) (by decide) hq.eq
  have hws : ∀ q, Rest bs q r3 → Rest bs (q + ws r3) (62 :: r') := fun q h => by rw [← hend]; exact h.ws_
  replace hN := Lib.hid hN
  replace hN2 := Lib.hid hN2
  replace h0 := Lib.hid h0
  replace hb0 := Lib.hid hb0
  replace hnew := Lib.hid hnew
  replace cc := Lib.hid cc
  replace cf := Lib.hid cf
  replace cb := Lib.hid cb
  replace cg := Lib.hid cg
  replace hws := Lib.hid hws
  clear h hr hM hdi hK hn hne hdr hno hend hE
  generalize ws r3 = nw at *
  go_enter Tryd.func40, Tryd.ntmps40
  go_wp2_with (first
    | (go_at_call 51; (with_reducible refine cm.mono ?_); rintro e w1 ⟨a1, n1, c1, ba, rfl, hA, hba, ⟨⟨q1, h1, hq1⟩, f1⟩⟩; have hz4 : Blk w1 w.heap.size 27 z5 := (f1.block w.heap.size (by simp) (by omega) (by omega)).trans hnew.out; have hbn : Below w1.heap.size w1 (w1.alloc (.cells #[.string ⟨#[]⟩, .string N, .string ⟨#[]⟩, .slice a1 n1 c1, .slice none 0 0] 27)) := (Below.refl _ _).alloc (Nat.le_refl _) _; have hzb := Blk.new w1 27 #[.string ⟨#[]⟩, .string N, .string ⟨#[]⟩, .slice a1 n1 c1, .slice none 0 0]; have hsb : (w1.alloc (.cells #[.string ⟨#[]⟩, .string N, .string ⟨#[]⟩, .slice a1 n1 c1, .slice none 0 0] 27)).heap.size = w1.heap.size + 1 := World.size_alloc _ _; have h11 := h1.below hbn; have hz44 := hz4.alloc (.cells #[.string ⟨#[]⟩, .string N, .string ⟨#[]⟩, .slice a1 n1 c1, .slice none 0 0] 27); have kc := cc.out _ q1 h11 hq1; have hR1 : R < w1.heap.size := h1.rdr.lt; have hL1 : L < w1.heap.size := h1.cur.L_lt; have hg4 : w.heap.size < w1.heap.size := hz4.lt; replace h11 := Lib.hid h11; replace hbn := Lib.hid hbn; replace h1 := Lib.hid h1; replace hz4 := Lib.hid hz4; replace hz44 := Lib.hid hz44; replace hzb := Lib.hid hzb; replace hsb := Lib.hid hsb; replace hA := Lib.hid hA; replace hba := Lib.hid hba; replace hq1 := Lib.hid hq1; replace f1 := Lib.hid f1)
    | (go_at_call 52; (with_reducible refine kc.mono ?_); rintro e w2 ⟨a5, n5, cp5, bk, rfl, hks, hbk, ⟨⟨q2, h2, hq2⟩, f2⟩⟩; have hzb2 : Blk w2 w1.heap.size 27 #[.string ⟨#[]⟩, .string N, .string ⟨#[]⟩, .slice a1 n1 c1, .slice none 0 0] := (f2.block w1.heap.size (by rw [hsb.out]; omega) (by omega) (by omega)).trans hzb.out; have hz42 : Blk w2 w.heap.size 27 z5 := (f2.block w.heap.size (by rw [hsb.out]; omega) (by omega) (by omega)).trans hz44.out; have b4 := hzb2.cell 4; have b4f := hzb2.frozen 4; have hB2 : Below w.heap.size w2 (w2.setCell ⟨w1.heap.size, 4, none⟩ (.slice a5 n5 cp5)) := (Below.refl w.heap.size w2).setCell (p := ⟨w1.heap.size, 4, none⟩) (Nat.le_of_lt hg4) _; have h22 := h2.belowB hB2 hLlt hRlt hAlt.out; have kf := cf.out _ q2 h22 hq2; have hzb3 := hzb2.set_ 4 (.slice a5 n5 cp5); have hz43 : Blk (w2.setCell ⟨w1.heap.size, 4, none⟩ (.slice a5 n5 cp5)) w.heap.size 27 z5 := hz42.far (by show w.heap.size ≠ w1.heap.size; omega) _; have hlt2 : w1.heap.size < (w2.setCell ⟨w1.heap.size, 4, none⟩ (.slice a5 n5 cp5)).heap.size := hzb3.lt; replace h2 := Lib.hid h2; replace h22 := Lib.hid h22; replace hq2 := Lib.hid hq2; replace f2 := Lib.hid f2; replace hks := Lib.hid hks; replace hbk := Lib.hid hbk; replace hzb2 := Lib.hid hzb2; replace hz42 := Lib.hid hz42; replace hzb3 := Lib.hid hzb3; replace hz43 := Lib.hid hz43; replace hB2 := Lib.hid hB2; replace hlt2 := Lib.hid hlt2)
    | (go_at_call 53; (with_reducible refine kf.mono ?_); rintro e w3 ⟨rfl, ⟨⟨q3, h3, hq3⟩, f3⟩⟩; have kb := cb.out w3 q3 h3 hq3; have hq4 := hws.out q3 hq3; replace h3 := Lib.hid h3; replace hq3 := Lib.hid hq3; replace f3 := Lib.hid f3; replace hq4 := Lib.hid hq4)
    | (go_at_call 49; (with_reducible refine kb.mono ?_); rintro e w4 ⟨rfl, h4, f4⟩; have kg := cg.out w4 _ h4 hq4.out; have c40 := h4.rdr.cell 0; replace h4 := Lib.hid h4; replace f4 := Lib.hid f4)
    | (go_at_call 54; (with_reducible refine kg.mono ?_); rintro e w5 ⟨rfl, h5, f5⟩; have F5 := f3.out.trans (f4.out.trans f5); have hz45 : Blk w5 w.heap.size 27 z5 := (F5.block w.heap.size (by have := hlt2.out; omega) (by omega) (by omega)).trans hz43.out; have hzb5 : Blk w5 w1.heap.size 27 #[.string ⟨#[]⟩, .string N, .string ⟨#[]⟩, .slice a1 n1 c1, .slice a5 n5 cp5] := (F5.block w1.heap.size hlt2.out (by omega) (by omega)).trans hzb3.out; have c52 := h5.rdr.cell 2; have c52f := h5.rdr.frozen 2; have e0 := hzb5.cell 0; have e1 := hzb5.cell 1; have e2 := hzb5.cell 2; have e3 := hzb5.cell 3; have e4 := hzb5.cell 4; have a0 := hz45.cell 0; have a1' := hz45.cell 1; have a2 := hz45.cell 2; have a3 := hz45.cell 3; have a4 := hz45.cell 4; have y0 := hz45.frozen 0; have y1 := hz45.frozen 1; have y2 := hz45.frozen 2; have y3 := hz45.frozen 3; have y4 := hz45.frozen 4; replace F5 := Lib.hid F5; replace h5 := Lib.hid h5; replace hz45 := Lib.hid hz45; replace hzb5 := Lib.hid hzb5; replace f5 := Lib.hid f5))
  have hzR : Blk (w5.setCell ⟨R, 2, none⟩ (.slice none 0 0)) w.heap.size 27 z5 := hz45.out.far (by show w.heap.size ≠ R; omega) _
  have hV := put5_blk hzR (.string ⟨#[]⟩) (.string N) (.string ⟨#[]⟩) (.slice a1 n1 c1) (.slice a5 n5 cp5)
  have hSV := put5_save (w5.setCell ⟨R, 2, none⟩ (.slice none 0 0)) w.heap.size (.string ⟨#[]⟩) (.string N) (.string ⟨#[]⟩) (.slice a1 n1 c1) (.slice a5 n5 cp5)
  have hR2 := h5.out.same
  have hSR : Save R w5 (w5.setCell ⟨R, 2, none⟩ (.slice none 0 0)) := (Save.refl R w5).store 2 _
  unfold put5 at hV hSV
  obtain ⟨V, hU⟩ : ∃ U, U = (((((w5.setCell ⟨R, 2, none⟩ (.slice none 0 0)).setCell ⟨w.heap.size, 0, none⟩ (.string ⟨#[]⟩)).setCell ⟨w.heap.size, 1, none⟩ (.string N)).setCell ⟨w.heap.size, 2, none⟩ (.string ⟨#[]⟩)).setCell ⟨w.heap.size, 3, none⟩ (.slice a1 n1 c1)).setCell ⟨w.heap.size, 4, none⟩ (.slice a5 n5 cp5) := ⟨_, rfl⟩
  rw [← hU] at hV hSV ⊢
  have r0 := hV.cell 0
  have r1 := hV.cell 1
  have r2 := hV.cell 2
  have r3 := hV.cell 3
  have r4 := hV.cell 4
  have hsz5 : (w5.setCell ⟨R, 2, none⟩ (.slice none 0 0)).heap.size = w5.heap.size := by simp [World.setCell]
  have k5 : ∀ k, k < w5.heap.size → k ≠ R → k ≠ w.heap.size → V.heap[k]? = w5.heap[k]? := fun k h1 h2 h3 => (hSV.block k (by rw [hsz5]; exact h1) h3).trans (hSR.block k h1 h2)
  have hsz2 : (w2.setCell ⟨w1.heap.size, 4, none⟩ (.slice a5 n5 cp5)).heap.size = w2.heap.size := by simp [World.setCell]
  have z25 := F5.out.size
  rw [hsz2] at z25
  have k2 : ∀ k, k < w2.heap.size → k ≠ L → k ≠ R → k ≠ w.heap.size → k ≠ w1.heap.size → V.heap[k]? = w2.heap[k]? := fun k h1 h2 h3 h4 h5 =>
    (k5 k (by omega) h3 h4).trans ((F5.out.block k (by rw [hsz2]; exact h1) h2 h3).trans (Below.heap_setCell _ _ _ _ h5))
  have z12 := f2.out.size
  rw [hsb.out] at z12
  have k1 : ∀ k, k < w1.heap.size → k ≠ L → k ≠ R → k ≠ w.heap.size → V.heap[k]? = w1.heap[k]? := fun k h1 h2 h3 h4 =>
    (k2 k (by omega) h2 h3 h4 (by omega)).trans ((f2.out.block k (by rw [hsb.out]; omega) h2 h3).trans (hbn.out.block k h1))
  have hsw : (w.alloc (.cells z5 27)).heap.size = w.heap.size + 1 := World.size_alloc _ _
  have z5V := hSV.size
  rw [hsz5] at z5V
  refine bodyPost_ret (v := .tuple #[.agg #[.string ⟨#[]⟩, .string N, .string ⟨#[]⟩, .slice a1 n1 c1, .slice a5 n5 cp5], .int .i64 0]) (by simp [results, Tryd.results40, go_sem, r0, r1, r2, r3, r4]) rfl ⟨N, a1, n1, c1, a5, n5, cp5, ba ++ bk, rfl, ?_, ?_, ⟨_, ?_, hq4.out.app (s := [62])⟩, ?_⟩
  · rw [← hN2.out]
    refine .el nm l ks _ _ ba bk (hA.out.keep fun k hk => ?_) (KsAt.keep hks.out fun k hk => ?_)
    · have := hba.out k hk
      exact k1 k this.2 (by omega) (by omega) (by omega)
    · have := hbk.out k hk
      rw [hsb.out] at this
      exact k2 k this.2 (by omega) (by omega) (by omega) (by omega)
  · intro k hk
    rcases List.mem_append.1 hk with hk | hk
    · have := hba.out k hk
      omega
    · have := hbk.out k hk
      rw [hsb.out] at this
      omega
  · exact hR2.belowB (hSV.below (Nat.le_refl _) (by rw [hsz5]; omega)) hLlt hRlt hAlt.out
  · exact (((((Fr.of_below hb0.out).trans f1.out).trans ((Fr.of_below hbn.out).trans f2.out)).tail hB2.out).trans (F5.out.trans (Fr.bump2 w5 (.slice none 0 0)))).tail (hSV.below (Nat.le_refl _) (by rw [hsz5]; omega))
theorem mark_ne {r r' nm : List UInt8} {l : List (List UInt8 × List UInt8)} {cl : Bool} : Xe.Mark r nm l cl r' → nm ≠ []
  | .open _ _ _ _ _ _ h _ _ _ => h
  | .shut _ _ _ _ _ _ h _ _ _ => h
theorem xml_element {L R c : Nat} {A : Option Addr} {bs : List UInt8} : ∀ d, d ≤ 900 → ElemC L R A c bs d := by
  intro d
  induction d with
  | zero =>
    intro _ w p m r n m2 r' _ _ hE
    cases hE
  | succ d ih =>
    intro hd w p m r n m2 r' hS hr hE
    have hdi : (((d + 1 : Nat) : Int)) = (d : Int) + 1 := by omega
    rw [hdi]
    match hE with
    | .shut _ _ _ nm l r1 hm hM => exact xml_elem_shut (by omega) hS hr hm hM
    | .open _ _ _ _ nm l r1 ks r2 r3 r4 hm hM hC hn hdr hno hend =>
      exact xml_elem_open (by omega) (ih (by omega)) hS hr hm hM hC hn (mark_ne hM) hdr hno hend
end Go.Proofs.YtgomlebemefdcaaDoor

/- Elements in one another: they are read; one too many is too deep. No condition. -/
namespace Go.Xe
def low (n : UInt8) : Prop := 97 ≤ n.toNat ∧ n.toNat ≤ 122
def nestS : Bs → Bs
  | [] => [116]
  | n :: l => [60, n, 62] ++ nestS l ++ [60, 47, n, 62]
def nestN : Bs → Nd
  | [] => .tx [116]
  | n :: l => .el [n] [] [nestN l]
theorem low_begins {n : UInt8} (h : low n) : beginsB n = true := by
  unfold beginsB; simp [h.1, h.2]
theorem low_goes {n : UInt8} (h : low n) : goesB n = true := by unfold goesB; rw [low_begins h]; rfl
theorem goes_62 : goesB 62 = false := by decide
theorem name_low {n : UInt8} (h : low n) (r : Bs) : nameS (n :: 62 :: r) = [n] := by
  unfold nameS
  simp [low_begins h, List.takeWhile_cons, low_goes h, goes_62]
theorem ws_62 (r : Bs) : ws (62 :: r) = 0 := by simp [ws, List.takeWhile_cons, whiteB]
theorem mark_low {n : UInt8} (h : low n) (r : Bs) : Mark (60 :: n :: 62 :: r) [n] [] false r := by
  refine .open _ [n] [] (62 :: r) r (name_low h r) (by simp) rfl (by simp [List.cons_prefix_cons]) (.nil _ _ 62 (by rw [ws_62]; rfl) (.inr rfl))
theorem low_ne {n : UInt8} (h : low n) (k : UInt8) (hk : k.toNat < 97) : n ≠ k := by rintro rfl; have := h.1; omega
theorem misc_low {n : UInt8} (h : low n) (r : Bs) : Misc (60 :: n :: r) false (60 :: n :: r) :=
  .no _ (by simp [List.cons_prefix_cons]; intro e; exact absurd e.symm (low_ne h 33 (by decide))) (by simp [List.cons_prefix_cons]; exact fun e => absurd e.symm (low_ne h 63 (by decide)))
theorem misc_end (r : Bs) : Misc (60 :: 47 :: r) false (60 :: 47 :: r) := .no _ (by simp [List.cons_prefix_cons]) (by simp [List.cons_prefix_cons])
theorem cont_end (d m : Nat) (r : Bs) : Cont d m [] (60 :: 47 :: r) [] m r := by
  have := Cont.done d m [] (60 :: 47 :: r) [] (60 :: 47 :: r) r (.stop 60 _ (.inl rfl)) (misc_end r) rfl
  simpa using this
theorem deep_elem : ∀ (l : Bs) (d m : Nat) (r : Bs), l ≠ [] → (∀ n ∈ l, low n) → l.length ≤ d → m + l.length ≤ 4000 → Elem d m (nestS l ++ r) (nestN l) (m + l.length) r := by
  intro l
  induction l with
  | nil => intro d m r h; exact absurd rfl h
  | cons n l ih =>
    intro d m r _ hl hd hm
    have hn := hl n (by simp)
    obtain ⟨d, rfl⟩ : ∃ d', d = d' + 1 := ⟨d - 1, by simp at hd; omega⟩
    have e : nestS (n :: l) ++ r = 60 :: n :: 62 :: (nestS l ++ ([60, 47, n, 62] ++ r)) := by simp [nestS]
    rw [e]
    have hc : Cont (d + 1) (m + 1) [] (nestS l ++ ([60, 47, n, 62] ++ r)) [nestN l] (m + (n :: l).length) (n :: 62 :: r) := by
      cases l with
      | nil =>
        have := Cont.done (d + 1) (m + 1) [] (116 :: 60 :: 47 :: n :: 62 :: r) [116] (60 :: 47 :: n :: 62 :: r) (n :: 62 :: r) (.byte 116 _ _ _ (by decide) (by decide) (by decide) (.stop 60 _ (.inl rfl))) (misc_end _) rfl
        exact this
      | cons n' l' =>
        have hn' := hl n' (by simp)
        have := ih d (m + 1) ([60, 47, n, 62] ++ r) (by simp) (fun x hx => hl x (by simp at hx ⊢; right; exact hx)) (by simp at hd ⊢; omega) (by simp at hm ⊢; omega)
        have e2 : nestS (n' :: l') ++ ([60, 47, n, 62] ++ r) = 60 :: n' :: 62 :: (nestS l' ++ ([60, 47, n', 62] ++ ([60, 47, n, 62] ++ r))) := by simp [nestS]
        have hz : (m + 1) + (n' :: l').length = m + (n :: n' :: l').length := by simp; omega
        rw [hz] at this
        have h2 := Cont.elem d (m + 1) _ _ [] _ [] _ _ (nestN (n' :: l')) [] (n :: 62 :: r) (by rw [e2]; exact .stop 60 _ (.inl rfl)) (by rw [e2]; exact misc_low hn' _) (by rw [e2]; simp [List.cons_prefix_cons]; exact fun e => absurd e.symm (low_ne hn' 47 (by decide))) this (cont_end _ _ _)
        rw [e2]; exact h2
    refine .open d m _ _ [n] [] _ [nestN l] (n :: 62 :: r) (62 :: r) r (by simp at hm; omega) (mark_low hn _) hc (name_low hn r) rfl (by simp [List.cons_prefix_cons]) (by rw [ws_62]; rfl)
mutual
/-- too deep -/
inductive ElemD : Nat → Nat → Bs → Prop
  | here (m : Nat) (r nm : Bs) : nameS r = nm → nm ≠ [] → ¬ [58] <+: r.drop nm.length → m < 4000 → ElemD 0 m (60 :: r)
  | in_ (d m : Nat) (r nm : Bs) (l : List (Bs × Bs)) (r1 : Bs) : m < 4000 → Mark r nm l false r1 → ContD (d + 1) (m + 1) [] r1 → ElemD (d + 1) m r
inductive ContD : Nat → Nat → Bs → Bs → Prop
  | elem (d m : Nat) (r : Bs) : Txt (-1) r [] r → Misc r false r → ¬ [60, 47] <+: r → ElemD d m r → ContD (d + 1) m [] r
end
theorem deep_too : ∀ (l : Bs) (d m : Nat) (r : Bs), (∀ n ∈ l, low n) → d < l.length → m + l.length ≤ 4000 → ElemD d m (nestS l ++ r) := by
  intro l
  induction l with
  | nil => intro d m r _ h; simp at h
  | cons n l ih =>
    intro d m r hl hd hm
    have hn := hl n (by simp)
    have e : nestS (n :: l) ++ r = 60 :: n :: 62 :: (nestS l ++ ([60, 47, n, 62] ++ r)) := by simp [nestS]
    rw [e]
    cases d with
    | zero => exact .here m _ [n] (name_low hn _) (by simp) (by simp [List.cons_prefix_cons]) (by simp at hm; omega)
    | succ d =>
      cases l with
      | nil => simp at hd
      | cons n' l' =>
        have hn' := hl n' (by simp)
        have := ih d (m + 1) ([60, 47, n, 62] ++ r) (fun x hx => hl x (by simp at hx ⊢; right; exact hx)) (by simp at hd ⊢; omega) (by simp at hm ⊢; omega)
        have e2 : nestS (n' :: l') ++ ([60, 47, n, 62] ++ r) = 60 :: n' :: 62 :: (nestS l' ++ ([60, 47, n', 62] ++ ([60, 47, n, 62] ++ r))) := by simp [nestS]
        exact .in_ d m _ [n] [] _ (by simp at hm; omega) (mark_low hn _) (.elem d (m + 1) _ (by rw [e2]; exact .stop 60 _ (.inl rfl)) (by rw [e2]; exact misc_low hn' _) (by rw [e2]; simp [List.cons_prefix_cons]; exact fun e => absurd e.symm (low_ne hn' 47 (by decide))) this)
end Go.Xe

/- The reader meets an element too deep. No condition. -/
namespace Go.Proofs.YtgomlebemefdcaaDoor
open Go Go.RowKit Go.Wk Go.Xt Go.Xe
def DeepE (w : World) (L R : Nat) (e : Ending) (w' : World) : Prop := e = .returned (.tuple #[.agg z5, .int .i64 6]) ∧ Fr L R w w'
set_option maxHeartbeats 4000000 in
set_option maxRecDepth 100000 in
theorem xml_mark_deep {w : World} {L R c p many : Nat} {A : Option Addr} {bs r nm : List UInt8} (hm : many < 4000) (h : RS w L R A c bs p many) (hr : Rest bs p (60 :: r)) (hn : nameS r = nm) (hne : nm ≠ []) (hno : ¬ [58] <+: r.drop nm.length) :
    Calls Tryd.prog 51 #[.pointer (some ⟨R, 0, none⟩), .int .i64 0] w fun e w' => e = .returned (.tuple #[.string ⟨#[]⟩, .string ⟨#[]⟩, .bool false, .agg z5, .int .i64 6]) ∧ Fr L R w w' := by
  have hb0 : Below w.heap.size w (w.alloc (.cells z5 27)) := (Below.refl _ _).alloc (Nat.le_refl _) _
  have h0 := h.below hb0
  have hnew := Blk.new w 27 z5
  have c0 := h0.rdr.cell 0
  have hRlt := h.rdr.lt
  have hLlt := h.cur.L_lt
  obtain ⟨N, hN⟩ : ∃ N : ByteArray, (⟨nm.toArray⟩ : ByteArray) = N := ⟨_, rfl⟩
  have hN2 : str nm = .string N := by rw [← hN]; rfl
  have m1 : Calls Tryd.prog 54 #[.pointer (some ⟨L, 0, none⟩), .string ⟨#[60]⟩] _ fun e w' => e = .returned (.bool true) ∧ RS w' L R A c bs (p + 1) many ∧ Fr L R _ w' := rs_yes h0 ⟨#[60]⟩ r (by decide) (by decide) hr.eq
  have hr1 : Rest bs (p + 1) r := hr.app (s := [60])
  have cf := fun w1 (h1 : RS w1 L R A c bs (p + 1) many) => xml_full h1 hr1 hn hne hno
  simp only [hN2] at cf
  replace cf := Lib.hid cf
  replace h0 := Lib.hid h0
  replace hnew := Lib.hid hnew
  replace hb0 := Lib.hid hb0
  clear hn hne hno h hr hr1 hN hN2
  go_enter Tryd.func51, Tryd.ntmps51
  go_wp2_with (first
    | (go_at_call 54; (with_reducible refine m1.mono ?_); rintro e w1 ⟨rfl, h1, f1⟩; have k2 := cf.out w1 h1; replace f1 := Lib.hid f1; replace h1 := Lib.hid h1; clear m1)
    | (go_at_call 53; (with_reducible refine k2.mono ?_); rintro e w2 ⟨rfl, ⟨⟨q, h2, hq⟩, f2⟩⟩; have F := f1.out.trans f2; have hz : Blk w2 w.heap.size 27 z5 := (F.block w.heap.size (by simp) (by omega) (by omega)).trans hnew.out; have c21 := h2.rdr.cell 1; have f21 := h2.rdr.frozen 1; have a0 := hz.cell 0; have a1 := hz.cell 1; have a2 := hz.cell 2; have a3 := hz.cell 3; have a4 := hz.cell 4; have y0 := hz.frozen 0; have y1 := hz.frozen 1; have y2 := hz.frozen 2; have y3 := hz.frozen 3; have y4 := hz.frozen 4; replace F := Lib.hid F; replace hz := Lib.hid hz; replace f2 := Lib.hid f2; replace h2 := Lib.hid h2; replace hq := Lib.hid hq))
  have hzR : Blk (w2.setCell ⟨R, 1, none⟩ (.int .i64 ((many : Int) + 1))) w.heap.size 27 z5 := hz.out.far (by show w.heap.size ≠ R; omega) _
  have hV := put5_blk hzR (.string ⟨#[]⟩) (.string ⟨#[]⟩) (.string ⟨#[]⟩) (.slice none 0 0) (.slice none 0 0)
  have hSV := put5_save (w2.setCell ⟨R, 1, none⟩ (.int .i64 ((many : Int) + 1))) w.heap.size (.string ⟨#[]⟩) (.string ⟨#[]⟩) (.string ⟨#[]⟩) (.slice none 0 0) (.slice none 0 0)
  unfold put5 at hV hSV
  obtain ⟨V, hU⟩ : ∃ U, U = (((((w2.setCell ⟨R, 1, none⟩ (.int .i64 ((many : Int) + 1))).setCell ⟨w.heap.size, 0, none⟩ (.string ⟨#[]⟩)).setCell ⟨w.heap.size, 1, none⟩ (.string ⟨#[]⟩)).setCell ⟨w.heap.size, 2, none⟩ (.string ⟨#[]⟩)).setCell ⟨w.heap.size, 3, none⟩ (.slice none 0 0)).setCell ⟨w.heap.size, 4, none⟩ (.slice none 0 0) := ⟨_, rfl⟩
  rw [← hU] at hV hSV ⊢
  have r0 := hV.cell 0
  have r1 := hV.cell 1
  have r2 := hV.cell 2
  have r3 := hV.cell 3
  have r4 := hV.cell 4
  have hsz2 : (w2.setCell ⟨R, 1, none⟩ (.int .i64 ((many : Int) + 1))).heap.size = w2.heap.size := by simp [World.setCell]
  refine bodyPost_ret (v := .tuple #[.string ⟨#[]⟩, .string ⟨#[]⟩, .bool false, .agg z5, .int .i64 6]) (by simp [results, Tryd.results51, go_sem, r0, r1, r2, r3, r4]) rfl ⟨rfl, ?_⟩
  have := F.out.size
  exact ((Fr.of_below hb0.out).trans (F.out.trans (Fr.bump w2 _))).tail (hSV.below (Nat.le_refl _) (by rw [hsz2]; simp at this; omega))
set_option maxHeartbeats 4000000 in
set_option maxRecDepth 100000 in
theorem xml_elem_here {w : World} {L R c p m : Nat} {A : Option Addr} {bs r nm : List UInt8} (hm : m < 4000) (h : RS w L R A c bs p m) (hr : Rest bs p (60 :: r)) (hn : nameS r = nm) (hne : nm ≠ []) (hno : ¬ [58] <+: r.drop nm.length) :
    Calls Tryd.prog 40 #[.pointer (some ⟨R, 0, none⟩), .int .i64 0] w (DeepE w L R) := by
  have hb0 : Below w.heap.size w (w.alloc (.cells z5 27)) := (Below.refl _ _).alloc (Nat.le_refl _) _
  have h0 := h.below hb0
  have hnew := Blk.new w 27 z5
  have c02 := h0.rdr.cell 2
  have hRlt := h.rdr.lt
  have hLlt := h.cur.L_lt
  have cm := xml_mark_deep hm h0 hr hn hne hno
  replace h0 := Lib.hid h0
  replace hnew := Lib.hid hnew
  replace hb0 := Lib.hid hb0
  clear hn hne hno h hr
  go_enter Tryd.func40, Tryd.ntmps40
  go_wp2_with (go_at_call 51; (with_reducible refine cm.mono ?_); rintro e w1 ⟨rfl, f1⟩; have hz : Blk w1 w.heap.size 27 z5 := (f1.block w.heap.size (by simp) (by omega) (by omega)).trans hnew.out; have hg4 : w.heap.size < w1.heap.size := hz.lt; have a0 := hz.cell 0; have a1 := hz.cell 1; have a2 := hz.cell 2; have a3 := hz.cell 3; have a4 := hz.cell 4; have y0 := hz.frozen 0; have y1 := hz.frozen 1; have y2 := hz.frozen 2; have y3 := hz.frozen 3; have y4 := hz.frozen 4; replace hz := Lib.hid hz; replace f1 := Lib.hid f1)
  have hzR := hz.out
  have hV := put5_blk hzR (.string ⟨#[]⟩) (.string ⟨#[]⟩) (.string ⟨#[]⟩) (.slice none 0 0) (.slice none 0 0)
  have hSV := put5_save (w1) w.heap.size (.string ⟨#[]⟩) (.string ⟨#[]⟩) (.string ⟨#[]⟩) (.slice none 0 0) (.slice none 0 0)
  unfold put5 at hV hSV
  obtain ⟨V, hU⟩ : ∃ U, U = (((((w1).setCell ⟨w.heap.size, 0, none⟩ (.string ⟨#[]⟩)).setCell ⟨w.heap.size, 1, none⟩ (.string ⟨#[]⟩)).setCell ⟨w.heap.size, 2, none⟩ (.string ⟨#[]⟩)).setCell ⟨w.heap.size, 3, none⟩ (.slice none 0 0)).setCell ⟨w.heap.size, 4, none⟩ (.slice none 0 0) := ⟨_, rfl⟩
  rw [← hU] at hV hSV ⊢
  have hbU : Below V.heap.size V (V.alloc (.cells z5 27)) := (Below.refl _ _).alloc (Nat.le_refl _) _
  have hV2 := hV.alloc (.cells z5 27)
  obtain ⟨X, hX⟩ : ∃ X, X = V.alloc (.cells z5 27) := ⟨_, rfl⟩
  have hX2 : V.alloc (.cells #[.string ⟨#[]⟩, .string ⟨#[]⟩, .string ⟨#[]⟩, .slice none 0 0, .slice none 0 0] 27) = X := hX.symm
  rw [← hX] at hbU hV2
  rw [hX2]
  have r0 := hV2.cell 0
  have r1 := hV2.cell 1
  have r2 := hV2.cell 2
  have r3 := hV2.cell 3
  have r4 := hV2.cell 4
  refine bodyPost_ret (v := .tuple #[.agg z5, .int .i64 6]) (by simp [results, Tryd.results40, go_sem, r0, r1, r2, r3, r4]) rfl ⟨rfl, ?_⟩
  exact ((Fr.of_below hb0.out).trans f1.out).tail ((hSV.trans (Save.of_below hbU)).below (Nat.le_refl _) (by omega))
def DeepC (L R : Nat) (A : Option Addr) (c : Nat) (bs : List UInt8) (d : Nat) : Prop :=
  ∀ w p m r, RS w L R A c bs p m → Rest bs p r → ElemD d m r → Calls Tryd.prog 40 #[.pointer (some ⟨R, 0, none⟩), .int .i64 (d : Int)] w (DeepE w L R)
set_option maxHeartbeats 4000000 in
set_option maxRecDepth 100000 in
theorem xml_cont_deep {w : World} {L R c p m d : Nat} {A : Option Addr} {bs r : List UInt8} (hd : d ≤ 1000) (hE : DeepC L R A c bs d) (h : RS w L R A c bs p m) (hr : Rest bs p r) (hT : Txt (-1) r [] r) (hM : Misc r false r) (hx3 : ¬ [60, 47] <+: r) (hEl : ElemD d m r) :
    Calls Tryd.prog 52 #[.pointer (some ⟨R, 0, none⟩), .int .i64 ((d : Int) + 1)] w fun e w' => e = .returned (.tuple #[.slice none 0 0, .int .i64 6]) ∧ Fr L R w w' := by
  have ct : Calls Tryd.prog 63 #[.pointer (some ⟨R, 0, none⟩), .int .i64 (-1)] w fun e w' => e = .returned (.tuple #[.string ⟨#[]⟩, .int .i64 0]) ∧ End w L R A c bs m r w' := xml_text (-1) (by omega) h hr hT
  have cm := fun w1 q1 (h1 : RS w1 L R A c bs q1 m) (hq1 : Rest bs q1 r) => xml_misc h1 hq1 hM
  have c54 : ∀ w2 q2, RS w2 L R A c bs q2 m → Rest bs q2 r → Calls Tryd.prog 54 #[.pointer (some ⟨L, 0, none⟩), .string ⟨#[60, 47]⟩] w2 fun e w' => e = .returned (.bool false) ∧ RS w' L R A c bs q2 m ∧ Fr L R w2 w' := fun w2 q2 h2 hq2 => rs_no h2 ⟨#[60, 47]⟩ (by decide) (by decide) (by rw [hq2.eq]; exact hx3)
  have cE := fun w3 q3 (h3 : RS w3 L R A c bs q3 m) (hq3 : Rest bs q3 r) => hE w3 q3 m r h3 hq3 hEl
  have hee : ((⟨#[]⟩ : ByteArray) ++ ⟨#[]⟩).toList.isEmpty = true := by rw [ByteArray.toList_eq]; rfl
  replace cm := Lib.hid cm
  replace c54 := Lib.hid c54
  replace cE := Lib.hid cE
  clear hE h hr hT hM hx3 hEl
  go_enter Tryd.func52, Tryd.ntmps52
  go_wp2
  refine wp_loop_rounds 1 ?_; rw [rounds_succ]
  go_wp2_with (first
    | (go_at_call 63; (with_reducible refine ct.mono ?_); rintro e w1 ⟨rfl, ⟨⟨q1, h1, hq1⟩, f1⟩⟩; have k2 := cm.out w1 q1 h1 hq1; replace f1 := Lib.hid f1; replace h1 := Lib.hid h1; replace hq1 := Lib.hid hq1)
    | (go_at_call 50; (with_reducible refine k2.mono ?_); rintro e w2 ⟨rfl, ⟨⟨q2, h2, hq2⟩, f2⟩⟩; have c2 := h2.rdr.cell 0; have k3 := c54.out w2 q2 h2 hq2; replace f2 := Lib.hid f2; replace h2 := Lib.hid h2; replace hq2 := Lib.hid hq2)
    | (go_at_call 54; (with_reducible refine k3.mono ?_); rintro e w3 ⟨rfl, h3, f3⟩; have k4 := cE.out w3 q2 h3 hq2.out; replace f3 := Lib.hid f3; replace h3 := Lib.hid h3)
    | (go_at_call 40; (with_reducible refine k4.mono ?_); rintro e w4 ⟨rfl, f4⟩; replace f4 := Lib.hid f4))
  go_ret2
  exact ⟨rfl, ((f1.out.trans f2.out).trans (f3.out.trans f4.out)).trans (Fr.of_below ((Below.refl _ _).alloc (Nat.le_refl _) _))⟩
set_option maxHeartbeats 4000000 in
set_option maxRecDepth 100000 in
theorem xml_elem_in {w : World} {L R c p m d : Nat} {A : Option Addr} {bs r r1 nm : List UInt8} {l : List (List UInt8 × List UInt8)} (hd : d ≤ 900) (h : RS w L R A c bs p m) (hr : Rest bs p r) (hm : m < 4000) (hM : Xe.Mark r nm l false r1)
    (cK : ∀ W q, RS W L R A c bs q (m + 1) → Rest bs q r1 → Calls Tryd.prog 52 #[.pointer (some ⟨R, 0, none⟩), .int .i64 ((d : Int) + 1)] W fun e w' => e = .returned (.tuple #[.slice none 0 0, .int .i64 6]) ∧ Fr L R W w') :
    Calls Tryd.prog 40 #[.pointer (some ⟨R, 0, none⟩), .int .i64 ((d : Int) + 1)] w (DeepE w L R) := by
  have hb0 : Below w.heap.size w (w.alloc (.cells z5 27)) := (Below.refl _ _).alloc (Nat.le_refl _) _
  have h0 := h.below hb0
  have hnew := Blk.new w 27 z5
  have hRlt := h.rdr.lt
  have hLlt := h.cur.L_lt
  obtain ⟨N, hN⟩ : ∃ N : ByteArray, (⟨nm.toArray⟩ : ByteArray) = N := ⟨_, rfl⟩
  have hdi : (((d + 1 : Nat) : Int)) = (d : Int) + 1 := by omega
  have cm := xml_mark (d + 1) (by omega) (by omega) hm h0 hr hM
  rw [hN, hdi] at cm
  have c02 := h0.rdr.cell 2
  replace hN := Lib.hid hN
  replace h0 := Lib.hid h0
  replace hb0 := Lib.hid hb0
  replace hnew := Lib.hid hnew
  replace cK := Lib.hid cK
  clear h hr hM hdi
  go_enter Tryd.func40, Tryd.ntmps40
  go_wp2_with (first
    | (go_at_call 51; (with_reducible refine cm.mono ?_); rintro e w1 ⟨a1, n1, c1, ba, rfl, hA, hba, ⟨⟨q1, h1, hq1⟩, f1⟩⟩; have hz4 : Blk w1 w.heap.size 27 z5 := (f1.block w.heap.size (by simp) (by omega) (by omega)).trans hnew.out; have hbn : Below w1.heap.size w1 (w1.alloc (.cells #[.string ⟨#[]⟩, .string N, .string ⟨#[]⟩, .slice a1 n1 c1, .slice none 0 0] 27)) := (Below.refl _ _).alloc (Nat.le_refl _) _; have hzb := Blk.new w1 27 #[.string ⟨#[]⟩, .string N, .string ⟨#[]⟩, .slice a1 n1 c1, .slice none 0 0]; have hsb : (w1.alloc (.cells #[.string ⟨#[]⟩, .string N, .string ⟨#[]⟩, .slice a1 n1 c1, .slice none 0 0] 27)).heap.size = w1.heap.size + 1 := World.size_alloc _ _; have h11 := h1.below hbn; have hz44 := hz4.alloc (.cells #[.string ⟨#[]⟩, .string N, .string ⟨#[]⟩, .slice a1 n1 c1, .slice none 0 0] 27); have kc := cK.out _ q1 h11 hq1; have hR1 : R < w1.heap.size := h1.rdr.lt; have hL1 : L < w1.heap.size := h1.cur.L_lt; have hg4 : w.heap.size < w1.heap.size := hz4.lt; replace h11 := Lib.hid h11; replace hbn := Lib.hid hbn; replace h1 := Lib.hid h1; replace hz4 := Lib.hid hz4; replace hz44 := Lib.hid hz44; replace hzb := Lib.hid hzb; replace hsb := Lib.hid hsb; replace hA := Lib.hid hA; replace hba := Lib.hid hba; replace hq1 := Lib.hid hq1; replace f1 := Lib.hid f1)
    | (go_at_call 52; (with_reducible refine kc.mono ?_); rintro e w2 ⟨rfl, f2⟩; have hzb2 : Blk w2 w1.heap.size 27 #[.string ⟨#[]⟩, .string N, .string ⟨#[]⟩, .slice a1 n1 c1, .slice none 0 0] := (f2.block w1.heap.size (by rw [hsb.out]; omega) (by omega) (by omega)).trans hzb.out; have hz42 : Blk w2 w.heap.size 27 z5 := (f2.block w.heap.size (by rw [hsb.out]; omega) (by omega) (by omega)).trans hz44.out; have b4 := hzb2.cell 4; have b4f := hzb2.frozen 4; have hB2 : Below w.heap.size w2 (w2.setCell ⟨w1.heap.size, 4, none⟩ (.slice none 0 0)) := (Below.refl w.heap.size w2).setCell (p := ⟨w1.heap.size, 4, none⟩) (Nat.le_of_lt hg4) _; have hz43 : Blk (w2.setCell ⟨w1.heap.size, 4, none⟩ (.slice none 0 0)) w.heap.size 27 z5 := hz42.far (by show w.heap.size ≠ w1.heap.size; omega) _; have a0 := hz43.cell 0; have a1' := hz43.cell 1; have a2 := hz43.cell 2; have a3 := hz43.cell 3; have a4 := hz43.cell 4; have y0 := hz43.frozen 0; have y1 := hz43.frozen 1; have y2 := hz43.frozen 2; have y3 := hz43.frozen 3; have y4 := hz43.frozen 4; replace f2 := Lib.hid f2; replace hzb2 := Lib.hid hzb2; replace hz42 := Lib.hid hz42; replace hz43 := Lib.hid hz43; replace hB2 := Lib.hid hB2))
  have hzR := hz43.out
  have hV := put5_blk hzR (.string ⟨#[]⟩) (.string ⟨#[]⟩) (.string ⟨#[]⟩) (.slice none 0 0) (.slice none 0 0)
  have hSV := put5_save (w2.setCell ⟨w1.heap.size, 4, none⟩ (.slice none 0 0)) w.heap.size (.string ⟨#[]⟩) (.string ⟨#[]⟩) (.string ⟨#[]⟩) (.slice none 0 0) (.slice none 0 0)
  unfold put5 at hV hSV
  obtain ⟨V, hU⟩ : ∃ U, U = (((((w2.setCell ⟨w1.heap.size, 4, none⟩ (.slice none 0 0)).setCell ⟨w.heap.size, 0, none⟩ (.string ⟨#[]⟩)).setCell ⟨w.heap.size, 1, none⟩ (.string ⟨#[]⟩)).setCell ⟨w.heap.size, 2, none⟩ (.string ⟨#[]⟩)).setCell ⟨w.heap.size, 3, none⟩ (.slice none 0 0)).setCell ⟨w.heap.size, 4, none⟩ (.slice none 0 0) := ⟨_, rfl⟩
  rw [← hU] at hV hSV ⊢
  have r0 := hV.cell 0
  have r1 := hV.cell 1
  have r2 := hV.cell 2
  have r3 := hV.cell 3
  have r4 := hV.cell 4
  have hsz2 : (w2.setCell ⟨w1.heap.size, 4, none⟩ (.slice none 0 0)).heap.size = w2.heap.size := by simp [World.setCell]
  have z12 := f2.out.size
  rw [hsb.out] at z12
  refine bodyPost_ret (v := .tuple #[.agg z5, .int .i64 6]) (by simp [results, Tryd.results40, go_sem, r0, r1, r2, r3, r4]) rfl ⟨rfl, ?_⟩
  exact ((((Fr.of_below hb0.out).trans f1.out).trans ((Fr.of_below hbn.out).trans f2.out)).tail hB2.out).tail (hSV.below (Nat.le_refl _) (by rw [hsz2]; omega))
theorem xml_deep {L R c : Nat} {A : Option Addr} {bs : List UInt8} : ∀ d, d ≤ 900 → DeepC L R A c bs d := by
  intro d
  induction d with
  | zero =>
    intro _ w p m r hS hr hE
    match hE with
    | .here _ r nm hn hne hno hm => exact xml_elem_here hm hS hr hn hne hno
  | succ d ih =>
    intro hd w p m r hS hr hE
    have hdi : (((d + 1 : Nat) : Int)) = (d : Int) + 1 := by omega
    rw [hdi]
    match hE with
    | .in_ _ _ _ nm l r1 hm hM hC =>
      refine xml_elem_in (by omega) hS hr hm hM fun W q hW hq => ?_
      match hC with
      | .elem _ _ _ hT hMi hx hEl => exact xml_cont_deep (by omega) (ih (by omega)) hW hq hT hMi hx hEl
end Go.Proofs.YtgomlebemefdcaaDoor

/- The reader reads all. No condition. -/
namespace Go.Proofs.YtgomlebemefdcaaDoor
open Go Go.RowKit Go.Wk Go.Xt Go.Xe
def NodeR (w : World) (L R : Nat) (n : Nd) (e : Ending) (w' : World) : Prop :=
  ∃ (N : ByteArray) (a1 : Option Addr) (n1 c1 : Nat) (a2 : Option Addr) (n2 c2 : Nat) (bl : List Nat), e = .returned (.tuple #[.agg #[.string ⟨#[]⟩, .string N, .string ⟨#[]⟩, .slice a1 n1 c1, .slice a2 n2 c2], .int .i64 0]) ∧
    NdAt w' n [.string ⟨#[]⟩, .string N, .string ⟨#[]⟩, .slice a1 n1 c1, .slice a2 n2 c2] bl ∧ (∀ k ∈ bl, w.heap.size ≤ k ∧ k < w'.heap.size) ∧ Fr L R w w'
set_option maxHeartbeats 8000000 in
set_option maxRecDepth 100000 in
theorem xml_all {w : World} {L R c p m2 : Nat} {A : Option Addr} {bs r r1 r2 : List UInt8} {n : Nd} (h : RS w L R A c bs p 0) (hr : Rest bs p r) (h1 : Around r r1) (h2 : Elem 32 0 r1 n m2 r2) (h3 : Around r2 []) :
    Calls Tryd.prog 28 #[.pointer (some ⟨R, 0, none⟩)] w (NodeR w L R n) := by
  have hb0 : Below w.heap.size w (w.alloc (.cells z5 27)) := (Below.refl _ _).alloc (Nat.le_refl _) _
  have h0 := h.below hb0
  have hnew := Blk.new w 27 z5
  have hRlt := h.rdr.lt
  have hLlt := h.cur.L_lt
  have hAlt := Lib.hid h.A_lt
  have ca := xml_around h0 hr h1
  have ce : ∀ W q, RS W L R A c bs q 0 → Rest bs q r1 → Calls Tryd.prog 40 #[.pointer (some ⟨R, 0, none⟩), .int .i64 32] W (ElemR W L R A c bs n m2 r2) := fun W q hW hq => xml_element 32 (by omega) W q 0 r1 n m2 r2 hW hq h2
  have cz := fun W q (hW : RS W L R A c bs q m2) (hq : Rest bs q r2) => xml_around hW hq h3
  have cl := fun W q (hW : RS W L R A c bs q m2) => rs_left hW
  have hl0 : ∀ q, Rest bs q [] → ((bs.length : Int) - (q : Int)) = 0 := fun q hq => by have := hq.len; simp at this; omega
  replace ce := Lib.hid ce
  replace cz := Lib.hid cz
  replace cl := Lib.hid cl
  replace hl0 := Lib.hid hl0
  replace h0 := Lib.hid h0
  replace hb0 := Lib.hid hb0
  replace hnew := Lib.hid hnew
  have cps := fun (w : World) => xml_passed (w := w) true
  simp only [if_true] at cps
  clear h hr h1 h2 h3
  go_enter Tryd.func28, Tryd.ntmps28
  go_wp2_with (first
    | (go_at_call 39; (with_reducible refine ca.mono ?_); rintro e w1 ⟨rfl, ⟨⟨q1, h1, hq1⟩, f1⟩⟩; have k2 := ce.out w1 q1 h1 hq1; replace f1 := Lib.hid f1; replace h1 := Lib.hid h1; replace hq1 := Lib.hid hq1)
    | (go_at_call 40; (with_reducible refine k2.mono ?_); rintro e w2 ⟨N, a1, n1, c1, a2, n2, c2, bl, rfl, hnd, hbl, ⟨⟨q2, h2, hq2⟩, f2⟩⟩; have hbn : Below w2.heap.size w2 (w2.alloc (.cells #[.string ⟨#[]⟩, .string N, .string ⟨#[]⟩, .slice a1 n1 c1, .slice a2 n2 c2] 27)) := (Below.refl _ _).alloc (Nat.le_refl _) _; have hzb := Blk.new w2 27 #[.string ⟨#[]⟩, .string N, .string ⟨#[]⟩, .slice a1 n1 c1, .slice a2 n2 c2]; have h22 := h2.below hbn; have k3 := cz.out _ q2 h22 hq2; replace f2 := Lib.hid f2; replace h2 := Lib.hid h2; replace hq2 := Lib.hid hq2; replace hnd := Lib.hid hnd; replace hbl := Lib.hid hbl; replace hbn := Lib.hid hbn; replace hzb := Lib.hid hzb; replace h22 := Lib.hid h22)
    | (go_at_call 39; (with_reducible refine k3.mono ?_); rintro e w3 ⟨rfl, ⟨⟨q3, h3, hq3⟩, f3⟩⟩; replace f3 := Lib.hid f3; replace h3 := Lib.hid h3; replace hq3 := Lib.hid hq3))
  have hz3 : Blk w3 w2.heap.size 27 #[.string ⟨#[]⟩, .string N, .string ⟨#[]⟩, .slice a1 n1 c1, .slice a2 n2 c2] := (f3.out.block w2.heap.size (by simp) (by have := h2.out.cur.L_lt; omega) (by have := h2.out.rdr.lt; omega)).trans hzb.out
  have F2 := f1.out.trans f2.out
  have hw2 : w.heap.size < w2.heap.size := by have := F2.size; simp at this; omega
  have F3 := (F2.trans (Fr.of_below hbn.out)).trans f3.out
  have hz4 : Blk w3 w.heap.size 27 z5 := (F3.block w.heap.size (by simp) (by omega) (by omega)).trans hnew.out
  have kl : ∀ W, Below w.heap.size w3 W → Calls Tryd.prog 37 #[.pointer (some ⟨L, 0, none⟩)] W fun e w' => e = .returned (.int .i64 0) ∧ W = w' := fun W hW => by
    have := rs_left (h3.out.belowB hW hLlt hRlt hAlt.out)
    rw [hl0.out q3 hq3.out] at this
    exact this
  have c30 := h3.out.rdr.cell 0
  obtain ⟨g2, hg2⟩ : ∃ g, g = w.heap.size := ⟨_, rfl⟩
  obtain ⟨g5, hg5⟩ : ∃ g, g = w2.heap.size := ⟨_, rfl⟩
  have hRg : R ≠ g2 := by omega
  have hgg : g2 ≠ g5 := by omega
  rw [← hg2] at hz4 kl ⊢
  rw [← hg5] at hz3 ⊢
  have a0 := hz4.cell 0
  have a1' := hz4.cell 1
  have a2' := hz4.cell 2
  have a3 := hz4.cell 3
  have a4 := hz4.cell 4
  have y0 := hz4.frozen 0
  have y1 := hz4.frozen 1
  have y2 := hz4.frozen 2
  have y3 := hz4.frozen 3
  have y4 := hz4.frozen 4
  have e0 := hz3.cell 0
  have e1 := hz3.cell 1
  have e2 := hz3.cell 2
  have e3 := hz3.cell 3
  have e4 := hz3.cell 4
  replace hz3 := Lib.hid hz3
  replace hz4 := Lib.hid hz4
  replace F2 := Lib.hid F2
  replace F3 := Lib.hid F3
  replace kl := Lib.hid kl
  replace hg2 := Lib.hid hg2
  replace hg5 := Lib.hid hg5
  go_region_with (first
    | (go_at_call 37; refine (kl.out _ (by first | exact Below.refl _ _ | (repeat (first | exact Below.refl _ _ | refine Below.drew ?_ | refine Below.setCell ?_ (Nat.le_refl _) _)))).mono ?_; rintro e w' ⟨rfl, rfl⟩)
    | (go_at_call 41; refine (cps _).mono ?_; rintro e w' ⟨rfl, rfl⟩))
  all_goals
    go_wp2
    have hV := (put5_blk hz4.out (.string ⟨#[]⟩) (.string N) (.string ⟨#[]⟩) (.slice a1 n1 c1) (.slice a2 n2 c2)).drew
    have hSV := (put5_save w3 g2 (.string ⟨#[]⟩) (.string N) (.string ⟨#[]⟩) (.slice a1 n1 c1) (.slice a2 n2 c2)).drawn 1
    unfold put5 at hV hSV
    obtain ⟨V, hU⟩ : ∃ U, U = ((((((w3.setCell ⟨g2, 0, none⟩ (.string ⟨#[]⟩)).setCell ⟨g2, 1, none⟩ (.string N)).setCell ⟨g2, 2, none⟩ (.string ⟨#[]⟩)).setCell ⟨g2, 3, none⟩ (.slice a1 n1 c1)).setCell ⟨g2, 4, none⟩ (.slice a2 n2 c2)).drew) := ⟨_, rfl⟩
    have hSV2 : Save g2 w3 V := by rw [hU]; exact hSV
    rw [← hU] at hV ⊢
    clear hSV
    have r0 := hV.cell 0
    have r1 := hV.cell 1
    have r2 := hV.cell 2
    have r3 := hV.cell 3
    have r4 := hV.cell 4
    have hs2 : (w2.alloc (.cells #[.string ⟨#[]⟩, .string N, .string ⟨#[]⟩, .slice a1 n1 c1, .slice a2 n2 c2] 27)).heap.size = w2.heap.size + 1 := World.size_alloc _ _
    have z23 := f3.out.size
    rw [hs2] at z23
    have z3V := hSV2.size
    have hg2' := hg2.out
    have zw1 := f1.out.size
    rw [World.size_alloc] at zw1
    refine bodyPost_ret (v := .tuple #[.agg #[.string ⟨#[]⟩, .string N, .string ⟨#[]⟩, .slice a1 n1 c1, .slice a2 n2 c2], .int .i64 0]) (by simp [results, Tryd.results28, go_sem, Act.put, r0, r1, r2, r3, r4]) rfl ⟨N, a1, n1, c1, a2, n2, c2, bl, rfl, ?_, ?_, ?_⟩
    · refine hnd.out.keep fun k hk => ?_
      have := hbl.out k hk
      exact (hSV2.block k (by omega) (by omega)).trans ((f3.out.block k (by rw [hs2]; omega) (by omega) (by omega)).trans (hbn.out.block k this.2))
    · intro k hk
      have := hbl.out k hk
      omega
    · exact ((Fr.of_below hb0.out).trans F3.out).tail (hSV2.below (by omega) (by omega))
end Go.Proofs.YtgomlebemefdcaaDoor

/- Parse: the root that bytes say. No condition. -/
namespace Go.Proofs.YtgomlebemefdcaaDoor
open Go Go.RowKit Go.Wk Go.Xt Go.Xe
set_option maxHeartbeats 4000000 in
set_option maxRecDepth 100000 in
theorem xml_all_deep {w : World} {L R c p : Nat} {A : Option Addr} {bs r r1 : List UInt8} (h : RS w L R A c bs p 0) (hr : Rest bs p r) (h1 : Around r r1) (h2 : ElemD 32 0 r1) :
    Calls Tryd.prog 28 #[.pointer (some ⟨R, 0, none⟩)] w (DeepE w L R) := by
  have hb0 : Below w.heap.size w (w.alloc (.cells z5 27)) := (Below.refl _ _).alloc (Nat.le_refl _) _
  have h0 := h.below hb0
  have hnew := Blk.new w 27 z5
  have hRlt := h.rdr.lt
  have hLlt := h.cur.L_lt
  have ca := xml_around h0 hr h1
  have ce : ∀ W q, RS W L R A c bs q 0 → Rest bs q r1 → Calls Tryd.prog 40 #[.pointer (some ⟨R, 0, none⟩), .int .i64 32] W (DeepE W L R) := fun W q hW hq => xml_deep 32 (by omega) W q 0 r1 hW hq h2
  replace ce := Lib.hid ce
  replace h0 := Lib.hid h0
  replace hb0 := Lib.hid hb0
  replace hnew := Lib.hid hnew
  clear h hr h1 h2
  go_enter Tryd.func28, Tryd.ntmps28
  go_wp2_with (first
    | (go_at_call 39; (with_reducible refine ca.mono ?_); rintro e w1 ⟨rfl, ⟨⟨q1, h1, hq1⟩, f1⟩⟩; have k2 := ce.out w1 q1 h1 hq1; replace f1 := Lib.hid f1; replace h1 := Lib.hid h1; replace hq1 := Lib.hid hq1)
    | (go_at_call 40; (with_reducible refine k2.mono ?_); rintro e w2 ⟨rfl, f2⟩; have F2 := f1.out.trans f2; have hz : Blk w2 w.heap.size 27 z5 := (F2.block w.heap.size (by simp) (by omega) (by omega)).trans hnew.out; have hg4 : w.heap.size < w2.heap.size := hz.lt; have a0 := hz.cell 0; have a1 := hz.cell 1; have a2 := hz.cell 2; have a3 := hz.cell 3; have a4 := hz.cell 4; have y0 := hz.frozen 0; have y1 := hz.frozen 1; have y2 := hz.frozen 2; have y3 := hz.frozen 3; have y4 := hz.frozen 4; replace hz := Lib.hid hz; replace F2 := Lib.hid F2; replace f2 := Lib.hid f2))
  have hzR := hz.out
  have hV := put5_blk hzR (.string ⟨#[]⟩) (.string ⟨#[]⟩) (.string ⟨#[]⟩) (.slice none 0 0) (.slice none 0 0)
  have hSV := put5_save (w2) w.heap.size (.string ⟨#[]⟩) (.string ⟨#[]⟩) (.string ⟨#[]⟩) (.slice none 0 0) (.slice none 0 0)
  unfold put5 at hV hSV
  obtain ⟨V, hU⟩ : ∃ U, U = (((((w2).setCell ⟨w.heap.size, 0, none⟩ (.string ⟨#[]⟩)).setCell ⟨w.heap.size, 1, none⟩ (.string ⟨#[]⟩)).setCell ⟨w.heap.size, 2, none⟩ (.string ⟨#[]⟩)).setCell ⟨w.heap.size, 3, none⟩ (.slice none 0 0)).setCell ⟨w.heap.size, 4, none⟩ (.slice none 0 0) := ⟨_, rfl⟩
  rw [← hU] at hV hSV ⊢
  have hbU : Below V.heap.size V (V.alloc (.cells z5 27)) := (Below.refl _ _).alloc (Nat.le_refl _) _
  have hV2 := hV.alloc (.cells z5 27)
  obtain ⟨X, hX⟩ : ∃ X, X = V.alloc (.cells z5 27) := ⟨_, rfl⟩
  have hX2 : V.alloc (.cells #[.string ⟨#[]⟩, .string ⟨#[]⟩, .string ⟨#[]⟩, .slice none 0 0, .slice none 0 0] 27) = X := hX.symm
  rw [← hX] at hbU hV2
  rw [hX2]
  have r0 := hV2.cell 0
  have r1 := hV2.cell 1
  have r2 := hV2.cell 2
  have r3 := hV2.cell 3
  have r4 := hV2.cell 4
  refine bodyPost_ret (v := .tuple #[.agg z5, .int .i64 6]) (by simp [results, Tryd.results28, go_sem, r0, r1, r2, r3, r4]) rfl ⟨rfl, ?_⟩
  exact ((Fr.of_below hb0.out).trans F2.out).tail ((hSV.trans (Save.of_below hbU)).below (Nat.le_refl _) (by omega))
set_option maxHeartbeats 1000000 in
set_option maxRecDepth 100000 in
theorem cur_seek0 {w : World} {L c p : Nat} {A : Option Addr} {bs : List UInt8} (h : Cur w w L A c bs p) :
    Calls Tryd.prog 25 #[.pointer (some ⟨L, 0, none⟩), .int .i64 0] w fun e w' => e = .returned (.bool true) ∧ Cur w w' L A c bs 0 := by
  have hg := h.go 0 (Nat.zero_le _)
  have cb := h.cb
  have ca := h.ca
  have fr := h.fr
  have hneg : ¬ (bs.length : Int) < 0 := by omega
  replace h := Lib.hid h
  replace hg := Lib.hid hg
  go_enter Tryd.func25, Tryd.ntmps25
  go_wp2
  go_ret
  exact ⟨rfl, hg.out⟩
set_option maxHeartbeats 1000000 in
theorem cur_len {w : World} {L c p : Nat} {A : Option Addr} {bs : List UInt8} (h : Cur w w L A c bs p) :
    Calls Tryd.prog 27 #[.pointer (some ⟨L, 0, none⟩)] w fun e w' => e = .returned (.int .i64 bs.length) ∧ w = w' := by
  have cb := h.cb
  replace h := Lib.hid h
  go_enter Tryd.func27, Tryd.ntmps27
  go_wp2
  go_ret
  exact ⟨rfl, rfl⟩
theorem cur_new (A : Option Addr) (n c : Nat) (w : World) (hc : n ≤ c) (hn : n ≤ 100000) :
    Calls Tryd.prog 24 #[.slice A n c] w fun e w' => e = .returned (.pointer (some ⟨w.heap.size, 0, none⟩)) ∧ w' = w.alloc (.cells #[.slice A n n, .int .i64 0] 82) := by
  go_enter Tryd.func24, Tryd.ntmps24
  cases A with
  | none =>
    go_wp2
    go_ret
    exact ⟨rfl, rfl⟩
  | some a =>
    go_wp2
    go_ret
    exact ⟨rfl, rfl⟩
theorem new_cur {w : World} {A : Option Addr} {bs : List UInt8} (h : Byt w A bs) (hs : bs.length ≤ 100000) : Cur (w.alloc (.cells #[.slice A bs.length bs.length, .int .i64 0] 82)) (w.alloc (.cells #[.slice A bs.length bs.length, .int .i64 0] 82)) w.heap.size A bs.length bs 0 := by
  have hB := Blk.new w 82 #[.slice A bs.length bs.length, .int .i64 0]
  refine ⟨fun h0 x hx => ?_, Save.refl _ _, hB.cell 0, hB.cell 1, hB.frozen 1, h.below ((Below.refl _ _).alloc (Nat.le_refl _) _), Nat.zero_le _, hs⟩
  obtain ⟨b, o, e, hc⟩ := h.2 h0
  have := cell_lt (hc 0 h0)
  rw [hx] at e
  cases e
  exact Nat.ne_of_lt this
set_option maxHeartbeats 1000000 in
theorem xml_New (A : Option Addr) (c : Nat) (bs : List UInt8) (w : World) (hb : Byt w A bs) (hc : bs.length ≤ c) (hs : bs.length ≤ 100000) :
    Calls Tryd.prog 16 #[.slice A bs.length c] w fun e w' => e = .returned (.pointer (some ⟨w.heap.size + 1, 0, none⟩)) ∧ RS w' w.heap.size (w.heap.size + 1) A bs.length bs 0 0 ∧ Below w.heap.size w w' := by
  have cn := cur_new A bs.length c w hc hs
  have hC := new_cur hb hs
  have hAl : 0 < bs.length → ∀ x, A = some x → x.block < w.heap.size := by
    rintro h0 x rfl
    obtain ⟨b, o, e, hcell⟩ := hb.2 h0
    cases e
    exact cell_lt (hcell 0 h0)
  obtain ⟨W, hW⟩ : ∃ W, W = w.alloc (.cells #[.slice A bs.length bs.length, .int .i64 0] 82) := ⟨_, rfl⟩
  have hWz : W.heap.size = w.heap.size + 1 := by rw [hW, World.size_alloc]
  have hBW : Below w.heap.size w W := by rw [hW]; exact (Below.refl _ _).alloc (Nat.le_refl _) _
  rw [← hW] at cn hC
  replace hW := Lib.hid hW
  have hR := Blk.new W 68 #[.pointer (some ⟨w.heap.size, 0, none⟩), .int .i64 0, .slice none 0 0]
  have hb2 : Below W.heap.size W (W.alloc (.cells #[.pointer (some ⟨w.heap.size, 0, none⟩), .int .i64 0, .slice none 0 0] 68)) := (Below.refl _ _).alloc (Nat.le_refl _) _
  have hRS : RS (W.alloc (.cells #[.pointer (some ⟨w.heap.size, 0, none⟩), .int .i64 0, .slice none 0 0] 68)) w.heap.size (w.heap.size + 1) A bs.length bs 0 0 := by
    have hL : w.heap.size < W.heap.size := by omega
    refine ⟨⟨hC.ne, Save.refl _ _, (hb2.cell (p := ⟨w.heap.size, 0, none⟩) hL).trans hC.cb, (hb2.cell (p := ⟨w.heap.size, 1, none⟩) hL).trans hC.ca, (hb2.frozen (p := ⟨w.heap.size, 1, none⟩) hL).trans hC.fr, hC.byt.below hb2, hC.le, hC.small⟩, ?_, by omega, fun h0 x hx => by have := hAl h0 x hx; omega, Nat.le_refl _⟩
    rw [← hWz]; exact hR
  have hfin : Below w.heap.size w (W.alloc (.cells #[.pointer (some ⟨w.heap.size, 0, none⟩), .int .i64 0, .slice none 0 0] 68)) := bthen hBW hb2
  replace hRS := Lib.hid hRS
  replace hfin := Lib.hid hfin
  replace hC := Lib.hid hC
  replace hR := Lib.hid hR
  replace hb2 := Lib.hid hb2
  replace hBW := Lib.hid hBW
  replace hAl := Lib.hid hAl
  clear hb hc hs
  go_enter Tryd.func16, Tryd.ntmps16
  go_wp2_with (go_at_call 24; (with_reducible refine cn.mono ?_); rintro e w1 ⟨rfl, rfl⟩)
  go_ret
  exact ⟨rfl, hRS.out, hfin.out⟩
end Go.Proofs.YtgomlebemefdcaaDoor

/- The root: a walk over any answer of the reader. No condition. -/
namespace Go.Proofs.YtgomlebemefdcaaDoor
open Go Go.RowKit Go.Wk Go.Xt Go.Xe
theorem RS.stored {w : World} {L R c p : Nat} {A : Option Addr} {bs : List UInt8} (h : RS w L R A c bs p 0) :
    RS ((w.setCell ⟨R, 1, none⟩ (.int .i64 0)).setCell ⟨R, 2, none⟩ (.slice none 0 0)) L R A c bs p 0 ∧ Fr L R w ((w.setCell ⟨R, 1, none⟩ (.int .i64 0)).setCell ⟨R, 2, none⟩ (.slice none 0 0)) := by
  have hc := h.cur
  have hn := h.ne
  have hF : Fr L R w ((w.setCell ⟨R, 1, none⟩ (.int .i64 0)).setCell ⟨R, 2, none⟩ (.slice none 0 0)) := ((Fr.refl L R w).store 1 _).store 2 _
  have e1 : ∀ q, ((w.setCell ⟨R, 1, none⟩ (.int .i64 0)).setCell ⟨R, 2, none⟩ (.slice none 0 0)).cell? ⟨L, q, none⟩ = w.cell? ⟨L, q, none⟩ := fun q => by
    rw [World.cell?_setCell_other _ _ _ _ (by intro e; apply hn; injection e with e1 _; exact e1.symm), World.cell?_setCell_other _ _ _ _ (by intro e; apply hn; injection e with e1 _; exact e1.symm)]
  refine ⟨⟨⟨hc.ne, Save.refl _ _, (e1 0).trans hc.cb, (e1 1).trans hc.ca, by simp [hc.fr], ?_, hc.le, hc.small⟩, (h.rdr.set_ 1 (.int .i64 0)).set_ 2 (.slice none 0 0), hn, h.neA, h.cap⟩, hF⟩
  refine ⟨hc.byt.1, fun h0 => ?_⟩
  obtain ⟨b, o, e, hcell⟩ := hc.byt.2 h0
  have hne := h.neA h0 _ e
  refine ⟨b, o, e, fun i hi => ?_⟩
  rw [World.cell?_setCell_other _ _ _ _ (by intro e; apply hne; injection e with e1 _; exact e1.symm), World.cell?_setCell_other _ _ _ _ (by intro e; apply hne; injection e with e1 _; exact e1.symm)]
  exact hcell i hi
def AllOf (L R : Nat) (P : World → World → Array Value → Int → Prop) (W : World) (e : Ending) (w' : World) : Prop :=
  ∃ (N0 N1 N2 : ByteArray) (a1 : Option Addr) (n1 c1 : Nat) (a2 : Option Addr) (n2 c2 : Nat) (k : Int), e = .returned (.tuple #[.agg #[.string N0, .string N1, .string N2, .slice a1 n1 c1, .slice a2 n2 c2], .int .i64 k]) ∧ Fr L R W w' ∧ P W w' #[.string N0, .string N1, .string N2, .slice a1 n1 c1, .slice a2 n2 c2] k ∧ (k ≠ 0 → #[.string N0, .string N1, .string N2, .slice a1 n1 c1, .slice a2 n2 c2] = z5)
def RootOf (L R : Nat) (P : World → World → Array Value → Int → Prop) (w : World) (e : Ending) (w' : World) : Prop :=
  ∃ (N0 N1 N2 : ByteArray) (a1 : Option Addr) (n1 c1 : Nat) (a2 : Option Addr) (n2 c2 : Nat) (k : Int) (W W1 : World), e = .returned (.tuple #[.agg #[.string N0, .string N1, .string N2, .slice a1 n1 c1, .slice a2 n2 c2], .int .i64 k]) ∧ P W W1 #[.string N0, .string N1, .string N2, .slice a1 n1 c1, .slice a2 n2 c2] k ∧ Fr L R w W ∧ w.heap.size < W.heap.size ∧ Fr L R W W1 ∧ Save w.heap.size W1 w'
set_option maxHeartbeats 4000000 in
set_option maxRecDepth 100000 in
theorem xml_Root {w : World} {L R c p : Nat} {A : Option Addr} {bs : List UInt8} {P : World → World → Array Value → Int → Prop} (h : RS w L R A c bs p 0) (hs : signsB bs = true) (hT : Lib.Utf8Tabs 0 1 w) (hL : 2 ≤ L) (hR : 2 ≤ R) (hne : bs ≠ [])
    (call : ∀ W, RS W L R A c bs 0 0 → Calls Tryd.prog 28 #[.pointer (some ⟨R, 0, none⟩)] W (AllOf L R P W)) :
    Calls Tryd.prog 17 #[.pointer (some ⟨R, 0, none⟩)] w (RootOf L R P w) := by
  have hb0 : Below w.heap.size w (w.alloc (.cells z5 27)) := (Below.refl _ _).alloc (Nat.le_refl _) _
  have h0 := h.below hb0
  have hnew := Blk.new w 27 z5
  have hRlt := h.rdr.lt
  have hLlt := h.cur.L_lt
  have hlen : 1 ≤ bs.length := List.length_pos_iff.2 hne
  have hsm := h.cur.small
  have c00 := h0.rdr.cell 0
  have k1 := cur_seek0 h0.cur
  have cS : ∀ W A' c', Byt W A' bs → Fr L R w W → Calls Tryd.prog 14 #[.slice A' bs.length c'] W fun e w' => e = .returned (.bool true) ∧ Below W.heap.size W w' := fun W A' c' hb hF => by
    rw [← hs]
    have := hF.size
    exact xml_Signs c' hb hsm (tabs_kept hT (hF.block 0 (by omega) (by omega) (by omega)) (hF.block 1 (by omega) (by omega) (by omega))) (by omega)
  obtain ⟨m, hm⟩ : ∃ m, m = bs.length := ⟨_, rfl⟩
  rw [← hm] at cS
  replace cS := Lib.hid cS
  replace call := Lib.hid call
  replace h0 := Lib.hid h0
  replace hb0 := Lib.hid hb0
  replace hnew := Lib.hid hnew
  replace hm := Lib.hid hm
  replace hsm := Lib.hid hsm
  replace hlen := Lib.hid hlen
  clear h hs hT hne
  go_enter Tryd.func17, Tryd.ntmps17
  go_upto_region 4 with (first
    | (go_at_call 25; (with_reducible refine k1.mono ?_); rintro e w1 ⟨rfl, h1⟩; obtain ⟨h2, f1⟩ := h0.out.cur_to h1; have c10 := h2.rdr.cell 0; replace h1 := Lib.hid h1; replace h2 := Lib.hid h2; replace f1 := Lib.hid f1))
  have cl : ∀ V, Below w1.heap.size w1 V → Calls Tryd.prog 27 #[.pointer (some ⟨L, 0, none⟩)] V fun e w' => e = .returned (.int .i64 m) ∧ V = w' := fun V hV => by rw [hm.out]; exact cur_len (h2.out.below hV).cur
  have ct : ∀ V, Below w1.heap.size w1 V → Calls Tryd.prog 26 #[.pointer (some ⟨L, 0, none⟩), .int .i64 m] V fun e w' => ∃ A' c', e = .returned (.tuple #[.slice A' m c', .bool true]) ∧ Byt w' A' bs ∧ RS w' L R A c bs m 0 ∧ Fr L R w1 w' := fun V hV => by
    have hm' := hm.out
    have hl' := hlen.out
    have hs' := hsm.out
    refine (cur_take m (h2.out.below hV).cur h2.out.cap (by omega) (by omega)).mono ?_
    rintro e w' ⟨A', c', rfl, hb, hc⟩
    have e1 : takeS bs 0 m = bs := by unfold takeS; rw [if_pos (by omega), hm']; simp
    have e2 : takeB bs 0 m = true := by unfold takeB; simp; omega
    rw [e1] at hb ⊢
    rw [e2] at hc ⊢
    rw [← hm'] at *
    simp only [if_true, Nat.zero_add] at hc
    obtain ⟨r1, r2⟩ := (h2.out.below hV).cur_to hc
    exact ⟨A', c', rfl, hb, r1, (Fr.of_below hV).trans r2⟩
  replace cl := Lib.hid cl
  replace ct := Lib.hid ct
  go_cut [4] (fun s4 wx => ∃ A' c', s4 = .slice A' m c' ∧ Byt wx A' bs ∧ RS wx L R A c bs m 0 ∧ Fr L R w1 wx)
  case first =>
    go_region_with (first
      | (go_at_call 27; refine (cl.out _ (by first | exact Below.refl _ _ | (repeat (first | exact Below.refl _ _ | refine Below.drew ?_)))).mono ?_; rintro e w' ⟨rfl, rfl⟩)
      | (go_at_call 26; refine (ct.out _ (by first | exact Below.refl _ _ | (repeat (first | exact Below.refl _ _ | refine Below.drew ?_)))).mono ?_; rintro e w' ⟨A', c', rfl, hb, hr, hf⟩; replace hb := Lib.hid hb; replace hr := Lib.hid hr; replace hf := Lib.hid hf))
    all_goals (go_wp2_with fail; go_meet; exact ⟨_, _, rfl, hb.out, hr.out, hf.out⟩)
  case rest =>
    obtain ⟨A', c', rfl, hb, hr, hf⟩ := hcut
    have cg := cS.out wc A' c' hb (((Fr.of_below hb0.out).trans f1.out).trans hf)
    have cr0 := hr.rdr.cell 0
    replace hb := Lib.hid hb
    replace hr := Lib.hid hr
    replace hf := Lib.hid hf
    go_upto_region 10 with (first
      | (go_at_call 14; (with_reducible refine cg.mono ?_); rintro e w3 ⟨rfl, hb3⟩; have h3 := hr.out.below hb3; have k3 := cur_seek0 h3.cur; have c30 := h3.rdr.cell 0; replace hb3 := Lib.hid hb3; replace h3 := Lib.hid h3)
      | (go_at_call 25; (with_reducible refine k3.mono ?_); rintro e w4 ⟨rfl, hs4⟩; obtain ⟨h4, f4⟩ := h3.out.cur_to hs4; obtain ⟨h5, f5⟩ := h4.stored; have k5 := call.out _ h5; have c40 := h4.rdr.cell 0; have c41 := h4.rdr.cell 1; have c42 := h4.rdr.cell 2; have y41 := h4.rdr.frozen 1; have y42 := h4.rdr.frozen 2; replace hs4 := Lib.hid hs4; replace h4 := Lib.hid h4; replace h5 := Lib.hid h5; replace f4 := Lib.hid f4; replace f5 := Lib.hid f5)
      | (go_at_call 28; (with_reducible refine k5.mono ?_); rintro e w5 ⟨N0, N1, N2, A1, n1, c1, A2, n2, c2, k, rfl, f6, hP, hk⟩; have F := ((((f1.out.trans hf.out).trans (Fr.of_below hb3.out)).trans f4.out).trans f5.out).trans f6; have hz : Blk w5 w.heap.size 27 z5 := (F.block w.heap.size (by simp) (by omega) (by omega)).trans hnew.out; have hg5 : w.heap.size < w5.heap.size := hz.lt; have a0 := hz.cell 0; have a1 := hz.cell 1; have a2 := hz.cell 2; have a3 := hz.cell 3; have a4 := hz.cell 4; have y0 := hz.frozen 0; have y1 := hz.frozen 1; have y2 := hz.frozen 2; have y3 := hz.frozen 3; have y4 := hz.frozen 4; replace hz := Lib.hid hz; replace F := Lib.hid F; replace f6 := Lib.hid f6; replace hP := Lib.hid hP; replace hk := Lib.hid hk))
    have hF := (⟨((((Fr.of_below hb0.out).trans f1.out).trans hf.out).trans (Fr.of_below hb3.out)).trans (f4.out.trans f5.out), Nat.lt_of_lt_of_le (by simp) ((((f1.out.trans hf.out).trans (Fr.of_below hb3.out)).trans (f4.out.trans f5.out)).size)⟩ : Fr L R w ((w4.setCell ⟨R, 1, none⟩ (.int .i64 0)).setCell ⟨R, 2, none⟩ (.slice none 0 0)) ∧ w.heap.size < ((w4.setCell ⟨R, 1, none⟩ (.int .i64 0)).setCell ⟨R, 2, none⟩ (.slice none 0 0)).heap.size)
    by_cases hk0 : k = 0
    · subst hk0
      go_wp2
      have hV := put5_blk hz.out (.string N0) (.string N1) (.string N2) (.slice A1 n1 c1) (.slice A2 n2 c2)
      have hSV := put5_save w5 w.heap.size (.string N0) (.string N1) (.string N2) (.slice A1 n1 c1) (.slice A2 n2 c2)
      unfold put5 at hV hSV
      obtain ⟨V, hU⟩ : ∃ U, U = (((((w5.setCell ⟨w.heap.size, 0, none⟩ (.string N0)).setCell ⟨w.heap.size, 1, none⟩ (.string N1)).setCell ⟨w.heap.size, 2, none⟩ (.string N2)).setCell ⟨w.heap.size, 3, none⟩ (.slice A1 n1 c1)).setCell ⟨w.heap.size, 4, none⟩ (.slice A2 n2 c2)) := ⟨_, rfl⟩
      rw [← hU] at hV hSV ⊢
      have hbU : Below V.heap.size V (V.alloc (.cells #[.string N0, .string N1, .string N2, .slice A1 n1 c1, .slice A2 n2 c2] 27)) := (Below.refl _ _).alloc (Nat.le_refl _) _
      have hV2 := hV.alloc (.cells #[.string N0, .string N1, .string N2, .slice A1 n1 c1, .slice A2 n2 c2] 27)
      have q0 := hV2.cell 0
      have q1 := hV2.cell 1
      have q2 := hV2.cell 2
      have q3 := hV2.cell 3
      have q4 := hV2.cell 4
      refine bodyPost_ret (v := .tuple #[.agg #[.string N0, .string N1, .string N2, .slice A1 n1 c1, .slice A2 n2 c2], .int .i64 0]) (by simp [results, Tryd.results17, go_sem, q0, q1, q2, q3, q4]) rfl ⟨N0, N1, N2, A1, n1, c1, A2, n2, c2, 0, _, w5, rfl, hP.out, hF.1, hF.2, f6.out, hSV.trans (Save.of_below hbU)⟩
    · have hkz := hk.out hk0
      have hkb : (k != 0) = true := by simp [hk0]
      injection hkz with hkz
      injection hkz with u0 hkz
      injection hkz with u1 hkz
      injection hkz with u2 hkz
      injection hkz with u3 hkz
      injection hkz with u4 hkz
      injection u0 with u0
      injection u1 with u1
      injection u2 with u2
      injection u3 with v1 v2 v3
      injection u4 with v4 v5 v6
      subst u0 u1 u2 v1 v2 v3 v4 v5 v6
      replace hk := Lib.hid hk
      go_wp2
      have hV := put5_blk hz.out (.string ⟨#[]⟩) (.string ⟨#[]⟩) (.string ⟨#[]⟩) (.slice none 0 0) (.slice none 0 0)
      have hSV := put5_save w5 w.heap.size (.string ⟨#[]⟩) (.string ⟨#[]⟩) (.string ⟨#[]⟩) (.slice none 0 0) (.slice none 0 0)
      unfold put5 at hV hSV
      obtain ⟨V, hU⟩ : ∃ U, U = (((((w5.setCell ⟨w.heap.size, 0, none⟩ (.string ⟨#[]⟩)).setCell ⟨w.heap.size, 1, none⟩ (.string ⟨#[]⟩)).setCell ⟨w.heap.size, 2, none⟩ (.string ⟨#[]⟩)).setCell ⟨w.heap.size, 3, none⟩ (.slice none 0 0)).setCell ⟨w.heap.size, 4, none⟩ (.slice none 0 0)) := ⟨_, rfl⟩
      rw [← hU] at hV hSV ⊢
      have hbU : Below V.heap.size V (V.alloc (.cells #[.string ⟨#[]⟩, .string ⟨#[]⟩, .string ⟨#[]⟩, .slice none 0 0, .slice none 0 0] 27)) := (Below.refl _ _).alloc (Nat.le_refl _) _
      have hV2 := hV.alloc (.cells #[.string ⟨#[]⟩, .string ⟨#[]⟩, .string ⟨#[]⟩, .slice none 0 0, .slice none 0 0] 27)
      have q0 := hV2.cell 0
      have q1 := hV2.cell 1
      have q2 := hV2.cell 2
      have q3 := hV2.cell 3
      have q4 := hV2.cell 4
      refine bodyPost_ret (v := .tuple #[.agg #[.string ⟨#[]⟩, .string ⟨#[]⟩, .string ⟨#[]⟩, .slice none 0 0, .slice none 0 0], .int .i64 k]) (by simp [results, Tryd.results17, go_sem, q0, q1, q2, q3, q4]) rfl ⟨_, _, _, _, _, _, _, _, _, k, _, w5, rfl, hP.out, hF.1, hF.2, f6.out, hSV.trans (Save.of_below hbU)⟩
end Go.Proofs.YtgomlebemefdcaaDoor

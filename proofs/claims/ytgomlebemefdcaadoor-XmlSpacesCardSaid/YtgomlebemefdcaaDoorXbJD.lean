/- Walks and laws, joined: part D. No condition. -/
import Derived.Test.YtgomlebemefdcaaDoorXbJC
import Derived.RegionTactic
import Derived.BigRegion
import Derived.Deep.DeepCutAuto
import Derived.Test.YtgomlebemefdcaaDoorXbJA
import Derived.Lib.ConvBytes
import Derived.Lib.LaidU8T
set_option linter.unusedSimpArgs false
set_option linter.unusedVariables false
/- The text with names that have something in front: its grammar. No condition. -/
namespace Go.Proofs.YtgomlebemefdcaaDoor
open Go Go.RowKit Go.Wk Go.Xt Go.Xe
/-- the letter that is bound -/
def chP (x : UInt8) : UInt8 := UInt8.ofNat (97 + x.toNat / 16)
theorem chP_nat (x : UInt8) : (chP x).toNat = 97 + x.toNat / 16 := by unfold chP; have := x.toNat_lt; exact UInt8.toNat_ofNat_of_lt' (by show _ < 256; omega)
def odd (x : UInt8) : Bool := x.toNat % 2 == 1
/-- an element's beginning -/
def opn (x : UInt8) : List UInt8 := if odd x then [60, 112, 58, 101, 32, 120, 109, 108, 110, 115, 58, 112, 61, 34] ++ chP x :: [34, 32, 112, 58, 107, 61, 34, 34, 62] else [60, 112, 58, 101, 32, 112, 58, 107, 61, 34, 34, 62]
def tailZ : List UInt8 := [60, 112, 58, 122, 47, 62, 60, 122, 47, 62, 60, 47, 112, 58, 101, 62]
def headZ : List UInt8 := [60, 114, 32, 120, 109, 108, 110, 115, 58, 112, 61, 34, 117, 34, 32, 120, 109, 108, 110, 115, 61, 34, 118, 34, 62]
def coreS : List UInt8 → List UInt8
  | [] => []
  | x :: l => opn x ++ (coreS l ++ tailZ)
def spN (sp : List UInt8) (x : UInt8) : List UInt8 := if odd x then [chP x] else sp
def coreN (sp : List UInt8) : List UInt8 → List Nx
  | [] => []
  | x :: l => [.el (spN sp x) [101] [(spN sp x, [107], [])] (coreN (spN sp x) l ++ [.el (spN sp x) [122] [] [], .el [118] [122] [] []])]
theorem full_pe (n : UInt8) (c : UInt8) (R : List UInt8) (hn : 97 ≤ n.toNat ∧ n.toNat ≤ 122) (hc : goesB c = false) : FullN (112 :: 58 :: n :: c :: R) [112] [n] (c :: R) := by
  have hb : beginsB n = true := by simp [beginsB]; omega
  have hg : goesB n = true := by simp [goesB, hb]
  have h1 : nameS (112 :: 58 :: n :: c :: R) = [112] := by simp [nameS, beginsB, goesB, List.takeWhile_cons]
  have h2 : nameS (n :: c :: R) = [n] := by simp [nameS, hb, List.takeWhile_cons, hg, hc]
  exact .two _ [112] (n :: c :: R) [n] h1 (by simp) rfl h2 (by simp)
theorem att_k (c : UInt8) (R : List UInt8) : AttP (112 :: 58 :: 107 :: 61 :: 34 :: 34 :: c :: R) ([112], [107], []) (c :: R) := by
  refine .mk _ [112] [107] (61 :: 34 :: 34 :: c :: R) [] 34 (34 :: 34 :: c :: R) (34 :: c :: R) (full_pe 107 61 _ (by decide) (by decide)) ?_ ?_ (.inl rfl) (c :: R) ?_
  · simp [ws, List.takeWhile_cons, whiteB]
  · simp [ws, List.takeWhile_cons, whiteB]
  · exact .stop 34 _ (.inr rfl)
theorem txt_one (y : UInt8) (R : List UInt8) (hy : 97 ≤ y.toNat) : Txt (34 : Int) (y :: 34 :: R) [y] (34 :: R) := by
  refine .byte y _ [] _ ?_ ?_ ?_ (.stop 34 _ (.inr rfl))
  · rintro rfl; simp at hy
  · omega
  · rintro rfl; simp at hy
theorem att_p (y c : UInt8) (R : List UInt8) (hy : 97 ≤ y.toNat) : AttP (120 :: 109 :: 108 :: 110 :: 115 :: 58 :: 112 :: 61 :: 34 :: y :: 34 :: c :: R) ([120, 109, 108, 110, 115], [112], [y]) (c :: R) := by
  refine .mk _ [120, 109, 108, 110, 115] [112] (61 :: 34 :: y :: 34 :: c :: R) [y] 34 (34 :: y :: 34 :: c :: R) (y :: 34 :: c :: R) ?_ ?_ ?_ (.inl rfl) (c :: R) (txt_one y _ hy)
  · refine .two _ [120, 109, 108, 110, 115] (112 :: 61 :: 34 :: y :: 34 :: c :: R) [112] ?_ (by simp) rfl ?_ (by simp)
    · simp [nameS, beginsB, goesB, List.takeWhile_cons]
    · simp [nameS, beginsB, goesB, List.takeWhile_cons]
  · simp [ws, List.takeWhile_cons, whiteB]
  · simp [ws, List.takeWhile_cons, whiteB]
theorem att_d (y c : UInt8) (R : List UInt8) (hy : 97 ≤ y.toNat) : AttP (120 :: 109 :: 108 :: 110 :: 115 :: 61 :: 34 :: y :: 34 :: c :: R) ([], [120, 109, 108, 110, 115], [y]) (c :: R) := by
  refine .mk _ [] [120, 109, 108, 110, 115] (61 :: 34 :: y :: 34 :: c :: R) [y] 34 (34 :: y :: 34 :: c :: R) (y :: 34 :: c :: R) ?_ ?_ ?_ (.inl rfl) (c :: R) (txt_one y _ hy)
  · have := FullN.one (120 :: 109 :: 108 :: 110 :: 115 :: 61 :: 34 :: y :: 34 :: c :: R) [120, 109, 108, 110, 115] (by simp [nameS, beginsB, goesB, List.takeWhile_cons]) (by simp) (by simp [List.cons_prefix_cons])
    simpa using this
  · simp [ws, List.takeWhile_cons, whiteB]
  · simp [ws, List.takeWhile_cons, whiteB]
theorem atts_end (c : UInt8) (R : List UInt8) (h : c = 47 ∨ c = 62) : AttsP (c :: R) [] (c :: R) := by
  refine .nil _ _ c ?_ h
  rcases h with rfl | rfl <;> simp [ws, List.takeWhile_cons, whiteB]
theorem atts_more {r r2 r' : List UInt8} {a : List UInt8 × List UInt8 × List UInt8} {l : List (List UInt8 × List UInt8 × List UInt8)} (c : UInt8) (hc : whiteB c = false) (h1 : c ≠ 47) (h2 : c ≠ 62) (hA : AttP (c :: r) a r2) (h : AttsP r2 l r') : AttsP (32 :: c :: r) (a :: l) r' := by
  have hw : ws (32 :: c :: r) = 1 := by simp [ws, List.takeWhile_cons, hc]; simp [whiteB]
  exact .cons _ _ _ a l c r (by rw [hw]; omega) (by rw [hw]; rfl) h1 h2 hA h
/-- what an element's beginning says -/
def attO (x : UInt8) : List (List UInt8 × List UInt8 × List UInt8) := if odd x then [([120, 109, 108, 110, 115], [112], [chP x]), ([112], [107], [])] else [([112], [107], [])]
theorem opn_mark (x : UInt8) (R : List UInt8) : MarkP (opn x ++ R) [112] [101] (attO x) false R := by
  have hy : 97 ≤ (chP x).toNat := by rw [chP_nat]; omega
  unfold opn attO
  cases odd x with
  | true =>
    refine .open _ [112] [101] (32 :: 120 :: 109 :: 108 :: 110 :: 115 :: 58 :: 112 :: 61 :: 34 :: chP x :: 34 :: 32 :: 112 :: 58 :: 107 :: 61 :: 34 :: 34 :: 62 :: R) R _ (full_pe 101 32 _ (by decide) (by decide)) ?_
    exact atts_more 120 (by decide) (by decide) (by decide) (att_p (chP x) 32 _ hy) (atts_more 112 (by decide) (by decide) (by decide) (att_k 62 R) (atts_end 62 R (.inr rfl)))
  | false =>
    refine .open _ [112] [101] (32 :: 112 :: 58 :: 107 :: 61 :: 34 :: 34 :: 62 :: R) R _ (full_pe 101 32 _ (by decide) (by decide)) ?_
    exact atts_more 112 (by decide) (by decide) (by decide) (att_k 62 R) (atts_end 62 R (.inr rfl))
theorem head_mark (R : List UInt8) : MarkP (headZ ++ R) [] [114] [([120, 109, 108, 110, 115], [112], [117]), ([], [120, 109, 108, 110, 115], [118])] false R := by
  refine .open _ [] [114] (32 :: 120 :: 109 :: 108 :: 110 :: 115 :: 58 :: 112 :: 61 :: 34 :: 117 :: 34 :: 32 :: 120 :: 109 :: 108 :: 110 :: 115 :: 61 :: 34 :: 118 :: 34 :: 62 :: R) R _ ?_ ?_
  · have := FullN.one (114 :: 32 :: 120 :: 109 :: 108 :: 110 :: 115 :: 58 :: 112 :: 61 :: 34 :: 117 :: 34 :: 32 :: 120 :: 109 :: 108 :: 110 :: 115 :: 61 :: 34 :: 118 :: 34 :: 62 :: R) [114] (by simp [nameS, beginsB, goesB, List.takeWhile_cons]) (by simp) (by simp [List.cons_prefix_cons])
    simpa using this
  · exact atts_more 120 (by decide) (by decide) (by decide) (att_p 117 32 _ (by decide)) (atts_more 120 (by decide) (by decide) (by decide) (att_d 118 62 R (by decide)) (atts_end 62 R (.inr rfl)))
theorem zp_mark (R : List UInt8) : MarkP (60 :: 112 :: 58 :: 122 :: 47 :: 62 :: R) [112] [122] [] true R :=
  .shut _ [112] [122] (47 :: 62 :: R) R _ (full_pe 122 47 _ (by decide) (by decide)) (atts_end 47 _ (.inl rfl))
theorem zv_mark (R : List UInt8) : MarkP (60 :: 122 :: 47 :: 62 :: R) [] [122] [] true R := by
  refine .shut _ [] [122] (47 :: 62 :: R) R _ ?_ (atts_end 47 _ (.inl rfl))
  have := FullN.one (122 :: 47 :: 62 :: R) [122] (by simp [nameS, beginsB, goesB, List.takeWhile_cons]) (by simp) (by simp [List.cons_prefix_cons])
  simpa using this
/-- what is bound: by p, and with nothing in front -/
structure Bok (B : List (List UInt8 × List UInt8)) (sp : List UInt8) : Prop where
  p : ∃ B1 B2, B = B1 ++ ([112], sp) :: B2 ∧ ∀ b ∈ B2, b.1 ≠ [112]
  d : ∃ B1 B2, B = B1 ++ ([], [118]) :: B2 ∧ ∀ b ∈ B2, b.1 ≠ []
def bndN (B : List (List UInt8 × List UInt8)) (x : UInt8) : List (List UInt8 × List UInt8) := if odd x then B ++ [([112], [chP x])] else B
theorem Bok.next {B : List (List UInt8 × List UInt8)} {sp : List UInt8} (h : Bok B sp) (x : UInt8) : Bok (bndN B x) (spN sp x) := by
  unfold bndN spN
  cases odd x with
  | false => exact h
  | true =>
    refine ⟨⟨B, [], rfl, by simp⟩, ?_⟩
    obtain ⟨B1, B2, e, h2⟩ := h.d
    refine ⟨B1, B2 ++ [([112], [chP x])], by simp [e], ?_⟩
    intro b hb
    rcases List.mem_append.1 hb with hb | hb
    · exact h2 b hb
    · simp at hb; subst hb; simp
theorem bndN_len (B : List (List UInt8 × List UInt8)) (x : UInt8) : (bndN B x).length ≤ B.length + 1 := by
  unfold bndN; split <;> simp
theorem says_e {B : List (List UInt8 × List UInt8)} {sp : List UInt8} (h : Bok B sp) (x : UInt8) (hl : B.length ≤ 900) : Says B (bndN B x) [112] (spN sp x) (spN sp x) (attO x) [([112], [107], [])] := by
  have hn := h.next x
  have hl2 := bndN_len B x
  refine ⟨?_, by omega, ?_, ?_, ?_, by omega, hn.p, by decide, ?_, by simp, ?_⟩
  · unfold attO; split <;> simp
  · have key : ∀ l, l = attO x → ∀ i j (hi : i < l.length) (hj : j < l.length), i < j → l[i].1 ≠ l[j].1 ∨ l[i].2.1 ≠ l[j].2.1 := by
      intro l hl i j hi hj hij
      unfold attO at hl
      cases ho : odd x with
      | true =>
        rw [ho] at hl
        simp at hl
        subst hl
        simp at hi hj
        obtain rfl : i = 0 := by omega
        obtain rfl : j = 1 := by omega
        simp
      | false =>
        rw [ho] at hl
        simp at hl
        subst hl
        simp at hi hj
        omega
    exact key _ rfl
  · intro a ha
    unfold attO at ha
    cases ho : odd x <;> simp [ho] at ha
    · subst ha; simp
    · rcases ha with rfl | rfl <;> simp
  · unfold attO bndN
    cases ho : odd x <;> simp [bindsOf]
  · unfold attO
    cases ho : odd x
    · exact ⟨[], by simp, by simp⟩
    · exact ⟨[([120, 109, 108, 110, 115], [112], [chP x])], by simp, by simp [saysB]⟩
  · intro a ha
    simp at ha
    subst ha
    exact ⟨by decide, by simp, by decide, hn.p⟩
theorem says_z {B : List (List UInt8 × List UInt8)} {sp : List UInt8} (h : Bok B sp) (hl : B.length ≤ 900) : Says B B [112] sp [] [] [] := by
  refine ⟨by simp, by omega, by simp, by simp, rfl, by omega, h.p, by decide, ⟨[], by simp, by simp⟩, by simp, by simp⟩
theorem says_v {B : List (List UInt8 × List UInt8)} {sp : List UInt8} (h : Bok B sp) (hl : B.length ≤ 900) : Says B B [] [118] [] [] [] := by
  refine ⟨by simp, by omega, by simp, by simp, rfl, by omega, h.d, by decide, ⟨[], by simp, by simp⟩, by simp, by simp⟩
theorem says_head : Says [] [([112], [117]), ([], [118])] [] [118] [] [([120, 109, 108, 110, 115], [112], [117]), ([], [120, 109, 108, 110, 115], [118])] [] := by
  refine ⟨by simp, by simp, ?_, by simp, by simp [bindsOf], by simp, ⟨[([112], [117])], [], rfl, by simp⟩, by decide, ⟨_, by simp; rfl, by simp [saysB]⟩, by simp, by simp⟩
  intro i j hi hj hij
  simp at hi hj
  obtain rfl : i = 0 := by omega
  obtain rfl : j = 1 := by omega
  simp
theorem misc_lowp (c : UInt8) (r : List UInt8) (h1 : c ≠ 33) (h2 : c ≠ 63) : Misc (60 :: c :: r) false (60 :: c :: r) :=
  .no _ (by simp [List.cons_prefix_cons]; intro e; exact absurd e.symm h1) (by simp [List.cons_prefix_cons]; exact fun e => h2 e.symm)
theorem not_shut (c : UInt8) (r : List UInt8) (h : c ≠ 47) : ¬ [60, 47] <+: 60 :: c :: r := by
  simp [List.cons_prefix_cons]; exact fun e => h e.symm
/-- the two behind -/
theorem cont_tail {B : List (List UInt8 × List UInt8)} {sp : List UInt8} (h : Bok B sp) (hl : B.length ≤ 900) (d m : Nat) (hm : m + 2 ≤ 4000) (R : List UInt8) :
    ContX (d + 2) m B (tailZ ++ R) [.el sp [122] [] [], .el [118] [122] [] []] (m + 2) (112 :: 58 :: 101 :: 62 :: R) := by
  refine .elem (d + 1) m (m + 1) (m + 2) B _ (60 :: 122 :: 47 :: 62 :: 60 :: 47 :: 112 :: 58 :: 101 :: 62 :: R) _ _ _ (misc_lowp 112 _ (by decide) (by decide)) (not_shut 112 _ (by decide)) ?_ ?_
  · exact .shut d m B B _ [112] [122] sp [] [] [] _ (by omega) (zp_mark _) (says_z h hl)
  · refine .elem (d + 1) (m + 1) (m + 2) (m + 2) B _ (60 :: 47 :: 112 :: 58 :: 101 :: 62 :: R) _ _ _ (misc_lowp 122 _ (by decide) (by decide)) (not_shut 122 _ (by decide)) ?_ ?_
    · exact .shut d (m + 1) B B _ [] [122] [118] [] [] [] _ (by omega) (zv_mark _) (says_v h hl)
    · exact .done (d + 2) (m + 2) B _
theorem opn_head (x : UInt8) (R : List UInt8) : ∃ r, opn x ++ R = 60 :: 112 :: r := by
  unfold opn; split <;> exact ⟨_, rfl⟩
theorem core_cont (l : List UInt8) : ∀ (d m : Nat) (B : List (List UInt8 × List UInt8)) (sp R : List UInt8) (ks : List Nx) (m2 : Nat) (r' : List UInt8), Bok B sp → B.length + l.length ≤ 900 → m + 3 * l.length ≤ 4000 → l.length + 2 ≤ d → ContX d (m + 3 * l.length) B R ks m2 r' →
    ContX d m B (coreS l ++ R) (coreN sp l ++ ks) m2 r' := by
  induction l with
  | nil => intro d m B sp R ks m2 r' _ _ _ _ h; exact h
  | cons x l ih =>
    intro d m B sp R ks m2 r' hB hl hm hd h
    simp only [List.length_cons] at hl hm hd h
    obtain ⟨d, rfl⟩ : ∃ e, d = e + 1 := ⟨d - 1, by omega⟩
    obtain ⟨d, rfl⟩ : ∃ e, d = e + 1 := ⟨d - 1, by omega⟩
    have hn := hB.next x
    have hln := bndN_len B x
    have e : coreS (x :: l) ++ R = opn x ++ (coreS l ++ (tailZ ++ R)) := by simp [coreS]
    have eN : coreN sp (x :: l) ++ ks = .el (spN sp x) [101] [(spN sp x, [107], [])] (coreN (spN sp x) l ++ [.el (spN sp x) [122] [] [], .el [118] [122] [] []]) :: ks := by simp [coreN]
    rw [e, eN]
    obtain ⟨rr, hrr⟩ := opn_head x (coreS l ++ (tailZ ++ R))
    have hE : ElemX (d + 1) m B (opn x ++ (coreS l ++ (tailZ ++ R))) (.el (spN sp x) [101] [(spN sp x, [107], [])] (coreN (spN sp x) l ++ [.el (spN sp x) [122] [] [], .el [118] [122] [] []])) (m + 3 * (l.length + 1)) R := by
      obtain ⟨d', rfl⟩ : ∃ e, d = e + 1 := ⟨d - 1, by omega⟩
      have hC := ih (d' + 1 + 1) (m + 1) (bndN B x) (spN sp x) (tailZ ++ R) _ _ _ hn (by omega) (by omega) (by omega) (cont_tail (d := d') hn (by omega) (m + 1 + 3 * l.length) (by omega) R)
      rw [show m + 3 * (l.length + 1) = m + 1 + 3 * l.length + 2 by omega]
      exact .open (d' + 1) m _ B (bndN B x) _ [112] [101] (spN sp x) (spN sp x) (attO x) [([112], [107], [])] _ _ _ (62 :: R) R (by omega) (opn_mark x _) (says_e hB x (by omega)) hC (full_pe 101 62 R (by decide) (by decide)) (by simp [ws, List.takeWhile_cons, whiteB])
    rw [hrr] at hE ⊢
    exact .elem (d + 1) m (m + 3 * (l.length + 1)) m2 B _ R _ ks r' (misc_lowp 112 _ (by decide) (by decide)) (not_shut 112 _ (by decide)) hE h
/-- the whole text -/
def allZ (l : List UInt8) : List UInt8 := headZ ++ (coreS l ++ [60, 47, 114, 62])
theorem all_elem (l : List UInt8) (hl : l.length ≤ 20) : ElemX 32 0 [] (allZ l) (.el [118] [114] [] (coreN [117] l)) (1 + 3 * l.length) [] := by
  have hB : Bok [([112], [117]), ([], [118])] [117] := ⟨⟨[], [([], [118])], rfl, by simp⟩, ⟨[([112], [117])], [], rfl, by simp⟩⟩
  have hC := core_cont l 32 1 _ [117] [60, 47, 114, 62] [] (1 + 3 * l.length) [114, 62] hB (by simp; omega) (by omega) (by omega) (.done _ _ _ _)
  rw [List.append_nil] at hC
  refine .open 31 0 _ [] _ _ [] [114] [118] [] _ [] _ _ _ [62] [] (by omega) (head_mark _) says_head hC ?_ (by simp [ws, List.takeWhile_cons, whiteB])
  have := FullN.one [114, 62] [114] (by simp [nameS, beginsB, goesB, List.takeWhile_cons]) (by simp) (by simp [List.cons_prefix_cons])
  simpa using this
theorem core_eq (l : List UInt8) : coreS l = l.flatMap opn ++ (List.replicate l.length tailZ).flatten := by
  induction l with
  | nil => rfl
  | cons x l ih =>
    rw [List.length_cons, List.replicate_succ', List.flatMap_cons]
    simp [coreS, ih]
theorem opn_len (x : UInt8) : (opn x).length ≤ 24 := by unfold opn; split <;> simp
theorem opns_len (l : List UInt8) : (l.flatMap opn).length ≤ 24 * l.length := by
  induction l with
  | nil => simp
  | cons x l ih => have := opn_len x; simp only [List.flatMap_cons, List.length_append, List.length_cons]; omega
theorem tails_len (n : Nat) : (List.replicate n tailZ).flatten.length = 16 * n := by
  simp [tailZ]; omega
theorem core_ascii (l : List UInt8) : ∀ x ∈ coreS l, 32 ≤ x.toNat ∧ x.toNat < 128 := by
  induction l with
  | nil => simp [coreS]
  | cons y l ih =>
    intro x hx
    simp only [coreS, List.mem_append] at hx
    rcases hx with hx | hx | hx
    · unfold opn at hx
      have hy := chP_nat y
      have := y.toNat_lt
      split at hx
      · simp only [List.mem_append, List.mem_cons, List.not_mem_nil, or_false] at hx
        rcases hx with h | h | h
        · rcases h with rfl | rfl | rfl | rfl | rfl | rfl | rfl | rfl | rfl | rfl | rfl | rfl | rfl | rfl <;> decide
        · rw [h]; omega
        · rcases h with rfl | rfl | rfl | rfl | rfl | rfl | rfl | rfl | rfl <;> decide
      · simp only [List.mem_cons, List.not_mem_nil, or_false] at hx
        rcases hx with rfl | rfl | rfl | rfl | rfl | rfl | rfl | rfl | rfl | rfl | rfl | rfl <;> decide
    · exact ih x hx
    · have : ∀ x ∈ tailZ, 32 ≤ x.toNat ∧ x.toNat < 128 := by decide
      exact this x hx
theorem all_ascii (l : List UInt8) : ∀ x ∈ allZ l, 32 ≤ x.toNat ∧ x.toNat < 128 := by
  intro x hx
  unfold allZ at hx
  rcases List.mem_append.1 hx with hx | hx
  · have : ∀ x ∈ headZ, 32 ≤ x.toNat ∧ x.toNat < 128 := by decide
    exact this x hx
  · rcases List.mem_append.1 hx with hx | hx
    · exact core_ascii l x hx
    · have : ∀ x ∈ ([60, 47, 114, 62] : List UInt8), 32 ≤ x.toNat ∧ x.toNat < 128 := by decide
      exact this x hx
end Go.Proofs.YtgomlebemefdcaaDoor

/- The reader reads a content without texts. No condition. -/
namespace Go.Proofs.YtgomlebemefdcaaDoor
open Go Go.RowKit Go.Wk Go.Xt Go.Xe
theorem stop_sixty (r : List UInt8) : Txt (-1) (60 :: r) [] (60 :: r) := .stop 60 r (.inl rfl)
set_option maxHeartbeats 4000000 in
set_option maxRecDepth 100000 in
theorem xml_contentP {w : World} {L R B0 c p m m2 d : Nat} {bv : Value} {A : Option Addr} {bs r r' : List UInt8} {B : List (List UInt8 × List UInt8)} {ks : List Nx} (hd : d ≤ 1000) (hE : ElemD L R B0 A c bs d) (h : RS w L R bv A c bs p m) (hb : Bnd w B0 bv B) (hLB : L < B0) (hRB : R < B0) (hB0 : B0 ≤ w.heap.size) (hA0 : 0 < bs.length → ∀ x, A = some x → x.block < B0) (hr : Rest bs p r) (hC : ContX (d + 1) m B r ks m2 r') :
    Calls Tryd.prog 52 #[.pointer (some ⟨R, 0, none⟩), .int .i64 ((d : Int) + 1)] w (ContQ w L R B0 bv A c bs B ks m2 r') := by
  have hLw := h.cur.L_lt
  have hRw := h.rdr.lt
  have hsm := h.cur.small
  have hAB := Lib.hid h.A_lt
  have hlr := hr.len
  replace hE := Lib.hid hE
  replace h := Lib.hid h
  replace hb := Lib.hid hb
  replace hr := Lib.hid hr
  replace hC := Lib.hid hC
  replace hA0 := Lib.hid hA0
  obtain ⟨i0, hi0, hz0, hz1, hz2⟩ := node_info
  have hee : ((⟨#[]⟩ : ByteArray) ++ ⟨#[]⟩).toList.isEmpty = true := by rw [ByteArray.toList_eq]; rfl
  go_enter Tryd.func52, Tryd.ntmps52
  go_wp2
  go_loopw [6, 7] (fun s6 s7 wr => ContM w L R B0 bv A c bs d B ks m2 r' s6 s7 wr) (fun _ _ wr => bs.length + 1 - posOf L wr)
  case atStart => exact ⟨p, m, bv, r, [], ks, [], [], hr.out, hC.out, rfl, rfl, KidsX.nil _ _ _, by simp; omega, h.out, hb.out, FrX.of_fr (Fr.refl _ _ _)⟩
  case round =>
    obtain ⟨q, m1, bvr, r1, done, rest, vs, b, hq, hC1, hks, rfl, hK, hlen, hS, hbr, hF⟩ := hrel
    have hpos := Lib.hid hS.pos
    have hFz := hF.size
    have hql := hq.len
    clear h hr hC hlr hb
    obtain ⟨a6, cp6, rfl⟩ := sl_of hK.own
    cases hC1 with
    | done _ _ _ r3 =>
      have ct : Calls Tryd.prog 63 #[.pointer (some ⟨R, 0, none⟩), .int .i64 (-1)] wr fun e w' => e = .returned (.tuple #[.string ⟨#[]⟩, .int .i64 0]) ∧ End wr L R bvr A c bs m2 (60 :: 47 :: r') w' := xml_text (-1) (by omega) hS hq (stop_sixty _)
      have cm := fun w1 q1 (h1 : RS w1 L R bvr A c bs q1 m2) (hq1 : Rest bs q1 (60 :: 47 :: r')) => xml_misc h1 hq1 (.no (60 :: 47 :: r') (by simp [List.cons_prefix_cons]) (by simp [List.cons_prefix_cons]))
      have c54 : ∀ w2 q2, RS w2 L R bvr A c bs q2 m2 → Rest bs q2 (60 :: 47 :: r') → Calls Tryd.prog 54 #[.pointer (some ⟨L, 0, none⟩), .string ⟨#[60, 47]⟩] w2 fun e w' => e = .returned (.bool true) ∧ RS w' L R bvr A c bs (q2 + 2) m2 ∧ Fr L R w2 w' := fun w2 q2 h2 hq2 => rs_yes h2 ⟨#[60, 47]⟩ r' (by decide) (by decide) hq2.eq
      have hx4 : ∀ q2, Rest bs q2 (60 :: 47 :: r') → Rest bs (q2 + 2) r' := fun q2 h => Rest.app (s := [60, 47]) h
      replace hx4 := Lib.hid hx4
      replace cm := Lib.hid cm
      replace hK := Lib.hid hK
      replace hS := Lib.hid hS
      replace hF := Lib.hid hF
      replace hbr := Lib.hid hbr
      replace hks := Lib.hid hks
      replace hlen := Lib.hid hlen
      replace hql := Lib.hid hql
      replace c54 := Lib.hid c54
      clear hq
      obtain ⟨nd, hnd0⟩ : ∃ n, done.length = n := ⟨_, rfl⟩
      rw [hnd0] at hK ⊢
      replace hnd0 := Lib.hid hnd0
      go_wp2_with (first
        | (go_at_call 63; (with_reducible refine ct.mono ?_); rintro e w1 ⟨rfl, ⟨⟨q1, h1, hq1⟩, f1⟩⟩; have k2 := cm.out w1 q1 h1 hq1; replace f1 := Lib.hid f1; replace h1 := Lib.hid h1; replace hq1 := Lib.hid hq1)
        | (go_at_call 50; (with_reducible refine k2.mono ?_); rintro e w2 ⟨rfl, ⟨⟨q2, h2, hq2⟩, f2⟩⟩; have c2 := h2.rdr.cell 0; have F := f1.out.trans f2; have k3 := c54.out w2 q2 h2 hq2; replace f2 := Lib.hid f2; replace h2 := Lib.hid h2; replace hq2 := Lib.hid hq2; replace F := Lib.hid F)
        | (go_at_call 54; (with_reducible refine k3.mono ?_); rintro e w3 ⟨rfl, h3, f3⟩; replace f3 := Lib.hid f3; replace h3 := Lib.hid h3))
      go_ret2
      have F3 := F.out.trans f3.out
      obtain ⟨bk, hks1, hbk⟩ := (hK.out.frX (FrX.of_fr (bv := bvr) F3) (by omega) (by omega)).ks
      refine ⟨_, _, _, bk, bvr, rfl, ?_, hbk, ⟨_, h3.out, hx4.out q2 hq2.out⟩, own_fr hbr.out F3 hLB hRB, hF.out.trans (FrX.of_fr F3)⟩
      have e := hks.out
      rw [List.append_nil] at e
      rw [← e]
      exact hks1
    | elem _ _ m3 _ _ r2 r3 k ks2 _ hM hx3 hEl hC2 =>
      have hlE := elemX_len hEl
      have ct : Calls Tryd.prog 63 #[.pointer (some ⟨R, 0, none⟩), .int .i64 (-1)] wr fun e w' => e = .returned (.tuple #[.string ⟨#[]⟩, .int .i64 0]) ∧ End wr L R bvr A c bs m1 (60 :: r2) w' := xml_text (-1) (by omega) hS hq (stop_sixty _)
      have cm := fun w1 q1 (h1 : RS w1 L R bvr A c bs q1 m1) (hq1 : Rest bs q1 (60 :: r2)) => xml_misc h1 hq1 hM
      have c54 : ∀ w2 q2, RS w2 L R bvr A c bs q2 m1 → Rest bs q2 (60 :: r2) → Calls Tryd.prog 54 #[.pointer (some ⟨L, 0, none⟩), .string ⟨#[60, 47]⟩] w2 fun e w' => e = .returned (.bool false) ∧ RS w' L R bvr A c bs q2 m1 ∧ Fr L R w2 w' := fun w2 q2 h2 hq2 => rs_no h2 ⟨#[60, 47]⟩ (by decide) (by decide) (by rw [hq2.eq]; exact hx3)
      have cE := fun w3 q3 (hz : B0 ≤ w3.heap.size) (h3 : RS w3 L R bvr A c bs q3 m1) (hb3 : Bnd w3 B0 bvr B) (hq3 : Rest bs q3 (60 :: r2)) => hE.out w3 bvr q3 m1 B (60 :: r2) k m3 r3 hz h3 hb3 hq3 hEl
      replace cE := Lib.hid cE
      replace hC2 := Lib.hid hC2
      replace hlE := Lib.hid hlE
      clear hx3 hEl
      replace cm := Lib.hid cm
      replace hK := Lib.hid hK
      replace hS := Lib.hid hS
      replace hF := Lib.hid hF
      replace hbr := Lib.hid hbr
      replace hks := Lib.hid hks
      replace hlen := Lib.hid hlen
      replace hql := Lib.hid hql
      replace c54 := Lib.hid c54
      clear hM hq
      obtain ⟨nd, hnd0⟩ : ∃ n, done.length = n := ⟨_, rfl⟩
      rw [hnd0] at hK ⊢
      replace hnd0 := Lib.hid hnd0
      go_wp2_with (first
        | (go_at_call 63; (with_reducible refine ct.mono ?_); rintro e w1 ⟨rfl, ⟨⟨q1, h1, hq1⟩, f1⟩⟩; have k2 := cm.out w1 q1 h1 hq1; replace f1 := Lib.hid f1; replace h1 := Lib.hid h1; replace hq1 := Lib.hid hq1)
        | (go_at_call 50; (with_reducible refine k2.mono ?_); rintro e w2 ⟨rfl, ⟨⟨q2, h2, hq2⟩, f2⟩⟩; have c2 := h2.rdr.cell 0; have F := f1.out.trans f2; have k3 := c54.out w2 q2 h2 hq2; replace f2 := Lib.hid f2; replace h2 := Lib.hid h2; replace hq2 := Lib.hid hq2; replace F := Lib.hid F)
        | (go_at_call 54; (with_reducible refine k3.mono ?_); rintro e w3 ⟨rfl, h3, f3⟩; have F3 := F.out.trans f3; have K3 := hK.out.frX (FrX.of_fr (bv := bvr) F3) (by omega) (by omega); have hv3 := K3.own.lt; have b3 := own_fr hbr.out F3 hLB hRB; have hz3 := F3.size; have k4 := cE.out w3 q2 (by omega) h3 b3 hq2.out; replace f3 := Lib.hid f3; replace h3 := Lib.hid h3; replace F3 := Lib.hid F3; replace K3 := Lib.hid K3; replace hv3 := Lib.hid hv3; replace b3 := Lib.hid b3)
        | (go_at_call 40; (with_reducible refine k4.mono ?_); rintro e w6 ⟨S, N, a1, n1, c1, a2, n2, c2, bl, bv6, rfl, hnd, hbl, ⟨q6, h6, hq6⟩, b6, f6⟩; have hba : Below w6.heap.size w6 (w6.alloc (.cells #[.string S, .string N, .string ⟨#[]⟩, .slice a1 n1 c1, .slice a2 n2 c2] 27)) := (Below.refl _ _).alloc (Nat.le_refl _) _; have K6 := (K3.out.frX f6 (by omega) (by omega)).frX (FrX.of_fr (bv := bv6) (Fr.of_below (L := L) (R := R) hba)) (by omega) (by omega); have own6 := K6.own; have hsz36 := f6.size; have hnd6 := hnd.keep (fun j hj => hba.block j (hbl j hj).2.1); have h66 := h6.below hba; have b66 := own_belowB b6 hba; have hs61 : (w6.alloc (.cells #[.string S, .string N, .string ⟨#[]⟩, .slice a1 n1 c1, .slice a2 n2 c2] 27)).heap.size = w6.heap.size + 1 := World.size_alloc _ _; replace f6 := Lib.hid f6; replace h6 := Lib.hid h6; replace hq6 := Lib.hid hq6; replace hnd := Lib.hid hnd; replace hbl := Lib.hid hbl; replace hba := Lib.hid hba; replace K6 := Lib.hid K6; replace hnd6 := Lib.hid hnd6; replace h66 := Lib.hid h66; replace b6 := Lib.hid b6; replace b66 := Lib.hid b66; replace hs61 := Lib.hid hs61; rw [hnd0.out] at own6)
        | (at_builtin; refine wpList_append_own_at _ rfl (.tmp 55) (.tmp 57) 25 rfl w.heap.size 27 i0 _ 5 96 Tryd.underlying25 hi0 hz0 hz1 hz2 rfl (by decide) _ _ _ rfl (own6.alloc _) ⟨w6.heap.size + 1, 0, none⟩ 1 1 [.string S, .string N, .string ⟨#[]⟩, .slice a1 n1 c1, .slice a2 n2 c2] rfl rfl (by have := five_new (w6.alloc (.cells #[.string S, .string N, .string ⟨#[]⟩, .slice a1 n1 c1, .slice a2 n2 c2] 27)) (.string S) (.string N) (.string ⟨#[]⟩) (.slice a1 n1 c1) (.slice a2 n2 c2) 27; rw [hs61.out] at this; exact this) (five_one _ _ _ _ _ rfl rfl) (by have := hlen.out; have := hnd0.out; unfold maxLen; omega) (by have := hlen.out; have := hnd0.out; omega) (by simp; omega) ?_; intro v7 w7 hown7 hg7 _ hat7; have hown8 := hown7; rw [← hnd0.out] at hown8; have hv6 := b66.out.lt; have K7 := K6.out.add hnd6.out (fun j hj => ⟨by have := (hbl.out j hj).1; omega, by rw [hs61.out]; have := (hbl.out j hj).2.1; omega, (hbl.out j hj).2.2⟩) (fun j hj e => by have := (hv3.out j e).2; have := (hbl.out j hj).1; omega) (fun j e => (hv6 j e).2) hown8 hg7 hat7; have B7 : Below w.heap.size w6 w7 := (((Below.refl w.heap.size w6).alloc (by omega) _).alloc (by rw [hs61.out]; omega) _).grown hg7 (by simp; omega) (fun j hj => (own6.lt j hj).1); have b7 := own_grown b66.out hg7 (fun j e => K6.out.ne j e); have h7 := h6.out.belowB B7 hLw hRw hAB.out; replace K7 := Lib.hid K7; replace B7 := Lib.hid B7; replace b7 := Lib.hid b7; replace h7 := Lib.hid h7; replace hown7 := Lib.hid hown7; replace hg7 := Lib.hid hg7; replace hat7 := Lib.hid hat7))
      have l3 := hlen.out
      have l4 := hql.out
      have l5 := hlE.out
      have l6 := hq6.out.len
      have l7 := hnd0.out
      go_roundw
      case rel => exact ⟨q6, m3, bv6, r3, done ++ [k], ks2, _, _, hq6.out, hC2.out, by rw [← hks.out]; simp, rfl, K7.out, by simp; simp at l3 l5; omega, h7.out, b7.out, (hF.out.trans ((FrX.of_fr F3.out).trans f6.out)).tail B7.out⟩
      case measure => rw [h7.out.pos, hpos.out]; simp at l4 l5; omega
end Go.Proofs.YtgomlebemefdcaaDoor

/- The reader reads an element without texts. No condition. -/
namespace Go.Proofs.YtgomlebemefdcaaDoor
open Go Go.RowKit Go.Wk Go.Xt Go.Xe
theorem Bnd.cap {w : World} {B0 n cap : Nat} {a : Option Addr} {B : List (List UInt8 × List UInt8)} (h : Bnd w B0 (.slice a n cap) B) : n = B.length ∧ B.length ≤ cap := by
  unfold Bnd at h
  rcases h.2 with ⟨e, h0⟩ | ⟨g, cap', cur, e, rest⟩
  · cases e; omega
  · cases e
    simp_all
set_option maxHeartbeats 4000000 in
set_option maxRecDepth 100000 in
theorem xml_elemP_shut {w : World} {L R B0 c p m d : Nat} {bv : Value} {A : Option Addr} {bs r r' pre nm sp so : List UInt8} {B E : List (List UInt8 × List UInt8)} {l o : List (List UInt8 × List UInt8 × List UInt8)} (hd : d ≤ 900) (hLB : L < B0) (hRB : R < B0) (hA0 : 0 < bs.length → ∀ x, A = some x → x.block < B0) (hB0 : B0 ≤ w.heap.size) (h : RS w L R bv A c bs p m) (hb : Bnd w B0 bv B) (hr : Rest bs p r) (hm : m < 4000) (hM : MarkP r pre nm l true r') (hS : Says B E pre sp so l o) :
    Calls Tryd.prog 40 #[.pointer (some ⟨R, 0, none⟩), .int .i64 ((d : Int) + 1)] w (ElemQ w L R B0 bv A c bs B (.el sp nm (attsX so o) []) (m + 1) r') := by
  have hb0 : Below w.heap.size w (w.alloc (.cells z5 27)) := (Below.refl _ _).alloc (Nat.le_refl _) _
  have h0 := h.below hb0
  have hb1 := own_belowB hb hb0
  have hnew := Blk.new w 27 z5
  have hRlt := h.rdr.lt
  have hLlt := h.cur.L_lt
  have hAlt := Lib.hid h.A_lt
  obtain ⟨N, hN⟩ : ∃ N : ByteArray, str nm = .string N := ⟨_, rfl⟩
  obtain ⟨P, hP⟩ : ∃ N : ByteArray, str pre = .string N := ⟨_, rfl⟩
  obtain ⟨S, hSS⟩ : ∃ N : ByteArray, str sp = .string N := ⟨_, rfl⟩
  have hdi : (((d + 1 : Nat) : Int)) = (d : Int) + 1 := by omega
  have hsw : (w.alloc (.cells z5 27)).heap.size = w.heap.size + 1 := World.size_alloc _ _
  have cm := xml_markP (d + 1) (by omega) (by omega) hm hS h0 hr hM hb1 hLB hRB (by omega) hA0
  unfold MarkR at cm
  rw [hN, hP, hSS, hdi] at cm
  have hbl := hb.lt
  obtain ⟨E2, hE2⟩ := bindsOf_app l B
  have hEE : E = B ++ E2 := by rw [← hE2]; exact hS.new.symm
  obtain ⟨ab, cb, rfl⟩ := sl_of hb
  have c02 := h0.rdr.cell 2
  have hBE : B.length ≤ E.length := by rw [hEE]; simp
  obtain ⟨nb, hnb⟩ : ∃ n, n = B.length := ⟨_, rfl⟩
  obtain ⟨ne, hne⟩ : ∃ n, n = E.length := ⟨_, rfl⟩
  rw [← hnb] at cm c02 h0 hb1 hbl hBE hb h ⊢
  rw [← hne] at hBE
  have hbs : nb ≤ 1000 := by rw [hnb]; exact hS.small
  replace hnb := Lib.hid hnb
  replace hne := Lib.hid hne
  replace hN := Lib.hid hN
  replace hP := Lib.hid hP
  replace hSS := Lib.hid hSS
  replace h0 := Lib.hid h0
  replace hb0 := Lib.hid hb0
  replace hb1 := Lib.hid hb1
  replace hnew := Lib.hid hnew
  replace hEE := Lib.hid hEE
  replace hbl := Lib.hid hbl
  replace hsw := Lib.hid hsw
  clear h hr hM hdi hb hS hE2
  go_enter Tryd.func40, Tryd.ntmps40
  go_wp2_with (go_at_call 51; (with_reducible refine cm.mono ?_); rintro e w1 ⟨bv1, av, rfl, ⟨q1, h1, hq1⟩, b1, f1, t1⟩; obtain ⟨bo, tA, hbo⟩ := t1.atX; obtain ⟨ab1, cb1, rfl⟩ := sl_of b1; have hc1 := b1.cap.2; rw [← hne.out] at hc1 b1 f1 h1 hbo; have hav : ∃ a n cp, av = .slice a n cp := (by rcases tA with ⟨_, e, _⟩ | ⟨_, _, _, _, e, _⟩ <;> exact ⟨_, _, _, e⟩); obtain ⟨a1, n1, c1, rfl⟩ := hav; have hz4 : Blk w1 w.heap.size 27 z5 := (f1.block w.heap.size (by rw [hsw.out]; omega) (by omega) (by omega) (fun e => by have := (hbl.out _ e).2; omega)).trans hnew.out; have hbn : Below w1.heap.size w1 (w1.alloc (.cells #[.string S, .string N, .string ⟨#[]⟩, .slice a1 n1 c1, .slice none 0 0] 27)) := (Below.refl _ _).alloc (Nat.le_refl _) _; have h11 := h1.below hbn; have c21 := h1.rdr.cell 2; have f21 := h1.rdr.frozen 2; have hR1 : R < w1.heap.size := h1.rdr.lt; have hg4 : w.heap.size < w1.heap.size := hz4.lt; have a0 := hz4.cell 0; have a1' := hz4.cell 1; have a2 := hz4.cell 2; have a3 := hz4.cell 3; have a4 := hz4.cell 4; have y0 := hz4.frozen 0; have y1 := hz4.frozen 1; have y2 := hz4.frozen 2; have y3 := hz4.frozen 3; have y4 := hz4.frozen 4; replace h11 := Lib.hid h11; replace hbn := Lib.hid hbn; replace h1 := Lib.hid h1; replace hz4 := Lib.hid hz4; replace tA := Lib.hid tA; replace hbo := Lib.hid hbo; replace hq1 := Lib.hid hq1; replace f1 := Lib.hid f1; replace b1 := Lib.hid b1)
  have eB : ∀ n, (Value.slice ab1 n cb1).ownBlock = (Value.slice ab1 ne cb1).ownBlock := fun n => by cases ab1 <;> rfl
  have X1 := (FrX.of_fr (bv := .slice ab nb cb) (Fr.of_below (L := L) (R := R) hb0.out)).trans f1.out
  have hbw : (Value.slice ab1 ne cb1).ownBlock ≠ some w.heap.size := fun e => by
    rcases f1.out.own with h5 | h5
    · rw [h5] at e; have := (hbl.out _ e).2; omega
    · have := h5 _ e; rw [hsw.out] at this; omega
  have hb2 : Bnd w1 B0 (.slice ab1 nb cb1) B := by
    have := b1.out
    rw [hEE.out] at this
    rw [hnb.out]
    exact this.take
  have hb3 := own_farB (u := .slice ab1 nb cb1) (p := ⟨R, 2, none⟩) hb2 hRB
  have hzR : Blk (w1.setCell ⟨R, 2, none⟩ (.slice ab1 nb cb1)) w.heap.size 27 z5 := hz4.out.far (by show w.heap.size ≠ R; omega) _
  have hV := put5_blk hzR (.string S) (.string N) (.string ⟨#[]⟩) (.slice a1 n1 c1) (.slice none 0 0)
  have hVS := put5_save (w1.setCell ⟨R, 2, none⟩ (.slice ab1 nb cb1)) w.heap.size (.string S) (.string N) (.string ⟨#[]⟩) (.slice a1 n1 c1) (.slice none 0 0)
  have hR2 := h1.out.setB (.slice ab1 nb cb1)
  have hSR : Save R w1 (w1.setCell ⟨R, 2, none⟩ (.slice ab1 nb cb1)) := (Save.refl R w1).store 2 _
  unfold put5 at hV hVS
  obtain ⟨U, hU⟩ : ∃ U, U = (((((w1.setCell ⟨R, 2, none⟩ (.slice ab1 nb cb1)).setCell ⟨w.heap.size, 0, none⟩ (.string S)).setCell ⟨w.heap.size, 1, none⟩ (.string N)).setCell ⟨w.heap.size, 2, none⟩ (.string ⟨#[]⟩)).setCell ⟨w.heap.size, 3, none⟩ (.slice a1 n1 c1)).setCell ⟨w.heap.size, 4, none⟩ (.slice none 0 0) := ⟨_, rfl⟩
  rw [← hU] at hV hVS ⊢
  have hbU : Below U.heap.size U (U.alloc (.cells #[.string S, .string N, .string ⟨#[]⟩, .slice a1 n1 c1, .slice none 0 0] 27)) := (Below.refl _ _).alloc (Nat.le_refl _) _
  have hV2 := hV.alloc (.cells #[.string S, .string N, .string ⟨#[]⟩, .slice a1 n1 c1, .slice none 0 0] 27)
  generalize (U.alloc (.cells #[.string S, .string N, .string ⟨#[]⟩, .slice a1 n1 c1, .slice none 0 0] 27)) = V at *
  have r0 := hV2.cell 0
  have r1 := hV2.cell 1
  have r2 := hV2.cell 2
  have r3 := hV2.cell 3
  have r4 := hV2.cell 4
  have hSV : Save w.heap.size (w1.setCell ⟨R, 2, none⟩ (.slice ab1 nb cb1)) V := hVS.trans (Save.of_below hbU)
  have hsz2 : (w1.setCell ⟨R, 2, none⟩ (.slice ab1 nb cb1)).heap.size = w1.heap.size := by simp [World.setCell]
  have hsV := hSV.size
  rw [hsz2] at hsV
  have hkeep : ∀ k, k < w1.heap.size → k ≠ R → k ≠ w.heap.size → V.heap[k]? = w1.heap[k]? := fun k h1 h2 h3 => (hSV.block k (by rw [hsz2]; exact h1) h3).trans (hSR.block k h1 h2)
  refine bodyPost_ret (v := .tuple #[.agg #[.string S, .string N, .string ⟨#[]⟩, .slice a1 n1 c1, .slice none 0 0], .int .i64 0]) (by simp [results, Tryd.results40, go_sem, r0, r1, r2, r3, r4]) rfl ⟨S, N, a1, n1, c1, none, 0, 0, bo ++ [], .slice ab1 nb cb1, rfl, ?_, ?_, ⟨q1, ?_, hq1.out⟩, ?_, ?_⟩
  · rw [← hN.out, ← hSS.out]
    exact .el sp nm (attsX so o) [] _ _ bo [] (tA.out.keep fun k hk => hkeep k (hbo.out k hk).2.1 (by have := (hbo.out k hk).1; rw [hsw.out] at this; omega) (by have := (hbo.out k hk).1; rw [hsw.out] at this; omega)) .nil
  · intro k hk
    rw [List.append_nil] at hk
    have h5 := hbo.out k hk
    rw [hsw.out] at h5
    exact ⟨by omega, by omega, by rw [eB]; exact h5.2.2⟩
  · exact hR2.belowB (hSV.below (Nat.le_refl _) (by omega)) hLlt hRlt hAlt.out
  · exact own_save hb3 hSV (by rw [eB]; exact hbw)
  · refine ⟨hSV.os.trans (hSR.os.trans X1.os), hSV.tape.trans (hSR.tape.trans X1.tape), hSV.output.trans (hSR.output.trans X1.output), by have := X1.size; omega, fun k h1 h2 h3 h4 => (hkeep k (by have := X1.size; omega) h3 (by omega)).trans (X1.block k h1 h2 h3 h4), ?_⟩
    rw [eB]
    exact X1.own
set_option maxHeartbeats 8000000 in
set_option maxRecDepth 100000 in
theorem xml_elemP_open {w : World} {L R B0 c p m m2 d : Nat} {bv : Value} {A : Option Addr} {bs r r1 r2 r3 r' pre nm sp so : List UInt8} {B E : List (List UInt8 × List UInt8)} {l o : List (List UInt8 × List UInt8 × List UInt8)} {ks : List Nx} (hd : d ≤ 900) (hE : ElemD L R B0 A c bs d) (hLB : L < B0) (hRB : R < B0) (hA0 : 0 < bs.length → ∀ x, A = some x → x.block < B0) (hB0 : B0 ≤ w.heap.size) (h : RS w L R bv A c bs p m) (hb : Bnd w B0 bv B) (hr : Rest bs p r) (hm : m < 4000) (hM : MarkP r pre nm l false r1) (hS : Says B E pre sp so l o)
    (hK : ContX (d + 1) (m + 1) E r1 ks m2 r2) (hn : FullN r2 pre nm r3) (hend : r3.drop (ws r3) = 62 :: r') :
    Calls Tryd.prog 40 #[.pointer (some ⟨R, 0, none⟩), .int .i64 ((d : Int) + 1)] w (ElemQ w L R B0 bv A c bs B (.el sp nm (attsX so o) ks) m2 r') := by
  have hb0 : Below w.heap.size w (w.alloc (.cells z5 27)) := (Below.refl _ _).alloc (Nat.le_refl _) _
  have h0 := h.below hb0
  have hb1 := own_belowB hb hb0
  have hnew := Blk.new w 27 z5
  have hRlt := h.rdr.lt
  have hLlt := h.cur.L_lt
  have hAlt := Lib.hid h.A_lt
  obtain ⟨N, hN⟩ : ∃ N : ByteArray, str nm = .string N := ⟨_, rfl⟩
  obtain ⟨P, hP⟩ : ∃ N : ByteArray, str pre = .string N := ⟨_, rfl⟩
  obtain ⟨S, hSS⟩ : ∃ N : ByteArray, str sp = .string N := ⟨_, rfl⟩
  have hdi : (((d + 1 : Nat) : Int)) = (d : Int) + 1 := by omega
  have hsw : (w.alloc (.cells z5 27)).heap.size = w.heap.size + 1 := World.size_alloc _ _
  have cm := xml_markP (d + 1) (by omega) (by omega) hm hS h0 hr hM hb1 hLB hRB (by omega) hA0
  unfold MarkR at cm
  rw [hN, hP, hSS, hdi] at cm
  have hbl := hb.lt
  obtain ⟨E2, hE2⟩ := bindsOf_app l B
  have hEE : E = B ++ E2 := by rw [← hE2]; exact hS.new.symm
  obtain ⟨ab, cb, rfl⟩ := sl_of hb
  have c02 := h0.rdr.cell 2
  have hBE : B.length ≤ E.length := by rw [hEE]; simp
  obtain ⟨nb, hnb⟩ : ∃ n, n = B.length := ⟨_, rfl⟩
  obtain ⟨ne, hne⟩ : ∃ n, n = E.length := ⟨_, rfl⟩
  rw [← hnb] at cm c02 h0 hb1 hbl hBE hb h ⊢
  rw [← hne] at hBE
  have hbs : nb ≤ 1000 := by rw [hnb]; exact hS.small
  have cc : ∀ W u q, B0 ≤ W.heap.size → RS W L R u A c bs q (m + 1) → Bnd W B0 u E → Rest bs q r1 → Calls Tryd.prog 52 #[.pointer (some ⟨R, 0, none⟩), .int .i64 ((d : Int) + 1)] W (ContQ W L R B0 u A c bs E ks m2 r2) := fun W u q hz hW hu hq => xml_contentP (by omega) hE hW hu hLB hRB hz hA0 hq hK
  have cf : ∀ W u q, RS W L R u A c bs q m2 → Rest bs q r2 → Calls Tryd.prog 53 #[.pointer (some ⟨R, 0, none⟩)] W fun e w' => e = .returned (.tuple #[.string P, .string N, .int .i64 0]) ∧ End W L R u A c bs m2 r3 w' := fun W u q hW hq => by
    have := xml_fullN hW hq hn
    rw [hP, hN] at this
    exact this
  have cb9 : ∀ W u q, RS W L R u A c bs q m2 → Rest bs q r3 → Calls Tryd.prog 49 #[.pointer (some ⟨R, 0, none⟩)] W fun e w' => e = .returned (.int .i64 (ws r3 : Nat)) ∧ RS w' L R u A c bs (q + ws r3) m2 ∧ Fr L R W w' := fun W u q hW hq => xml_blank hW hq.eq
  have cg : ∀ W u q, RS W L R u A c bs q m2 → Rest bs q (62 :: r') → Calls Tryd.prog 54 #[.pointer (some ⟨L, 0, none⟩), .string ⟨#[62]⟩] W fun e w' => e = .returned (.bool true) ∧ RS w' L R u A c bs (q + 1) m2 ∧ Fr L R W w' := fun W u q hW hq => rs_yes hW ⟨#[62]⟩ r' (by decide) (by decide) hq.eq
  have hws : ∀ q, Rest bs q r3 → Rest bs (q + ws r3) (62 :: r') := fun q h => by rw [← hend]; exact h.ws_
  replace hnb := Lib.hid hnb
  replace hne := Lib.hid hne
  replace hN := Lib.hid hN
  replace hP := Lib.hid hP
  replace hSS := Lib.hid hSS
  replace h0 := Lib.hid h0
  replace hb0 := Lib.hid hb0
  replace hb1 := Lib.hid hb1
  replace hnew := Lib.hid hnew
  replace hEE := Lib.hid hEE
  replace hbl := Lib.hid hbl
  replace hsw := Lib.hid hsw
  replace cc := Lib.hid cc
  replace cf := Lib.hid cf
  replace cb9 := Lib.hid cb9
  replace cg := Lib.hid cg
  replace hws := Lib.hid hws
  replace hA0 := Lib.hid hA0
  clear h hr hM hdi hb hS hE2 hK hn hend hE
  generalize ws r3 = nw at *
  go_enter Tryd.func40, Tryd.ntmps40
  go_wp2_with (first
    | (go_at_call 51; (with_reducible refine cm.mono ?_); rintro e w1 ⟨bv1, av, rfl, ⟨q1, h1, hq1⟩, b1, f1, t1⟩; obtain ⟨bo, tA, hbo⟩ := t1.atX; obtain ⟨ab1, cb1, rfl⟩ := sl_of b1; have hc1 := b1.cap.2; rw [← hne.out] at hc1 b1 f1 h1 hbo; have hav : ∃ a n cp, av = .slice a n cp := (by rcases tA with ⟨_, e, _⟩ | ⟨_, _, _, _, e, _⟩ <;> exact ⟨_, _, _, e⟩); obtain ⟨a1, n1, c1, rfl⟩ := hav; have hz4 : Blk w1 w.heap.size 27 z5 := (f1.block w.heap.size (by rw [hsw.out]; omega) (by omega) (by omega) (fun e => by have := (hbl.out _ e).2; omega)).trans hnew.out; have hbn : Below w1.heap.size w1 (w1.alloc (.cells #[.string S, .string N, .string ⟨#[]⟩, .slice a1 n1 c1, .slice none 0 0] 27)) := (Below.refl _ _).alloc (Nat.le_refl _) _; have hzb := Blk.new w1 27 #[.string S, .string N, .string ⟨#[]⟩, .slice a1 n1 c1, .slice none 0 0]; have hsb : (w1.alloc (.cells #[.string S, .string N, .string ⟨#[]⟩, .slice a1 n1 c1, .slice none 0 0] 27)).heap.size = w1.heap.size + 1 := World.size_alloc _ _; have hg4 : w.heap.size < w1.heap.size := hz4.lt; have h11 := h1.below hbn; have b11 := own_belowB b1 hbn; have hz44 := hz4.alloc (.cells #[.string S, .string N, .string ⟨#[]⟩, .slice a1 n1 c1, .slice none 0 0] 27); have kc := cc.out _ _ q1 (by omega) h11 (by have := hne.out; subst this; exact b11) hq1; have hR1 : R < w1.heap.size := h1.rdr.lt; have hL1 : L < w1.heap.size := h1.cur.L_lt; have hbl1 := b1.lt; replace h11 := Lib.hid h11; replace b11 := Lib.hid b11; replace hbn := Lib.hid hbn; replace h1 := Lib.hid h1; replace hz4 := Lib.hid hz4; replace hz44 := Lib.hid hz44; replace hzb := Lib.hid hzb; replace hsb := Lib.hid hsb; replace tA := Lib.hid tA; replace hbo := Lib.hid hbo; replace hq1 := Lib.hid hq1; replace f1 := Lib.hid f1; replace b1 := Lib.hid b1; replace hbl1 := Lib.hid hbl1; clear t1)
    | (go_at_call 52; (with_reducible refine kc.mono ?_); rintro e w2 ⟨a5, n5, cp5, bk, bv2, rfl, hks, hbk, ⟨q2, h2, hq2⟩, b2, f2⟩; have hbk1 : (Value.slice ab1 ne cb1).ownBlock ≠ some w1.heap.size := fun e => (by have := (hbl1.out _ e).2; omega); have hbw1 : (Value.slice ab1 ne cb1).ownBlock ≠ some w.heap.size := fun e => f1.out.own.elim (fun h5 => by rw [h5] at e; have := (hbl.out _ e).2; omega) (fun h5 => by have := h5 _ e; rw [hsw.out] at this; omega); have hzb2 : Blk w2 w1.heap.size 27 #[.string S, .string N, .string ⟨#[]⟩, .slice a1 n1 c1, .slice none 0 0] := (f2.block w1.heap.size (by rw [hsb.out]; omega) (by omega) (by omega) hbk1).trans hzb.out; have hz42 : Blk w2 w.heap.size 27 z5 := (f2.block w.heap.size (by rw [hsb.out]; omega) (by omega) (by omega) hbw1).trans hz44.out; have b4 := hzb2.cell 4; have b4f := hzb2.frozen 4; have hB2 : Below w.heap.size w2 (w2.setCell ⟨w1.heap.size, 4, none⟩ (.slice a5 n5 cp5)) := (Below.refl w.heap.size w2).setCell (p := ⟨w1.heap.size, 4, none⟩) (Nat.le_of_lt hg4) _; have h22 := h2.belowB hB2 hLlt hRlt hAlt.out; have kf := cf.out _ _ q2 h22 hq2; have hzb3 := hzb2.set_ 4 (.slice a5 n5 cp5); have hz43 : Blk (w2.setCell ⟨w1.heap.size, 4, none⟩ (.slice a5 n5 cp5)) w.heap.size 27 z5 := hz42.far (by show w.heap.size ≠ w1.heap.size; omega) _; have hlt2 : w1.heap.size < (w2.setCell ⟨w1.heap.size, 4, none⟩ (.slice a5 n5 cp5)).heap.size := hzb3.lt; obtain ⟨ab2, cb2, rfl⟩ := sl_of b2; have hc2 := b2.cap.2; rw [← hne.out] at hc2 b2 f2 h2 h22 kf hbk; replace h2 := Lib.hid h2; replace h22 := Lib.hid h22; replace hq2 := Lib.hid hq2; replace f2 := Lib.hid f2; replace b2 := Lib.hid b2; replace hks := Lib.hid hks; replace hbk := Lib.hid hbk; replace hbk1 := Lib.hid hbk1; replace hbw1 := Lib.hid hbw1; replace hzb2 := Lib.hid hzb2; replace hz42 := Lib.hid hz42; replace hzb3 := Lib.hid hzb3; replace hz43 := Lib.hid hz43; replace hB2 := Lib.hid hB2; replace hlt2 := Lib.hid hlt2)
    | (go_at_call 53; (with_reducible refine kf.mono ?_); rintro e w3 ⟨rfl, ⟨⟨q3, h3, hq3⟩, f3⟩⟩; have kb := cb9.out w3 _ q3 h3 hq3; have hq4 := hws.out q3 hq3; replace h3 := Lib.hid h3; replace hq3 := Lib.hid hq3; replace f3 := Lib.hid f3; replace hq4 := Lib.hid hq4)
    | (go_at_call 49; (with_reducible refine kb.mono ?_); rintro e w4 ⟨rfl, h4, f4⟩; have kg := cg.out w4 _ _ h4 hq4.out; have c40 := h4.rdr.cell 0; replace h4 := Lib.hid h4; replace f4 := Lib.hid f4)
    | (go_at_call 54; (with_reducible refine kg.mono ?_); rintro e w5 ⟨rfl, h5, f5⟩; have F5 := f3.out.trans (f4.out.trans f5); have hz45 : Blk w5 w.heap.size 27 z5 := (F5.block w.heap.size (by have := hlt2.out; omega) (by omega) (by omega)).trans hz43.out; have hzb5 : Blk w5 w1.heap.size 27 #[.string S, .string N, .string ⟨#[]⟩, .slice a1 n1 c1, .slice a5 n5 cp5] := (F5.block w1.heap.size hlt2.out (by omega) (by omega)).trans hzb3.out; have c52 := h5.rdr.cell 2; have c52f := h5.rdr.frozen 2; have e0 := hzb5.cell 0; have e1 := hzb5.cell 1; have e2 := hzb5.cell 2; have e3 := hzb5.cell 3; have e4 := hzb5.cell 4; have a0 := hz45.cell 0; have a1' := hz45.cell 1; have a2 := hz45.cell 2; have a3 := hz45.cell 3; have a4 := hz45.cell 4; have y0 := hz45.frozen 0; have y1 := hz45.frozen 1; have y2 := hz45.frozen 2; have y3 := hz45.frozen 3; have y4 := hz45.frozen 4; replace F5 := Lib.hid F5; replace h5 := Lib.hid h5; replace hz45 := Lib.hid hz45; replace hzb5 := Lib.hid hzb5; replace f5 := Lib.hid f5))
  have eB : ∀ n, (Value.slice ab2 n cb2).ownBlock = (Value.slice ab2 ne cb2).ownBlock := fun n => by cases ab2 <;> rfl
  have X1 := (FrX.of_fr (bv := .slice ab nb cb) (Fr.of_below (L := L) (R := R) hb0.out)).trans f1.out
  have X2 := (X1.trans (FrX.of_fr (Fr.of_below (L := L) (R := R) hbn.out))).trans f2.out
  have n1w : (Value.slice ab2 ne cb2).ownBlock ≠ some w1.heap.size := fun e => by
    rcases f2.out.own with h5' | h5'
    · rw [h5'] at e; exact hbk1.out e
    · have := h5' _ e; rw [hsb.out] at this; omega
  have n0w : (Value.slice ab2 ne cb2).ownBlock ≠ some w.heap.size := fun e => by
    rcases f2.out.own with h5' | h5'
    · rw [h5'] at e; exact hbw1.out e
    · have := h5' _ e; rw [hsb.out] at this; omega
  have hb2 : Bnd w2 B0 (.slice ab2 nb cb2) B := by
    have := b2.out
    rw [hEE.out] at this
    rw [hnb.out]
    exact this.take
  have hb3 : (w2.setCell ⟨w1.heap.size, 4, none⟩ (.slice a5 n5 cp5)).ownsRow B0 129 2 (.slice ab2 nb cb2) B.length (bndV B) := own_save hb2 ((Save.refl w1.heap.size w2).store 4 (.slice a5 n5 cp5)) (by rw [eB]; exact n1w)
  have hb5 := own_fr hb3 F5.out hLB hRB
  have hb6 := own_farB (u := .slice ab2 nb cb2) (p := ⟨R, 2, none⟩) hb5 hRB
  have hzR : Blk (w5.setCell ⟨R, 2, none⟩ (.slice ab2 nb cb2)) w.heap.size 27 z5 := hz45.out.far (by show w.heap.size ≠ R; omega) _
  have hV := put5_blk hzR (.string S) (.string N) (.string ⟨#[]⟩) (.slice a1 n1 c1) (.slice a5 n5 cp5)
  have hSV := put5_save (w5.setCell ⟨R, 2, none⟩ (.slice ab2 nb cb2)) w.heap.size (.string S) (.string N) (.string ⟨#[]⟩) (.slice a1 n1 c1) (.slice a5 n5 cp5)
  have hR2 := h5.out.setB (.slice ab2 nb cb2)
  have hSR : Save R w5 (w5.setCell ⟨R, 2, none⟩ (.slice ab2 nb cb2)) := (Save.refl R w5).store 2 _
  unfold put5 at hV hSV
  obtain ⟨V, hU⟩ : ∃ U, U = (((((w5.setCell ⟨R, 2, none⟩ (.slice ab2 nb cb2)).setCell ⟨w.heap.size, 0, none⟩ (.string S)).setCell ⟨w.heap.size, 1, none⟩ (.string N)).setCell ⟨w.heap.size, 2, none⟩ (.string ⟨#[]⟩)).setCell ⟨w.heap.size, 3, none⟩ (.slice a1 n1 c1)).setCell ⟨w.heap.size, 4, none⟩ (.slice a5 n5 cp5) := ⟨_, rfl⟩
  rw [← hU] at hV hSV ⊢
  have r0 := hV.cell 0
  have r1 := hV.cell 1
  have r2 := hV.cell 2
  have r3 := hV.cell 3
  have r4 := hV.cell 4
  have hsz5 : (w5.setCell ⟨R, 2, none⟩ (.slice ab2 nb cb2)).heap.size = w5.heap.size := by simp [World.setCell]
  have k5 : ∀ k, k < w5.heap.size → k ≠ R → k ≠ w.heap.size → V.heap[k]? = w5.heap[k]? := fun k h1 h2 h3 => (hSV.block k (by rw [hsz5]; exact h1) h3).trans (hSR.block k h1 h2)
  have hsz2 : (w2.setCell ⟨w1.heap.size, 4, none⟩ (.slice a5 n5 cp5)).heap.size = w2.heap.size := by simp [World.setCell]
  have z25 := F5.out.size
  rw [hsz2] at z25
  have k2 : ∀ k, k < w2.heap.size → k ≠ L → k ≠ R → k ≠ w.heap.size → k ≠ w1.heap.size → V.heap[k]? = w2.heap[k]? := fun k h1 h2 h3 h4 h5 =>
    (k5 k (by omega) h3 h4).trans ((F5.out.block k (by rw [hsz2]; exact h1) h2 h3).trans (Below.heap_setCell _ _ _ _ h5))
  have z12 := f2.out.size
  rw [hsb.out] at z12
  have k1 : ∀ k, k < w1.heap.size → k ≠ L → k ≠ R → k ≠ w.heap.size → (Value.slice ab1 ne cb1).ownBlock ≠ some k → V.heap[k]? = w1.heap[k]? := fun k h1 h2 h3 h4 h5 =>
    (k2 k (by omega) h2 h3 h4 (by omega)).trans ((f2.out.block k (by rw [hsb.out]; omega) h2 h3 h5).trans (hbn.out.block k h1))
  have z5V := hSV.size
  rw [hsz5] at z5V
  refine bodyPost_ret (v := .tuple #[.agg #[.string S, .string N, .string ⟨#[]⟩, .slice a1 n1 c1, .slice a5 n5 cp5], .int .i64 0]) (by simp [results, Tryd.results40, go_sem, r0, r1, r2, r3, r4]) rfl ⟨S, N, a1, n1, c1, a5, n5, cp5, bo ++ bk, .slice ab2 nb cb2, rfl, ?_, ?_, ⟨_, ?_, hq4.out.app (s := [62])⟩, ?_, ?_⟩
  · rw [← hN.out, ← hSS.out]
    refine .el sp nm (attsX so o) ks _ _ bo bk (tA.out.keep fun k hk => ?_) (KxAt.keep hks.out fun k hk => ?_)
    · have h7 := hbo.out k hk
      rw [hsw.out] at h7
      exact k1 k h7.2.1 (by omega) (by omega) (by omega) h7.2.2
    · have h7 := hbk.out k hk
      rw [hsb.out] at h7
      exact k2 k h7.2.1 (by omega) (by omega) (by omega) (by omega)
  · intro k hk
    rcases List.mem_append.1 hk with hk | hk
    · have h7 := hbo.out k hk
      rw [hsw.out] at h7
      refine ⟨by omega, by omega, ?_⟩
      rw [eB]
      intro e
      rcases f2.out.own with h5' | h5'
      · rw [h5'] at e; exact h7.2.2 e
      · have := h5' _ e; rw [hsb.out] at this; omega
    · have h7 := hbk.out k hk
      rw [hsb.out] at h7
      exact ⟨by omega, by omega, by rw [eB]; exact h7.2.2⟩
  · exact hR2.belowB (hSV.below (Nat.le_refl _) (by rw [hsz5]; omega)) hLlt hRlt hAlt.out
  · exact own_save hb6 hSV (by rw [eB]; exact n0w)
  · refine ⟨hSV.os.trans (hSR.os.trans (F5.out.os.trans X2.os)), hSV.tape.trans (hSR.tape.trans (F5.out.tape.trans X2.tape)), hSV.output.trans (hSR.output.trans (F5.out.output.trans X2.output)), by have := X2.size; omega, fun k h1 h2 h3 h4 => (k2 k (by have := X2.size; omega) h2 h3 (by omega) (by omega)).trans (X2.block k h1 h2 h3 h4), ?_⟩
    rw [eB]
    exact X2.own
theorem xml_elementP {L R B0 c : Nat} {A : Option Addr} {bs : List UInt8} (hLB : L < B0) (hRB : R < B0) (hA0 : 0 < bs.length → ∀ x, A = some x → x.block < B0) : ∀ d, d ≤ 900 → ElemD L R B0 A c bs d := by
  intro d
  induction d with
  | zero =>
    intro _ w bv p m B r n m2 r' _ _ _ _ hE
    cases hE
  | succ d ih =>
    intro hd w bv p m B r n m2 r' hz hS hb hr hE
    have hdi : (((d + 1 : Nat) : Int)) = (d : Int) + 1 := by omega
    rw [hdi]
    match hE with
    | .shut _ _ _ E _ pre nm sp so l o r1 hm hM hs => exact xml_elemP_shut (by omega) hLB hRB hA0 hz hS hb hr hm hM hs
    | .open _ _ _ _ E _ pre nm sp so l o r1 ks r2 r3 r4 hm hM hs hC hn hend =>
      exact xml_elemP_open (by omega) (ih (by omega)) hLB hRB hA0 hz hS hb hr hm hM hs hC hn hend
end Go.Proofs.YtgomlebemefdcaaDoor

/- The reader reads all. No condition. -/
namespace Go.Proofs.YtgomlebemefdcaaDoor
open Go Go.RowKit Go.Wk Go.Xt Go.Xe
def NodeQ (w : World) (L R : Nat) (n : Nx) (e : Ending) (w' : World) : Prop :=
  ∃ (S N : ByteArray) (a1 : Option Addr) (n1 c1 : Nat) (a2 : Option Addr) (n2 c2 : Nat) (bl : List Nat), e = .returned (.tuple #[.agg #[.string S, .string N, .string ⟨#[]⟩, .slice a1 n1 c1, .slice a2 n2 c2], .int .i64 0]) ∧
    NxAt w' n [.string S, .string N, .string ⟨#[]⟩, .slice a1 n1 c1, .slice a2 n2 c2] bl ∧ (∀ k ∈ bl, w.heap.size ≤ k ∧ k < w'.heap.size) ∧ Fr L R w w'
theorem FrX.fr {L R : Nat} {bv' : Value} {w w' : World} (h : FrX L R (.slice none 0 0) bv' w w') : Fr L R w w' := ⟨h.os, h.tape, h.output, h.size, fun k h1 h2 h3 => h.block k h1 h2 h3 (by simp [Value.ownBlock])⟩
set_option maxHeartbeats 8000000 in
set_option maxRecDepth 100000 in
theorem xml_allP {w : World} {L R c p m2 : Nat} {A : Option Addr} {bs r r1 r2 : List UInt8} {n : Nx} (h : RS w L R (.slice none 0 0) A c bs p 0) (hr : Rest bs p r) (h1 : Around r r1) (h2 : ElemX 32 0 [] r1 n m2 r2) (h3 : Around r2 []) :
    Calls Tryd.prog 28 #[.pointer (some ⟨R, 0, none⟩)] w (NodeQ w L R n) := by
  have hb0 : Below w.heap.size w (w.alloc (.cells z5 27)) := (Below.refl _ _).alloc (Nat.le_refl _) _
  have h0 := h.below hb0
  have hnew := Blk.new w 27 z5
  have hRlt := h.rdr.lt
  have hLlt := h.cur.L_lt
  have hAlt := Lib.hid h.A_lt
  have ca := xml_around h0 hr h1
  have ce : ∀ W q, w.heap.size ≤ W.heap.size → RS W L R (.slice none 0 0) A c bs q 0 → Rest bs q r1 → Calls Tryd.prog 40 #[.pointer (some ⟨R, 0, none⟩), .int .i64 32] W (ElemQ W L R w.heap.size (.slice none 0 0) A c bs [] n m2 r2) := fun W q hz hW hq => xml_elementP hLlt hRlt hAlt.out 32 (by omega) W _ q 0 [] r1 n m2 r2 hz hW (World.ownsRow_nil _ _ _ _) hq h2
  have cz := fun W u q (hW : RS W L R u A c bs q m2) (hq : Rest bs q r2) => xml_around hW hq h3
  have cl := fun W u q (hW : RS W L R u A c bs q m2) => rs_left hW
  have hl0 : ∀ q, Rest bs q [] → ((bs.length : Int) - (q : Int)) = 0 := fun q hq => by have := hq.len; simp at this; omega
  replace ce := Lib.hid ce
  replace cz := Lib.hid cz
  replace cl := Lib.hid cl
  replace hl0 := Lib.hid hl0
  replace h0 := Lib.hid h0
  replace hb0 := Lib.hid hb0
  replace hnew := Lib.hid hnew
  have cps := fun (w : World) => xml_passed (w := w) true
  simp only [if_true] at cps
  clear h hr h1 h2 h3
  go_enter Tryd.func28, Tryd.ntmps28
  go_wp2_with (first
    | (go_at_call 39; (with_reducible refine ca.mono ?_); rintro e w1 ⟨rfl, ⟨⟨q1, h1, hq1⟩, f1⟩⟩; have zz1 := f1.size; rw [World.size_alloc] at zz1; have k2 := ce.out w1 q1 (by omega) h1 hq1; replace f1 := Lib.hid f1; replace h1 := Lib.hid h1; replace hq1 := Lib.hid hq1)
    | (go_at_call 40; (with_reducible refine k2.mono ?_); rintro e w2 ⟨S, N, a1, n1, c1, a2, n2, c2, bl, bv2, rfl, hnd, hbl, ⟨q2, h2, hq2⟩, b2, f2x⟩; have f2 := f2x.fr; have hbn : Below w2.heap.size w2 (w2.alloc (.cells #[.string S, .string N, .string ⟨#[]⟩, .slice a1 n1 c1, .slice a2 n2 c2] 27)) := (Below.refl _ _).alloc (Nat.le_refl _) _; have hzb := Blk.new w2 27 #[.string S, .string N, .string ⟨#[]⟩, .slice a1 n1 c1, .slice a2 n2 c2]; have h22 := h2.below hbn; have k3 := cz.out _ _ q2 h22 hq2; replace f2 := Lib.hid f2; replace h2 := Lib.hid h2; replace hq2 := Lib.hid hq2; replace hnd := Lib.hid hnd; replace hbl := Lib.hid hbl; replace hbn := Lib.hid hbn; replace hzb := Lib.hid hzb; replace h22 := Lib.hid h22)
    | (go_at_call 39; (with_reducible refine k3.mono ?_); rintro e w3 ⟨rfl, ⟨⟨q3, h3, hq3⟩, f3⟩⟩; replace f3 := Lib.hid f3; replace h3 := Lib.hid h3; replace hq3 := Lib.hid hq3))
  have hz3 : Blk w3 w2.heap.size 27 #[.string S, .string N, .string ⟨#[]⟩, .slice a1 n1 c1, .slice a2 n2 c2] := (f3.out.block w2.heap.size (by simp) (by have := h2.out.cur.L_lt; omega) (by have := h2.out.rdr.lt; omega)).trans hzb.out
  have F2 := f1.out.trans f2.out
  have hw2 : w.heap.size < w2.heap.size := by have := F2.size; simp at this; omega
  have F3 := (F2.trans (Fr.of_below hbn.out)).trans f3.out
  have hz4 : Blk w3 w.heap.size 27 z5 := (F3.block w.heap.size (by simp) (by omega) (by omega)).trans hnew.out
  have kl : ∀ W, Below w.heap.size w3 W → Calls Tryd.prog 37 #[.pointer (some ⟨L, 0, none⟩)] W fun e w' => e = .returned (.int .i64 0) ∧ W = w' := fun W hW => by
    have := rs_left (h3.out.belowB hW hLlt hRlt hAlt.out)
    rw [hl0.out q3 hq3.out] at this
    exact this
  have c30 := h3.out.rdr.cell 0
  obtain ⟨g2, hg2⟩ : ∃ g, g = w.heap.size := ⟨_, rfl⟩
  obtain ⟨g5, hg5⟩ : ∃ g, g = w2.heap.size := ⟨_, rfl⟩
  have hRg : R ≠ g2 := by omega
  have hgg : g2 ≠ g5 := by omega
  rw [← hg2] at hz4 kl ⊢
  rw [← hg5] at hz3 ⊢
  have a0 := hz4.cell 0
  have a1' := hz4.cell 1
  have a2' := hz4.cell 2
  have a3 := hz4.cell 3
  have a4 := hz4.cell 4
  have y0 := hz4.frozen 0
  have y1 := hz4.frozen 1
  have y2 := hz4.frozen 2
  have y3 := hz4.frozen 3
  have y4 := hz4.frozen 4
  have e0 := hz3.cell 0
  have e1 := hz3.cell 1
  have e2 := hz3.cell 2
  have e3 := hz3.cell 3
  have e4 := hz3.cell 4
  replace hz3 := Lib.hid hz3
  replace hz4 := Lib.hid hz4
  replace F2 := Lib.hid F2
  replace F3 := Lib.hid F3
  replace kl := Lib.hid kl
  replace hg2 := Lib.hid hg2
  replace hg5 := Lib.hid hg5
  go_region_with (first
    | (go_at_call 37; refine (kl.out _ (by first | exact Below.refl _ _ | (repeat (first | exact Below.refl _ _ | refine Below.drew ?_ | refine Below.setCell ?_ (Nat.le_refl _) _)))).mono ?_; rintro e w' ⟨rfl, rfl⟩)
    | (go_at_call 41; refine (cps _).mono ?_; rintro e w' ⟨rfl, rfl⟩))
  all_goals
    go_wp2
    have hV := (put5_blk hz4.out (.string S) (.string N) (.string ⟨#[]⟩) (.slice a1 n1 c1) (.slice a2 n2 c2)).drew
    have hSV := (put5_save w3 g2 (.string S) (.string N) (.string ⟨#[]⟩) (.slice a1 n1 c1) (.slice a2 n2 c2)).drawn 1
    unfold put5 at hV hSV
    obtain ⟨V, hU⟩ : ∃ U, U = ((((((w3.setCell ⟨g2, 0, none⟩ (.string S)).setCell ⟨g2, 1, none⟩ (.string N)).setCell ⟨g2, 2, none⟩ (.string ⟨#[]⟩)).setCell ⟨g2, 3, none⟩ (.slice a1 n1 c1)).setCell ⟨g2, 4, none⟩ (.slice a2 n2 c2)).drew) := ⟨_, rfl⟩
    have hSV2 : Save g2 w3 V := by rw [hU]; exact hSV
    rw [← hU] at hV ⊢
    clear hSV
    have r0 := hV.cell 0
    have r1 := hV.cell 1
    have r2 := hV.cell 2
    have r3 := hV.cell 3
    have r4 := hV.cell 4
    have hs2 : (w2.alloc (.cells #[.string S, .string N, .string ⟨#[]⟩, .slice a1 n1 c1, .slice a2 n2 c2] 27)).heap.size = w2.heap.size + 1 := World.size_alloc _ _
    have z23 := f3.out.size
    rw [hs2] at z23
    have z3V := hSV2.size
    have hg2' := hg2.out
    have zw1 := f1.out.size
    rw [World.size_alloc] at zw1
    refine bodyPost_ret (v := .tuple #[.agg #[.string S, .string N, .string ⟨#[]⟩, .slice a1 n1 c1, .slice a2 n2 c2], .int .i64 0]) (by simp [results, Tryd.results28, go_sem, Act.put, r0, r1, r2, r3, r4]) rfl ⟨S, N, a1, n1, c1, a2, n2, c2, bl, rfl, ?_, ?_, ?_⟩
    · refine hnd.out.keep fun k hk => ?_
      have := hbl.out k hk
      exact (hSV2.block k (by omega) (by omega)).trans ((f3.out.block k (by rw [hs2]; omega) (by omega) (by omega)).trans (hbn.out.block k this.2.1))
    · intro k hk
      have := hbl.out k hk
      omega
    · exact ((Fr.of_below hb0.out).trans F3.out).tail (hSV2.below (by omega) (by omega))
end Go.Proofs.YtgomlebemefdcaaDoor

/- Parts of the root: the cursor, the reader newly made. No condition. -/
namespace Go.Proofs.YtgomlebemefdcaaDoor
open Go Go.RowKit Go.Wk Go.Xt Go.Xe
set_option maxHeartbeats 1000000 in
set_option maxRecDepth 100000 in
theorem cur_seek0 {w : World} {L c p : Nat} {A : Option Addr} {bs : List UInt8} (h : Cur w w L A c bs p) :
    Calls Tryd.prog 25 #[.pointer (some ⟨L, 0, none⟩), .int .i64 0] w fun e w' => e = .returned (.bool true) ∧ Cur w w' L A c bs 0 := by
  have hg := h.go 0 (Nat.zero_le _)
  have cb := h.cb
  have ca := h.ca
  have fr := h.fr
  have hneg : ¬ (bs.length : Int) < 0 := by omega
  replace h := Lib.hid h
  replace hg := Lib.hid hg
  go_enter Tryd.func25, Tryd.ntmps25
  go_wp2
  go_ret
  exact ⟨rfl, hg.out⟩
set_option maxHeartbeats 1000000 in
theorem cur_len {w : World} {L c p : Nat} {A : Option Addr} {bs : List UInt8} (h : Cur w w L A c bs p) :
    Calls Tryd.prog 27 #[.pointer (some ⟨L, 0, none⟩)] w fun e w' => e = .returned (.int .i64 bs.length) ∧ w = w' := by
  have cb := h.cb
  replace h := Lib.hid h
  go_enter Tryd.func27, Tryd.ntmps27
  go_wp2
  go_ret
  exact ⟨rfl, rfl⟩
theorem cur_new (A : Option Addr) (n c : Nat) (w : World) (hc : n ≤ c) (hn : n ≤ 100000) :
    Calls Tryd.prog 24 #[.slice A n c] w fun e w' => e = .returned (.pointer (some ⟨w.heap.size, 0, none⟩)) ∧ w' = w.alloc (.cells #[.slice A n n, .int .i64 0] 82) := by
  go_enter Tryd.func24, Tryd.ntmps24
  cases A with
  | none =>
    go_wp2
    go_ret
    exact ⟨rfl, rfl⟩
  | some a =>
    go_wp2
    go_ret
    exact ⟨rfl, rfl⟩
theorem new_cur {w : World} {A : Option Addr} {bs : List UInt8} (h : Byt w A bs) (hs : bs.length ≤ 100000) : Cur (w.alloc (.cells #[.slice A bs.length bs.length, .int .i64 0] 82)) (w.alloc (.cells #[.slice A bs.length bs.length, .int .i64 0] 82)) w.heap.size A bs.length bs 0 := by
  have hB := Blk.new w 82 #[.slice A bs.length bs.length, .int .i64 0]
  refine ⟨fun h0 x hx => ?_, Save.refl _ _, hB.cell 0, hB.cell 1, hB.frozen 1, h.below ((Below.refl _ _).alloc (Nat.le_refl _) _), Nat.zero_le _, hs⟩
  obtain ⟨b, o, e, hc⟩ := h.2 h0
  have := cell_lt (hc 0 h0)
  rw [hx] at e
  cases e
  exact Nat.ne_of_lt this
set_option maxHeartbeats 1000000 in
theorem xml_New (A : Option Addr) (c : Nat) (bs : List UInt8) (w : World) (hb : Byt w A bs) (hc : bs.length ≤ c) (hs : bs.length ≤ 100000) :
    Calls Tryd.prog 16 #[.slice A bs.length c] w fun e w' => e = .returned (.pointer (some ⟨w.heap.size + 1, 0, none⟩)) ∧ RS w' w.heap.size (w.heap.size + 1) (.slice none 0 0) A bs.length bs 0 0 ∧ Below w.heap.size w w' := by
  have cn := cur_new A bs.length c w hc hs
  have hC := new_cur hb hs
  have hAl : 0 < bs.length → ∀ x, A = some x → x.block < w.heap.size := by
    rintro h0 x rfl
    obtain ⟨b, o, e, hcell⟩ := hb.2 h0
    cases e
    exact cell_lt (hcell 0 h0)
  obtain ⟨W, hW⟩ : ∃ W, W = w.alloc (.cells #[.slice A bs.length bs.length, .int .i64 0] 82) := ⟨_, rfl⟩
  have hWz : W.heap.size = w.heap.size + 1 := by rw [hW, World.size_alloc]
  have hBW : Below w.heap.size w W := by rw [hW]; exact (Below.refl _ _).alloc (Nat.le_refl _) _
  rw [← hW] at cn hC
  replace hW := Lib.hid hW
  have hR := Blk.new W 68 #[.pointer (some ⟨w.heap.size, 0, none⟩), .int .i64 0, .slice none 0 0]
  have hb2 : Below W.heap.size W (W.alloc (.cells #[.pointer (some ⟨w.heap.size, 0, none⟩), .int .i64 0, .slice none 0 0] 68)) := (Below.refl _ _).alloc (Nat.le_refl _) _
  have hRS : RS (W.alloc (.cells #[.pointer (some ⟨w.heap.size, 0, none⟩), .int .i64 0, .slice none 0 0] 68)) w.heap.size (w.heap.size + 1) (.slice none 0 0) A bs.length bs 0 0 := by
    have hL : w.heap.size < W.heap.size := by omega
    refine ⟨⟨hC.ne, Save.refl _ _, (hb2.cell (p := ⟨w.heap.size, 0, none⟩) hL).trans hC.cb, (hb2.cell (p := ⟨w.heap.size, 1, none⟩) hL).trans hC.ca, (hb2.frozen (p := ⟨w.heap.size, 1, none⟩) hL).trans hC.fr, hC.byt.below hb2, hC.le, hC.small⟩, ?_, by omega, fun h0 x hx => by have := hAl h0 x hx; omega, Nat.le_refl _⟩
    rw [← hWz]; exact hR
  have hfin : Below w.heap.size w (W.alloc (.cells #[.pointer (some ⟨w.heap.size, 0, none⟩), .int .i64 0, .slice none 0 0] 68)) := bthen hBW hb2
  replace hRS := Lib.hid hRS
  replace hfin := Lib.hid hfin
  replace hC := Lib.hid hC
  replace hR := Lib.hid hR
  replace hb2 := Lib.hid hb2
  replace hBW := Lib.hid hBW
  replace hAl := Lib.hid hAl
  clear hb hc hs
  go_enter Tryd.func16, Tryd.ntmps16
  go_wp2_with (go_at_call 24; (with_reducible refine cn.mono ?_); rintro e w1 ⟨rfl, rfl⟩)
  go_ret
  exact ⟨rfl, hRS.out, hfin.out⟩
end Go.Proofs.YtgomlebemefdcaaDoor

/- The root: a walk over any answer of the reader. No condition. -/
namespace Go.Proofs.YtgomlebemefdcaaDoor
open Go Go.RowKit Go.Wk Go.Xt Go.Xe
theorem RS.stored {w : World} {L R c p : Nat} {bv : Value} {A : Option Addr} {bs : List UInt8} (h : RS w L R bv A c bs p 0) :
    RS ((w.setCell ⟨R, 1, none⟩ (.int .i64 0)).setCell ⟨R, 2, none⟩ (.slice none 0 0)) L R (.slice none 0 0) A c bs p 0 ∧ Fr L R w ((w.setCell ⟨R, 1, none⟩ (.int .i64 0)).setCell ⟨R, 2, none⟩ (.slice none 0 0)) := by
  have hc := h.cur
  have hn := h.ne
  have hF : Fr L R w ((w.setCell ⟨R, 1, none⟩ (.int .i64 0)).setCell ⟨R, 2, none⟩ (.slice none 0 0)) := ((Fr.refl L R w).store 1 _).store 2 _
  have e1 : ∀ q, ((w.setCell ⟨R, 1, none⟩ (.int .i64 0)).setCell ⟨R, 2, none⟩ (.slice none 0 0)).cell? ⟨L, q, none⟩ = w.cell? ⟨L, q, none⟩ := fun q => by
    rw [World.cell?_setCell_other _ _ _ _ (by intro e; apply hn; injection e with e1 _; exact e1.symm), World.cell?_setCell_other _ _ _ _ (by intro e; apply hn; injection e with e1 _; exact e1.symm)]
  refine ⟨⟨⟨hc.ne, Save.refl _ _, (e1 0).trans hc.cb, (e1 1).trans hc.ca, by simp [hc.fr], ?_, hc.le, hc.small⟩, (h.rdr.set_ 1 (.int .i64 0)).set_ 2 (.slice none 0 0), hn, h.neA, h.cap⟩, hF⟩
  refine ⟨hc.byt.1, fun h0 => ?_⟩
  obtain ⟨b, o, e, hcell⟩ := hc.byt.2 h0
  have hne := h.neA h0 _ e
  refine ⟨b, o, e, fun i hi => ?_⟩
  rw [World.cell?_setCell_other _ _ _ _ (by intro e; apply hne; injection e with e1 _; exact e1.symm), World.cell?_setCell_other _ _ _ _ (by intro e; apply hne; injection e with e1 _; exact e1.symm)]
  exact hcell i hi
def AllOf (L R : Nat) (P : World → World → Array Value → Int → Prop) (W : World) (e : Ending) (w' : World) : Prop :=
  ∃ (N0 N1 N2 : ByteArray) (a1 : Option Addr) (n1 c1 : Nat) (a2 : Option Addr) (n2 c2 : Nat) (k : Int), e = .returned (.tuple #[.agg #[.string N0, .string N1, .string N2, .slice a1 n1 c1, .slice a2 n2 c2], .int .i64 k]) ∧ Fr L R W w' ∧ P W w' #[.string N0, .string N1, .string N2, .slice a1 n1 c1, .slice a2 n2 c2] k ∧ (k ≠ 0 → #[.string N0, .string N1, .string N2, .slice a1 n1 c1, .slice a2 n2 c2] = z5)
def RootOf (L R : Nat) (P : World → World → Array Value → Int → Prop) (w : World) (e : Ending) (w' : World) : Prop :=
  ∃ (N0 N1 N2 : ByteArray) (a1 : Option Addr) (n1 c1 : Nat) (a2 : Option Addr) (n2 c2 : Nat) (k : Int) (W W1 : World), e = .returned (.tuple #[.agg #[.string N0, .string N1, .string N2, .slice a1 n1 c1, .slice a2 n2 c2], .int .i64 k]) ∧ P W W1 #[.string N0, .string N1, .string N2, .slice a1 n1 c1, .slice a2 n2 c2] k ∧ Fr L R w W ∧ w.heap.size < W.heap.size ∧ Fr L R W W1 ∧ Save w.heap.size W1 w'
set_option maxHeartbeats 4000000 in
set_option maxRecDepth 100000 in
theorem xml_Root {w : World} {L R c p : Nat} {bv : Value} {A : Option Addr} {bs : List UInt8} {P : World → World → Array Value → Int → Prop} (h : RS w L R bv A c bs p 0) (hs : signsB bs = true) (hT : Lib.Utf8Tabs 0 1 w) (hL : 2 ≤ L) (hR : 2 ≤ R) (hne : bs ≠ [])
    (call : ∀ W, RS W L R (.slice none 0 0) A c bs 0 0 → Calls Tryd.prog 28 #[.pointer (some ⟨R, 0, none⟩)] W (AllOf L R P W)) :
    Calls Tryd.prog 17 #[.pointer (some ⟨R, 0, none⟩)] w (RootOf L R P w) := by
  have hb0 : Below w.heap.size w (w.alloc (.cells z5 27)) := (Below.refl _ _).alloc (Nat.le_refl _) _
  have h0 := h.below hb0
  have hnew := Blk.new w 27 z5
  have hRlt := h.rdr.lt
  have hLlt := h.cur.L_lt
  have hlen : 1 ≤ bs.length := List.length_pos_iff.2 hne
  have hsm := h.cur.small
  have c00 := h0.rdr.cell 0
  have k1 := cur_seek0 h0.cur
  have cS : ∀ W A' c', Byt W A' bs → Fr L R w W → Calls Tryd.prog 14 #[.slice A' bs.length c'] W fun e w' => e = .returned (.bool true) ∧ Below W.heap.size W w' := fun W A' c' hb hF => by
    rw [← hs]
    have := hF.size
    exact xml_Signs c' hb hsm (tabs_kept hT (hF.block 0 (by omega) (by omega) (by omega)) (hF.block 1 (by omega) (by omega) (by omega))) (by omega)
  obtain ⟨m, hm⟩ : ∃ m, m = bs.length := ⟨_, rfl⟩
  rw [← hm] at cS
  replace cS := Lib.hid cS
  replace call := Lib.hid call
  replace h0 := Lib.hid h0
  replace hb0 := Lib.hid hb0
  replace hnew := Lib.hid hnew
  replace hm := Lib.hid hm
  replace hsm := Lib.hid hsm
  replace hlen := Lib.hid hlen
  clear h hs hT hne
  go_enter Tryd.func17, Tryd.ntmps17
  go_upto_region 4 with (first
    | (go_at_call 25; (with_reducible refine k1.mono ?_); rintro e w1 ⟨rfl, h1⟩; obtain ⟨h2, f1⟩ := h0.out.cur_to h1; have c10 := h2.rdr.cell 0; replace h1 := Lib.hid h1; replace h2 := Lib.hid h2; replace f1 := Lib.hid f1))
  have cl : ∀ V, Below w1.heap.size w1 V → Calls Tryd.prog 27 #[.pointer (some ⟨L, 0, none⟩)] V fun e w' => e = .returned (.int .i64 m) ∧ V = w' := fun V hV => by rw [hm.out]; exact cur_len (h2.out.below hV).cur
  have ct : ∀ V, Below w1.heap.size w1 V → Calls Tryd.prog 26 #[.pointer (some ⟨L, 0, none⟩), .int .i64 m] V fun e w' => ∃ A' c', e = .returned (.tuple #[.slice A' m c', .bool true]) ∧ Byt w' A' bs ∧ RS w' L R bv A c bs m 0 ∧ Fr L R w1 w' := fun V hV => by
    have hm' := hm.out
    have hl' := hlen.out
    have hs' := hsm.out
    refine (cur_take m (h2.out.below hV).cur h2.out.cap (by omega) (by omega)).mono ?_
    rintro e w' ⟨A', c', rfl, hb, hc⟩
    have e1 : takeS bs 0 m = bs := by unfold takeS; rw [if_pos (by omega), hm']; simp
    have e2 : takeB bs 0 m = true := by unfold takeB; simp; omega
    rw [e1] at hb ⊢
    rw [e2] at hc ⊢
    rw [← hm'] at *
    simp only [if_true, Nat.zero_add] at hc
    obtain ⟨r1, r2⟩ := (h2.out.below hV).cur_to hc
    exact ⟨A', c', rfl, hb, r1, (Fr.of_below hV).trans r2⟩
  replace cl := Lib.hid cl
  replace ct := Lib.hid ct
  go_cut [4] (fun s4 wx => ∃ A' c', s4 = .slice A' m c' ∧ Byt wx A' bs ∧ RS wx L R bv A c bs m 0 ∧ Fr L R w1 wx)
  case first =>
    go_region_with (first
      | (go_at_call 27; refine (cl.out _ (by first | exact Below.refl _ _ | (repeat (first | exact Below.refl _ _ | refine Below.drew ?_)))).mono ?_; rintro e w' ⟨rfl, rfl⟩)
      | (go_at_call 26; refine (ct.out _ (by first | exact Below.refl _ _ | (repeat (first | exact Below.refl _ _ | refine Below.drew ?_)))).mono ?_; rintro e w' ⟨A', c', rfl, hb, hr, hf⟩; replace hb := Lib.hid hb; replace hr := Lib.hid hr; replace hf := Lib.hid hf))
    all_goals (go_wp2_with fail; go_meet; exact ⟨_, _, rfl, hb.out, hr.out, hf.out⟩)
  case rest =>
    obtain ⟨A', c', rfl, hb, hr, hf⟩ := hcut
    have cg := cS.out wc A' c' hb (((Fr.of_below hb0.out).trans f1.out).trans hf)
    have cr0 := hr.rdr.cell 0
    replace hb := Lib.hid hb
    replace hr := Lib.hid hr
    replace hf := Lib.hid hf
    go_upto_region 10 with (first
      | (go_at_call 14; (with_reducible refine cg.mono ?_); rintro e w3 ⟨rfl, hb3⟩; have h3 := hr.out.below hb3; have k3 := cur_seek0 h3.cur; have c30 := h3.rdr.cell 0; replace hb3 := Lib.hid hb3; replace h3 := Lib.hid h3)
      | (go_at_call 25; (with_reducible refine k3.mono ?_); rintro e w4 ⟨rfl, hs4⟩; obtain ⟨h4, f4⟩ := h3.out.cur_to hs4; obtain ⟨h5, f5⟩ := h4.stored; have k5 := call.out _ h5; have c40 := h4.rdr.cell 0; have c41 := h4.rdr.cell 1; have c42 := h4.rdr.cell 2; have y41 := h4.rdr.frozen 1; have y42 := h4.rdr.frozen 2; replace hs4 := Lib.hid hs4; replace h4 := Lib.hid h4; replace h5 := Lib.hid h5; replace f4 := Lib.hid f4; replace f5 := Lib.hid f5)
      | (go_at_call 28; (with_reducible refine k5.mono ?_); rintro e w5 ⟨N0, N1, N2, A1, n1, c1, A2, n2, c2, k, rfl, f6, hP, hk⟩; have F := ((((f1.out.trans hf.out).trans (Fr.of_below hb3.out)).trans f4.out).trans f5.out).trans f6; have hz : Blk w5 w.heap.size 27 z5 := (F.block w.heap.size (by simp) (by omega) (by omega)).trans hnew.out; have hg5 : w.heap.size < w5.heap.size := hz.lt; have a0 := hz.cell 0; have a1 := hz.cell 1; have a2 := hz.cell 2; have a3 := hz.cell 3; have a4 := hz.cell 4; have y0 := hz.frozen 0; have y1 := hz.frozen 1; have y2 := hz.frozen 2; have y3 := hz.frozen 3; have y4 := hz.frozen 4; replace hz := Lib.hid hz; replace F := Lib.hid F; replace f6 := Lib.hid f6; replace hP := Lib.hid hP; replace hk := Lib.hid hk))
    have hF := (⟨((((Fr.of_below hb0.out).trans f1.out).trans hf.out).trans (Fr.of_below hb3.out)).trans (f4.out.trans f5.out), Nat.lt_of_lt_of_le (by simp) ((((f1.out.trans hf.out).trans (Fr.of_below hb3.out)).trans (f4.out.trans f5.out)).size)⟩ : Fr L R w ((w4.setCell ⟨R, 1, none⟩ (.int .i64 0)).setCell ⟨R, 2, none⟩ (.slice none 0 0)) ∧ w.heap.size < ((w4.setCell ⟨R, 1, none⟩ (.int .i64 0)).setCell ⟨R, 2, none⟩ (.slice none 0 0)).heap.size)
    by_cases hk0 : k = 0
    · subst hk0
      go_wp2
      have hV := put5_blk hz.out (.string N0) (.string N1) (.string N2) (.slice A1 n1 c1) (.slice A2 n2 c2)
      have hSV := put5_save w5 w.heap.size (.string N0) (.string N1) (.string N2) (.slice A1 n1 c1) (.slice A2 n2 c2)
      unfold put5 at hV hSV
      obtain ⟨V, hU⟩ : ∃ U, U = (((((w5.setCell ⟨w.heap.size, 0, none⟩ (.string N0)).setCell ⟨w.heap.size, 1, none⟩ (.string N1)).setCell ⟨w.heap.size, 2, none⟩ (.string N2)).setCell ⟨w.heap.size, 3, none⟩ (.slice A1 n1 c1)).setCell ⟨w.heap.size, 4, none⟩ (.slice A2 n2 c2)) := ⟨_, rfl⟩
      rw [← hU] at hV hSV ⊢
      have hbU : Below V.heap.size V (V.alloc (.cells #[.string N0, .string N1, .string N2, .slice A1 n1 c1, .slice A2 n2 c2] 27)) := (Below.refl _ _).alloc (Nat.le_refl _) _
      have hV2 := hV.alloc (.cells #[.string N0, .string N1, .string N2, .slice A1 n1 c1, .slice A2 n2 c2] 27)
      have q0 := hV2.cell 0
      have q1 := hV2.cell 1
      have q2 := hV2.cell 2
      have q3 := hV2.cell 3
      have q4 := hV2.cell 4
      refine bodyPost_ret (v := .tuple #[.agg #[.string N0, .string N1, .string N2, .slice A1 n1 c1, .slice A2 n2 c2], .int .i64 0]) (by simp [results, Tryd.results17, go_sem, q0, q1, q2, q3, q4]) rfl ⟨N0, N1, N2, A1, n1, c1, A2, n2, c2, 0, _, w5, rfl, hP.out, hF.1, hF.2, f6.out, hSV.trans (Save.of_below hbU)⟩
    · have hkz := hk.out hk0
      have hkb : (k != 0) = true := by simp [hk0]
      injection hkz with hkz
      injection hkz with u0 hkz
      injection hkz with u1 hkz
      injection hkz with u2 hkz
      injection hkz with u3 hkz
      injection hkz with u4 hkz
      injection u0 with u0
      injection u1 with u1
      injection u2 with u2
      injection u3 with v1 v2 v3
      injection u4 with v4 v5 v6
      subst u0 u1 u2 v1 v2 v3 v4 v5 v6
      replace hk := Lib.hid hk
      go_wp2
      have hV := put5_blk hz.out (.string ⟨#[]⟩) (.string ⟨#[]⟩) (.string ⟨#[]⟩) (.slice none 0 0) (.slice none 0 0)
      have hSV := put5_save w5 w.heap.size (.string ⟨#[]⟩) (.string ⟨#[]⟩) (.string ⟨#[]⟩) (.slice none 0 0) (.slice none 0 0)
      unfold put5 at hV hSV
      obtain ⟨V, hU⟩ : ∃ U, U = (((((w5.setCell ⟨w.heap.size, 0, none⟩ (.string ⟨#[]⟩)).setCell ⟨w.heap.size, 1, none⟩ (.string ⟨#[]⟩)).setCell ⟨w.heap.size, 2, none⟩ (.string ⟨#[]⟩)).setCell ⟨w.heap.size, 3, none⟩ (.slice none 0 0)).setCell ⟨w.heap.size, 4, none⟩ (.slice none 0 0)) := ⟨_, rfl⟩
      rw [← hU] at hV hSV ⊢
      have hbU : Below V.heap.size V (V.alloc (.cells #[.string ⟨#[]⟩, .string ⟨#[]⟩, .string ⟨#[]⟩, .slice none 0 0, .slice none 0 0] 27)) := (Below.refl _ _).alloc (Nat.le_refl _) _
      have hV2 := hV.alloc (.cells #[.string ⟨#[]⟩, .string ⟨#[]⟩, .string ⟨#[]⟩, .slice none 0 0, .slice none 0 0] 27)
      have q0 := hV2.cell 0
      have q1 := hV2.cell 1
      have q2 := hV2.cell 2
      have q3 := hV2.cell 3
      have q4 := hV2.cell 4
      refine bodyPost_ret (v := .tuple #[.agg #[.string ⟨#[]⟩, .string ⟨#[]⟩, .string ⟨#[]⟩, .slice none 0 0, .slice none 0 0], .int .i64 k]) (by simp [results, Tryd.results17, go_sem, q0, q1, q2, q3, q4]) rfl ⟨_, _, _, _, _, _, _, _, _, k, _, w5, rfl, hP.out, hF.1, hF.2, f6.out, hSV.trans (Save.of_below hbU)⟩
end Go.Proofs.YtgomlebemefdcaaDoor

/- Parse: a walk over any answer of the reader. No condition. -/
namespace Go.Proofs.YtgomlebemefdcaaDoor
open Go Go.RowKit Go.Wk Go.Xt Go.Xe
def ParseOf (P : World → World → Array Value → Int → Prop) (w : World) (e : Ending) (w' : World) : Prop :=
  ∃ (N0 N1 N2 : ByteArray) (a1 : Option Addr) (n1 c1 : Nat) (a2 : Option Addr) (n2 c2 : Nat) (k : Int) (W W1 : World), e = .returned (.tuple #[.agg #[.string N0, .string N1, .string N2, .slice a1 n1 c1, .slice a2 n2 c2], .int .i64 k]) ∧ P W W1 #[.string N0, .string N1, .string N2, .slice a1 n1 c1, .slice a2 n2 c2] k ∧ w.heap.size ≤ W.heap.size ∧ (∀ k, W.heap.size ≤ k → k < W1.heap.size → w'.heap[k]? = W1.heap[k]?) ∧ W1.heap.size ≤ w'.heap.size ∧ Below w.heap.size w w'
set_option maxHeartbeats 4000000 in
set_option maxRecDepth 100000 in
theorem xml_Parse {w : World} {A : Option Addr} {c : Nat} {bs : List UInt8} {P : World → World → Array Value → Int → Prop} (hb : Byt w A bs) (hc : bs.length ≤ c) (hsm : bs.length ≤ 100000) (hs : signsB bs = true) (hT : Lib.Utf8Tabs 0 1 w) (h2 : 2 ≤ w.heap.size) (hne : bs ≠ [])
    (call : ∀ W, RS W (w.heap.size + 1) (w.heap.size + 2) (.slice none 0 0) A bs.length bs 0 0 → Calls Tryd.prog 28 #[.pointer (some ⟨w.heap.size + 2, 0, none⟩)] W (AllOf (w.heap.size + 1) (w.heap.size + 2) P W)) :
    Calls Tryd.prog 9 #[.slice A bs.length c] w (ParseOf P w) := by
  have hb0 : Below w.heap.size w (w.alloc (.cells z5 27)) := (Below.refl _ _).alloc (Nat.le_refl _) _
  have hnew := Blk.new w 27 z5
  have cN := xml_New A c bs _ (hb.below hb0) hc hsm
  have hT0 := tabs_kept hT (hb0.block 0 (by omega)) (hb0.block 1 (by omega))
  have hz0 : (w.alloc (.cells z5 27)).heap.size = w.heap.size + 1 := World.size_alloc _ _
  rw [hz0] at cN
  have cR : ∀ W, RS W (w.heap.size + 1) (w.heap.size + 2) (.slice none 0 0) A bs.length bs 0 0 → Below (w.heap.size + 1) (w.alloc (.cells z5 27)) W → Calls Tryd.prog 17 #[.pointer (some ⟨w.heap.size + 2, 0, none⟩)] W (RootOf (w.heap.size + 1) (w.heap.size + 2) P W) := fun W hW hB =>
    xml_Root hW hs (tabs_kept hT0 (hB.block 0 (by omega)) (hB.block 1 (by omega))) (by omega) (by omega) hne call
  replace cN : Calls Tryd.prog 16 #[.slice A bs.length c] (w.alloc (.cells z5 27)) fun e w' => e = .returned (.pointer (some ⟨w.heap.size + 2, 0, none⟩)) ∧ RS w' (w.heap.size + 1) (w.heap.size + 2) (.slice none 0 0) A bs.length bs 0 0 ∧ Below (w.heap.size + 1) (w.alloc (.cells z5 27)) w' := cN
  replace cR := Lib.hid cR
  replace hb0 := Lib.hid hb0
  replace hnew := Lib.hid hnew
  replace hz0 := Lib.hid hz0
  obtain ⟨m, hm⟩ : ∃ m, m = bs.length := ⟨_, rfl⟩
  rw [← hm] at cN ⊢
  replace hm := Lib.hid hm
  clear call hb hc hsm hs hT hT0 hne
  go_enter Tryd.func9, Tryd.ntmps9
  go_wp2_with (first
    | (go_at_call 16; (with_reducible refine cN.mono ?_); rintro e w1 ⟨rfl, h1, b1⟩; have k1 := cR.out w1 (hm.out ▸ h1) b1; replace h1 := Lib.hid h1; replace b1 := Lib.hid b1)
    | (go_at_call 17; (with_reducible refine k1.mono ?_); rintro e w2 ⟨N0, N1, N2, A1, n1, c1, A2, n2, c2, k, W, W1, rfl, hP, hF, hlt, hF1, hS⟩; have hz := hz0.out; have z1 := b1.out.size; have hW1 := hF1.size; have hB2 : Below (w.heap.size + 1) w1 w2 := ((hF.below (B := w.heap.size + 1) (by omega) (by omega) (by omega)).trans (hF1.below (by omega) (by omega) (by omega))).trans (hS.below (by omega) (by omega)); have hB3 := b1.out.trans hB2; have hz : Blk w2 w.heap.size 27 z5 := (hB3.block w.heap.size (by omega)).trans hnew.out; have a0 := hz.cell 0; have a1 := hz.cell 1; have a2 := hz.cell 2; have a3 := hz.cell 3; have a4 := hz.cell 4; have y0 := hz.frozen 0; have y1 := hz.frozen 1; have y2 := hz.frozen 2; have y3 := hz.frozen 3; have y4 := hz.frozen 4; replace hz := Lib.hid hz; replace hB2 := Lib.hid hB2; replace hB3 := Lib.hid hB3; replace hP := Lib.hid hP; replace hF := Lib.hid hF; replace hF1 := Lib.hid hF1; replace hS := Lib.hid hS))
  have hV := put5_blk hz.out (.string N0) (.string N1) (.string N2) (.slice A1 n1 c1) (.slice A2 n2 c2)
  have hSV := put5_save w2 w.heap.size (.string N0) (.string N1) (.string N2) (.slice A1 n1 c1) (.slice A2 n2 c2)
  unfold put5 at hV hSV
  obtain ⟨V, hU⟩ : ∃ U, U = (((((w2.setCell ⟨w.heap.size, 0, none⟩ (.string N0)).setCell ⟨w.heap.size, 1, none⟩ (.string N1)).setCell ⟨w.heap.size, 2, none⟩ (.string N2)).setCell ⟨w.heap.size, 3, none⟩ (.slice A1 n1 c1)).setCell ⟨w.heap.size, 4, none⟩ (.slice A2 n2 c2)) := ⟨_, rfl⟩
  rw [← hU] at hV hSV ⊢
  have q0 := hV.cell 0
  have q1 := hV.cell 1
  have q2 := hV.cell 2
  have q3 := hV.cell 3
  have q4 := hV.cell 4
  have hzz := hz0.out
  have s1 := b1.out.size
  have s2 := hF1.out.size
  have s3 := hS.out.size
  have s4 := hSV.size
  refine bodyPost_ret (v := .tuple #[.agg #[.string N0, .string N1, .string N2, .slice A1 n1 c1, .slice A2 n2 c2], .int .i64 k]) (by simp [results, Tryd.results9, go_sem, q0, q1, q2, q3, q4]) rfl ⟨N0, N1, N2, A1, n1, c1, A2, n2, c2, k, W, W1, rfl, hP.out, by omega, ?_, by omega, (hb0.out.trans (hB3.out.mono (by omega))).trans (hSV.below (Nat.le_refl _) (by omega))⟩
  intro j hj hj2
  exact (hSV.block j (by omega) (by omega)).trans (hS.out.block j hj2 (by omega))
end Go.Proofs.YtgomlebemefdcaaDoor

/- Elements in one another: they are read; one too many is too deep. No condition. -/
namespace Go.Xe
def low (n : UInt8) : Prop := 97 ≤ n.toNat ∧ n.toNat ≤ 122
def nestS : Bs → Bs
  | [] => [116]
  | n :: l => [60, n, 62] ++ nestS l ++ [60, 47, n, 62]
def nestN : Bs → Nd
  | [] => .tx [116]
  | n :: l => .el [n] [] [nestN l]
theorem low_begins {n : UInt8} (h : low n) : beginsB n = true := by
  unfold beginsB; simp [h.1, h.2]
theorem low_goes {n : UInt8} (h : low n) : goesB n = true := by unfold goesB; rw [low_begins h]; rfl
theorem goes_62 : goesB 62 = false := by decide
theorem name_low {n : UInt8} (h : low n) (r : Bs) : nameS (n :: 62 :: r) = [n] := by
  unfold nameS
  simp [low_begins h, List.takeWhile_cons, low_goes h, goes_62]
theorem ws_62 (r : Bs) : ws (62 :: r) = 0 := by simp [ws, List.takeWhile_cons, whiteB]
theorem mark_low {n : UInt8} (h : low n) (r : Bs) : Mark (60 :: n :: 62 :: r) [n] [] false r := by
  refine .open _ [n] [] (62 :: r) r (name_low h r) (by simp) rfl (by simp [List.cons_prefix_cons]) (.nil _ _ 62 (by rw [ws_62]; rfl) (.inr rfl))
theorem low_ne {n : UInt8} (h : low n) (k : UInt8) (hk : k.toNat < 97) : n ≠ k := by rintro rfl; have := h.1; omega
theorem misc_low {n : UInt8} (h : low n) (r : Bs) : Misc (60 :: n :: r) false (60 :: n :: r) :=
  .no _ (by simp [List.cons_prefix_cons]; intro e; exact absurd e.symm (low_ne h 33 (by decide))) (by simp [List.cons_prefix_cons]; exact fun e => absurd e.symm (low_ne h 63 (by decide)))
theorem misc_end (r : Bs) : Misc (60 :: 47 :: r) false (60 :: 47 :: r) := .no _ (by simp [List.cons_prefix_cons]) (by simp [List.cons_prefix_cons])
theorem cont_end (d m : Nat) (r : Bs) : Cont d m [] (60 :: 47 :: r) [] m r := by
  have := Cont.done d m [] (60 :: 47 :: r) [] (60 :: 47 :: r) r (.stop 60 _ (.inl rfl)) (misc_end r) rfl
  simpa using this
theorem deep_elem : ∀ (l : Bs) (d m : Nat) (r : Bs), l ≠ [] → (∀ n ∈ l, low n) → l.length ≤ d → m + l.length ≤ 4000 → Elem d m (nestS l ++ r) (nestN l) (m + l.length) r := by
  intro l
  induction l with
  | nil => intro d m r h; exact absurd rfl h
  | cons n l ih =>
    intro d m r _ hl hd hm
    have hn := hl n (by simp)
    obtain ⟨d, rfl⟩ : ∃ d', d = d' + 1 := ⟨d - 1, by simp at hd; omega⟩
    have e : nestS (n :: l) ++ r = 60 :: n :: 62 :: (nestS l ++ ([60, 47, n, 62] ++ r)) := by simp [nestS]
    rw [e]
    have hc : Cont (d + 1) (m + 1) [] (nestS l ++ ([60, 47, n, 62] ++ r)) [nestN l] (m + (n :: l).length) (n :: 62 :: r) := by
      cases l with
      | nil =>
        have := Cont.done (d + 1) (m + 1) [] (116 :: 60 :: 47 :: n :: 62 :: r) [116] (60 :: 47 :: n :: 62 :: r) (n :: 62 :: r) (.byte 116 _ _ _ (by decide) (by decide) (by decide) (.stop 60 _ (.inl rfl))) (misc_end _) rfl
        exact this
      | cons n' l' =>
        have hn' := hl n' (by simp)
        have := ih d (m + 1) ([60, 47, n, 62] ++ r) (by simp) (fun x hx => hl x (by simp at hx ⊢; right; exact hx)) (by simp at hd ⊢; omega) (by simp at hm ⊢; omega)
        have e2 : nestS (n' :: l') ++ ([60, 47, n, 62] ++ r) = 60 :: n' :: 62 :: (nestS l' ++ ([60, 47, n', 62] ++ ([60, 47, n, 62] ++ r))) := by simp [nestS]
        have hz : (m + 1) + (n' :: l').length = m + (n :: n' :: l').length := by simp; omega
        rw [hz] at this
        have h2 := Cont.elem d (m + 1) _ _ [] _ [] _ _ (nestN (n' :: l')) [] (n :: 62 :: r) (by rw [e2]; exact .stop 60 _ (.inl rfl)) (by rw [e2]; exact misc_low hn' _) (by rw [e2]; simp [List.cons_prefix_cons]; exact fun e => absurd e.symm (low_ne hn' 47 (by decide))) this (cont_end _ _ _)
        rw [e2]; exact h2
    refine .open d m _ _ [n] [] _ [nestN l] (n :: 62 :: r) (62 :: r) r (by simp at hm; omega) (mark_low hn _) hc (name_low hn r) rfl (by simp [List.cons_prefix_cons]) (by rw [ws_62]; rfl)
mutual
/-- too deep -/
inductive ElemD : Nat → Nat → Bs → Prop
  | here (m : Nat) (r nm : Bs) : nameS r = nm → nm ≠ [] → ¬ [58] <+: r.drop nm.length → m < 4000 → ElemD 0 m (60 :: r)
  | in_ (d m : Nat) (r nm : Bs) (l : List (Bs × Bs)) (r1 : Bs) : m < 4000 → Mark r nm l false r1 → ContD (d + 1) (m + 1) [] r1 → ElemD (d + 1) m r
inductive ContD : Nat → Nat → Bs → Bs → Prop
  | elem (d m : Nat) (r : Bs) : Txt (-1) r [] r → Misc r false r → ¬ [60, 47] <+: r → ElemD d m r → ContD (d + 1) m [] r
end
theorem deep_too : ∀ (l : Bs) (d m : Nat) (r : Bs), (∀ n ∈ l, low n) → d < l.length → m + l.length ≤ 4000 → ElemD d m (nestS l ++ r) := by
  intro l
  induction l with
  | nil => intro d m r _ h; simp at h
  | cons n l ih =>
    intro d m r hl hd hm
    have hn := hl n (by simp)
    have e : nestS (n :: l) ++ r = 60 :: n :: 62 :: (nestS l ++ ([60, 47, n, 62] ++ r)) := by simp [nestS]
    rw [e]
    cases d with
    | zero => exact .here m _ [n] (name_low hn _) (by simp) (by simp [List.cons_prefix_cons]) (by simp at hm; omega)
    | succ d =>
      cases l with
      | nil => simp at hd
      | cons n' l' =>
        have hn' := hl n' (by simp)
        have := ih d (m + 1) ([60, 47, n, 62] ++ r) (fun x hx => hl x (by simp at hx ⊢; right; exact hx)) (by simp at hd ⊢; omega) (by simp at hm ⊢; omega)
        have e2 : nestS (n' :: l') ++ ([60, 47, n, 62] ++ r) = 60 :: n' :: 62 :: (nestS l' ++ ([60, 47, n', 62] ++ ([60, 47, n, 62] ++ r))) := by simp [nestS]
        exact .in_ d m _ [n] [] _ (by simp at hm; omega) (mark_low hn _) (.elem d (m + 1) _ (by rw [e2]; exact .stop 60 _ (.inl rfl)) (by rw [e2]; exact misc_low hn' _) (by rw [e2]; simp [List.cons_prefix_cons]; exact fun e => absurd e.symm (low_ne hn' 47 (by decide))) this)
end Go.Xe

/- Names in one another as bytes: all signs. No condition. -/
namespace Go.Proofs.YtgomlebemefdcaaDoor
open Go Go.RowKit Go.Wk Go.Xt Go.Xe
theorem next_ascii (x : UInt8) (r : List UInt8) (h1 : 32 ≤ x.toNat) (h2 : x.toNat < 128) : (Lib.decodeL (x :: r)).2 = 1 ∧ nextOk (x :: r) = true := by
  have e : Lib.decodeL (x :: r) = (x.toNat, 1) := by
    rw [Lib.decodeL_N]
    unfold Lib.decodeN
    simp [h2]
  unfold nextOk
  rw [e]
  refine ⟨rfl, ?_⟩
  simp [signV, signB, validB]
  omega
theorem signs_ascii : ∀ (l : List UInt8), (∀ x ∈ l, 32 ≤ x.toNat ∧ x.toNat < 128) → signsB l = true := by
  intro l
  induction l with
  | nil => intro _; unfold signsB; rw [partsS_nil]; rfl
  | cons x r ih =>
    intro h
    have hx := h x (by simp)
    obtain ⟨e1, e2⟩ := next_ascii x r hx.1 hx.2
    unfold signsB at ih ⊢
    rw [partsS_cons _ (by simp), e1]
    simp only [List.drop_succ_cons, List.drop_zero, List.all_cons, e2, Bool.true_and]
    exact ih fun y hy => h y (by simp [hy])
def openS (l : List UInt8) : List UInt8 := l.flatMap fun n => [60, n, 62]
def closeS (l : List UInt8) : List UInt8 := l.reverse.flatMap fun n => [60, 47, n, 62]
theorem openS_snoc (l : List UInt8) (n : UInt8) : openS (l ++ [n]) = openS l ++ [60, n, 62] := by simp [openS]
theorem closeS_snoc (l : List UInt8) (n : UInt8) : closeS (l ++ [n]) = [60, 47, n, 62] ++ closeS l := by simp [closeS]
theorem nestS_eq (l : List UInt8) : openS l ++ ([116] ++ closeS l) = nestS l := by
  induction l with
  | nil => rfl
  | cons n l ih =>
    have e1 : openS (n :: l) = [60, n, 62] ++ openS l := by simp [openS]
    have e2 : closeS (n :: l) = closeS l ++ [60, 47, n, 62] := by simp [closeS]
    rw [e1, e2]
    show _ = [60, n, 62] ++ nestS l ++ [60, 47, n, 62]
    rw [← ih]
    simp
theorem nest_len (l : List UInt8) : (nestS l).length = 7 * l.length + 1 := by
  induction l with
  | nil => rfl
  | cons n l ih => simp [nestS, ih]; omega
theorem nest_ascii : ∀ (l : List UInt8), (∀ n ∈ l, low n) → ∀ x ∈ nestS l, 32 ≤ x.toNat ∧ x.toNat < 128 := by
  intro l
  induction l with
  | nil => intro _ x hx; simp [nestS] at hx; subst hx; decide
  | cons n l ih =>
    intro h x hx
    have hn := h n (by simp)
    unfold low at hn
    simp only [nestS, List.mem_append, List.mem_cons, List.not_mem_nil, or_false] at hx
    rcases hx with ((rfl | rfl | rfl) | hx) | (rfl | rfl | rfl | rfl)
    · decide
    · omega
    · decide
    · exact ih (fun y hy => h y (by simp [hy])) x hx
    · decide
    · decide
    · omega
    · decide
/-- the letter of a number -/
def chU (x : UInt8) : UInt8 := UInt8.ofNat (97 + x.toNat % 26)
theorem chU_nat (x : UInt8) : (chU x).toNat = 97 + x.toNat % 26 := by unfold chU; exact UInt8.toNat_ofNat_of_lt' (by show _ < 256; omega)
theorem chU_low (x : UInt8) : low (chU x) := by unfold low; rw [chU_nat]; omega
theorem chs_low (l : List UInt8) : ∀ n ∈ l.map chU, low n := by
  intro n h; obtain ⟨x, _, rfl⟩ := List.mem_map.1 h; exact chU_low x
theorem misc_root (n : UInt8) (h : low n) (r : List UInt8) : Around (60 :: n :: r) (60 :: n :: r) := by
  have e : (60 :: n :: r).drop (ws (60 :: n :: r)) = 60 :: n :: r := by
    have : ws (60 :: n :: r) = 0 := by simp [ws, List.takeWhile_cons, whiteB]
    rw [this]; rfl
  have := Around.stop (60 :: n :: r) (by rw [e]; exact misc_low h r)
  rw [e] at this
  exact this
theorem misc_out : Around [] [] := .stop [] (.no _ (by simp) (by simp))
end Go.Proofs.YtgomlebemefdcaaDoor

/- What Parse gives of the text with names that have something in front; kids in memory. No condition. -/
namespace Go.Proofs.YtgomlebemefdcaaDoor
open Go Go.RowKit Go.Wk Go.Xt Go.Xe
theorem conv_bytes (w : World) (s : ByteArray) (hs : s.size ≤ 100000) :
    ∃ c W', (convert 9 22 (.string s)).run Tryd.prog w = .ok (.slice (some ⟨w.heap.size, 0, none⟩) s.size c) W' ∧ Byt W' (some ⟨w.heap.size, 0, none⟩) s.data.toList ∧ Below w.heap.size w W' ∧ s.size ≤ c ∧ W'.heap.size = w.heap.size + 1 := by
  have hcv := Lib.run_convert_string_bytes (P := Tryd.prog) w 9 22 5 s (u := .string) Tryd.underlying9 Tryd.underlying22 Tryd.underlying5
  have hlen : s.data.toList.length = s.size := Array.length_toList
  refine ⟨_, _, hcv, ⟨?_, fun _ => ⟨_, 0, rfl, fun i hi => ?_⟩⟩, ⟨rfl, rfl, rfl, by rw [Lib.bytesWorld_size]; omega, fun k hk => Lib.bytesWorld_at_old _ _ _ _ hk⟩, ?_, Lib.bytesWorld_size _ _ _⟩
  · unfold maxLen; omega
  · have := Lib.bytesWorld_cell w 5 s i (by omega)
    rw [Nat.zero_add, this]
    rw [List.getD_eq_getElem?_getD, List.getElem?_eq_getElem hi]; rfl
  · exact grownCap_ge _ _ _ _
def bytes (l : List UInt8) : ByteArray := ⟨l.toArray⟩
theorem bytes_str (l : List UInt8) : Value.string (bytes l) = str l := rfl
theorem bytes_size (l : List UInt8) : (bytes l).size = l.length := by unfold bytes; show l.toArray.size = _; simp
theorem bytes_list (l : List UInt8) : (bytes l).data.toList = l := rfl
theorem bytes_app2 (a b : List UInt8) : bytes a ++ bytes b = bytes (a ++ b) := bytes_ext (by rw [bytes_app]; simp [bytes])
theorem allZ_len (l : List UInt8) : (allZ l).length ≤ 40 * l.length + 29 := by
  unfold allZ
  rw [core_eq]
  have h1 := opns_len l
  have h2 := tails_len l.length
  simp only [List.length_append, h2]
  have h3 : headZ.length = 25 := rfl
  have h4 : ([60, 47, 114, 62] : List UInt8).length = 4 := rfl
  omega
theorem parse_x {w : World} {A : Option Addr} {c : Nat} {l : List UInt8} (hb : Byt w A (allZ l)) (hc : (allZ l).length ≤ c) (hl : l.length ≤ 20) (hT : Lib.Utf8Tabs 0 1 w) (h2 : 2 ≤ w.heap.size) :
    Calls Tryd.prog 9 #[.slice A (allZ l).length c] w fun e w' => ∃ (N0 N1 N2 : ByteArray) (a1 : Option Addr) (n1 c1 : Nat) (a2 : Option Addr) (n2 c2 : Nat) (bl : List Nat), e = .returned (.tuple #[.agg #[.string N0, .string N1, .string N2, .slice a1 n1 c1, .slice a2 n2 c2], .int .i64 0]) ∧
      NxAt w' (.el [118] [114] [] (coreN [117] l)) [.string N0, .string N1, .string N2, .slice a1 n1 c1, .slice a2 n2 c2] bl ∧ (∀ k ∈ bl, w.heap.size ≤ k ∧ k < w'.heap.size) ∧ Below w.heap.size w w' := by
  have hlen := allZ_len l
  have hne : allZ l ≠ [] := by unfold allZ headZ; simp
  refine (xml_Parse (P := fun W W1 vs k => k = 0 ∧ ∃ bl, NxAt W1 (.el [118] [114] [] (coreN [117] l)) vs.toList bl ∧ (∀ j ∈ bl, W.heap.size ≤ j ∧ j < W1.heap.size)) hb hc (by omega) (signs_ascii _ (all_ascii l)) hT h2 hne fun W hW => ?_).mono ?_
  · have ha : Around (allZ l) (allZ l) := by
      have e : allZ l = 60 :: 114 :: (allZ l).drop 2 := by unfold allZ headZ; rfl
      rw [e]
      exact misc_root 114 (by unfold low; decide) _
    refine (xml_allP hW ⟨by simp, Nat.zero_le _⟩ ha (all_elem l hl) misc_out).mono ?_
    rintro e w' ⟨S, N, a1, n1, c1, a2, n2, c2, bl, rfl, hN, hbl, hF⟩
    exact ⟨S, N, ⟨#[]⟩, a1, n1, c1, a2, n2, c2, 0, rfl, hF, ⟨rfl, bl, hN, hbl⟩, fun h => absurd rfl h⟩
  · rintro e w' ⟨N0, N1, N2, a1, n1, c1, a2, n2, c2, k, W, W1, rfl, ⟨rfl, bl, hN, hbl⟩, h3, h4, h5, hB⟩
    exact ⟨N0, N1, N2, a1, n1, c1, a2, n2, c2, bl, rfl, hN.keep fun j hj => h4 j (hbl j hj).1 (hbl j hj).2, fun j hj => by have := hbl j hj; omega, hB⟩
/-- kids in memory, each by itself -/
theorem kx_one {w : World} : ∀ {ks : List Nx} {vs : List Value} {b : List Nat}, RxAt w ks vs b → ∀ i (hi : i < ks.length), ∃ us bi, NxAt w ks[i] us bi ∧ (∀ j, j < 5 → vs[5 * i + j]? = us[j]?) ∧ ∀ k ∈ bi, k ∈ b := by
  intro ks
  induction ks with
  | nil => intro vs b _ i hi; simp at hi
  | cons x ks ih =>
    intro vs b h i hi
    cases h with
    | cons _ _ v1 vss b1 bs h1 h2 =>
      have h5 := h1.five
      cases i with
      | zero => exact ⟨v1, b1, h1, fun j hj => by rw [Nat.mul_zero, Nat.zero_add, List.getElem?_append_left (by omega)], fun k hk => by simp [hk]⟩
      | succ i =>
        obtain ⟨us, bi, hn, hu, hbi⟩ := ih h2 i (by simpa using hi)
        refine ⟨us, bi, by simpa using hn, fun j hj => ?_, fun k hk => by simp [hbi k hk]⟩
        rw [List.getElem?_append_right (by omega), ← hu j hj]
        congr 1
        omega
theorem kx_cells {w : World} {ks : List Nx} {v : Value} {b : List Nat} (h : KxAt w ks v b) (h0 : 0 < ks.length) :
    ∃ g cap, v = .slice (some ⟨g, 0, none⟩) ks.length cap ∧ g ∈ b ∧ g < w.heap.size ∧ ∀ i (hi : i < ks.length), ∃ us bi, NxAt w ks[i] us bi ∧ (∀ j, j < 5 → w.cell? ⟨g, 5 * i + j, none⟩ = us[j]?) ∧ ∀ k ∈ bi, k ∈ b := by
  cases h with
  | nil => simp at h0
  | row _ g cap vs bb ho hr =>
    have hl := hr.len
    have cell : ∀ i (hi : i < ks.length), ∃ us bi, NxAt w ks[i] us bi ∧ (∀ j, j < 5 → w.cell? ⟨g, 5 * i + j, none⟩ = us[j]?) ∧ ∀ k ∈ bi, k ∈ g :: bb := by
      intro i hi
      obtain ⟨us, bi, hn, hu, hbi⟩ := kx_one hr i hi
      exact ⟨us, bi, hn, fun j hj => by rw [← hu j hj]; exact ho.cellAt _ (by omega), fun k hk => by simp [hbi k hk]⟩
    refine ⟨g, cap, rfl, by simp, ?_, cell⟩
    obtain ⟨us, bi, hn, hu, _⟩ := cell 0 h0
    have := hu 0 (by omega)
    rw [List.getElem?_eq_getElem (by rw [hn.five]; omega)] at this
    exact cell_lt this
/-- an element's five values -/
theorem el_vals {w : World} {sp nm : List UInt8} {l : List (List UInt8 × List UInt8 × List UInt8)} {ks : List Nx} {us : List Value} {b : List Nat} (h : NxAt w (.el sp nm l ks) us b) :
    ∃ va vk ba bk, us = [str sp, str nm, str [], va, vk] ∧ AtX w l va ba ∧ KxAt w ks vk bk ∧ (∀ k ∈ bk, k ∈ b) ∧ (∀ k ∈ ba, k ∈ b) := by
  cases h with
  | el _ _ _ _ va vk ba bk h1 h2 => exact ⟨va, vk, ba, bk, rfl, h1, h2, fun k hk => by simp [hk], fun k hk => by simp [hk]⟩
theorem coreN_at (sp : List UInt8) {l : List UInt8} {j : Nat} (h : j < l.length) : coreN sp (l.drop j) = [.el (spN sp l[j]) [101] [(spN sp l[j], [107], [])] (coreN (spN sp l[j]) (l.drop (j + 1)) ++ [.el (spN sp l[j]) [122] [] [], .el [118] [122] [] []])] := by
  rw [List.drop_eq_getElem_cons h]; rfl
theorem coreN_len (sp : List UInt8) (l : List UInt8) : (coreN sp l).length = if l.length = 0 then 0 else 1 := by cases l <;> rfl
theorem kid_facts {w : World} {l : List UInt8} {sp : List UInt8} {tl : List Nx} {j : Nat} {b2 : Option Addr} {m2 d2 : Nat} {bl : List Nat} (hj : j < l.length) (h : KxAt w (coreN sp (l.drop j) ++ tl) (.slice b2 m2 d2) bl) :
    ∃ (g ga ca gk n ck : Nat) (bl' : List Nat), b2 = some ⟨g, 0, none⟩ ∧ 0 < m2 ∧ g ∈ bl ∧ ga ∈ bl ∧ gk ∈ bl ∧ (∀ i ∈ bl', i ∈ bl) ∧ w.cell? ⟨g, 0, none⟩ = some (.string (bytes (spN sp l[j]))) ∧ w.cell? ⟨g, 1, none⟩ = some (.string ⟨#[101]⟩) ∧ w.cell? ⟨g, 2, none⟩ = some (.string ⟨#[]⟩) ∧ w.cell? ⟨g, 3, none⟩ = some (.slice (some ⟨ga, 0, none⟩) 1 ca) ∧ w.cell? ⟨g, 4, none⟩ = some (.slice (some ⟨gk, 0, none⟩) n ck) ∧
      w.cell? ⟨ga, 0, none⟩ = some (.string (bytes (spN sp l[j]))) ∧ KxAt w (coreN (spN sp l[j]) (l.drop (j + 1)) ++ [.el (spN sp l[j]) [122] [] [], .el [118] [122] [] []]) (.slice (some ⟨gk, 0, none⟩) n ck) bl' ∧
      ((n = 2 ∧ w.cell? ⟨gk, 0, none⟩ = some (.string (bytes (spN sp l[j]))) ∧ w.cell? ⟨gk, 5, none⟩ = some (.string ⟨#[118]⟩)) ∨ (n = 3 ∧ w.cell? ⟨gk, 5, none⟩ = some (.string (bytes (spN sp l[j]))) ∧ w.cell? ⟨gk, 10, none⟩ = some (.string ⟨#[118]⟩))) := by
  rw [coreN_at sp hj] at h
  obtain ⟨g, cap, e1, hg, _, hc⟩ := kx_cells h (by simp)
  injection e1 with e1 e2 e3
  obtain ⟨us, bi, hn, hu, hbi⟩ := hc 0 (by simp)
  have hn : NxAt w (.el (spN sp l[j]) [101] [(spN sp l[j], [107], [])] (coreN (spN sp l[j]) (l.drop (j + 1)) ++ [.el (spN sp l[j]) [122] [] [], .el [118] [122] [] []])) us bi := hn
  obtain ⟨va, vk, ba, bk, rfl, hat, hk, hbk, hba⟩ := el_vals hn
  rcases hat with ⟨e, _⟩ | ⟨a, ga, ca, ea, rfl, c0, _, _, rfl⟩
  · simp at e
  injection ea with ea _
  subst ea
  obtain ⟨gk, ck, rfl, hgk, _, hcs⟩ := kx_cells hk (by simp)
  have hlen : (coreN (spN sp l[j]) (l.drop (j + 1)) ++ [Nx.el (spN sp l[j]) [122] [] [], .el [118] [122] [] []]).length = (coreN (spN sp l[j]) (l.drop (j + 1))).length + 2 := by simp
  have hcl := coreN_len (spN sp l[j]) (l.drop (j + 1))
  have cellOf : ∀ i (hi : i < (coreN (spN sp l[j]) (l.drop (j + 1)) ++ [Nx.el (spN sp l[j]) [122] [] [], .el [118] [122] [] []]).length) (s n' : List UInt8), (coreN (spN sp l[j]) (l.drop (j + 1)) ++ [Nx.el (spN sp l[j]) [122] [] [], .el [118] [122] [] []])[i] = .el s n' [] [] → w.cell? ⟨gk, 5 * i, none⟩ = some (.string (bytes s)) := by
    intro i hi s n' e
    obtain ⟨us, bi, hn, hu, _⟩ := hcs i hi
    rw [e] at hn
    obtain ⟨va, vk, ba, bk, rfl, _⟩ := el_vals hn
    exact hu 0 (by omega)
  refine ⟨g, ga, ca, gk, _, ck, bk, e1, by rw [e2]; simp, hg, hbi _ (hba ga (by simp)), hbi _ (hbk gk hgk), fun i hi => hbi i (hbk i hi), hu 0 (by omega), hu 1 (by omega), hu 2 (by omega), hu 3 (by omega), hu 4 (by omega), c0, hk, ?_⟩
  by_cases h0 : (l.drop (j + 1)).length = 0
  · rw [if_pos h0] at hcl
    have hnil : coreN (spN sp l[j]) (l.drop (j + 1)) = [] := List.eq_nil_of_length_eq_zero hcl
    exact .inl ⟨by rw [hlen, hcl], cellOf 0 (by omega) _ [122] (by simp [hnil]), cellOf 1 (by omega) [118] [122] (by simp [hnil])⟩
  · rw [if_neg h0] at hcl
    obtain ⟨y, hy⟩ := List.length_eq_one_iff.1 hcl
    exact .inr ⟨by rw [hlen, hcl], cellOf 1 (by omega) _ [122] (by simp [hy]), cellOf 2 (by omega) [118] [122] (by simp [hy])⟩
theorem parse_y {w : World} {A : Option Addr} {c : Nat} {l : List UInt8} (hb : Byt w A (allZ l)) (hc : (allZ l).length ≤ c) (hl : l.length ≤ 20) (hT : Lib.Utf8Tabs 0 1 w) (h2 : 2 ≤ w.heap.size) :
    Calls Tryd.prog 9 #[.slice A (allZ l).length c] w fun e w' => ∃ (a2 : Option Addr) (n2 c2 : Nat) (bl : List Nat), e = .returned (.tuple #[.agg #[.string ⟨#[118]⟩, .string ⟨#[114]⟩, .string ⟨#[]⟩, .slice none 0 0, .slice a2 n2 c2], .int .i64 0]) ∧
      KxAt w' (coreN [117] l) (.slice a2 n2 c2) bl ∧ (∀ k ∈ bl, w.heap.size ≤ k ∧ k < w'.heap.size) ∧ Below w.heap.size w w' := by
  refine (parse_x hb hc hl hT h2).mono ?_
  rintro e w' ⟨N0, N1, N2, a1, n1, c1, a2, n2, c2, bl, rfl, hN, hbl, hB⟩
  obtain ⟨va, vk, ba, bk, hus, hat, hkx, hbk, _⟩ := el_vals hN
  have hva : va = .slice none 0 0 := by
    rcases hat with ⟨_, e, _⟩ | ⟨_, _, _, e, _⟩
    · exact e
    · cases e
  injection hus with u0 hus
  injection hus with u1 hus
  injection hus with u2 hus
  injection hus with u3 hus
  injection hus with u4 _
  rw [u0, u1, u2, u3, hva]
  exact ⟨a2, n2, c2, bk, rfl, u4 ▸ hkx, fun k hk => hbl k (hbk k hk), hB⟩
end Go.Proofs.YtgomlebemefdcaaDoor

/- The law of what a name's front says, walked. No condition. -/
namespace Go.Proofs.YtgomlebemefdcaaDoor
open Go Go.RowKit Go.Wk Go.Xt Go.Xe
theorem and_all : ∀ n : Fin 256, bits BinOp.and IntKind.u8 ((n.val : Nat) : Int) 1 = if n.val % 2 == 1 then 1 else 0 := by decide +kernel
theorem and_odd (x : UInt8) : (bits BinOp.and IntKind.u8 (x.toNat : Int) 1 == 1) = odd x := by
  have := and_all ⟨x.toNat, x.toNat_lt⟩
  unfold odd
  rw [show (x.toNat : Int) = (((⟨x.toNat, x.toNat_lt⟩ : Fin 256).val : Nat) : Int) from rfl, this]
  split <;> simp_all
theorem tails_succ (k : Nat) : tailZ ++ ((List.replicate k tailZ).flatten ++ [60, 47, 114, 62]) = (List.replicate (k + 1) tailZ).flatten ++ [60, 47, 114, 62] := by
  rw [List.replicate_succ, List.flatten_cons, List.append_assoc]
theorem opns_snoc {l : List UInt8} {k : Nat} (h : k < l.length) : (l.take (k + 1)).flatMap opn = (l.take k).flatMap opn ++ opn l[k] := by
  rw [List.take_succ_eq_append_getElem h, List.flatMap_append, List.flatMap_cons, List.flatMap_nil, List.append_nil]
set_option maxHeartbeats 4000000 in
set_option maxRecDepth 100000 in
theorem spaces_law {w : World} {A : Option Addr} {c : Nat} {l : List UInt8} (hb : Byt w A l) (hc : l.length ≤ c) (hT : Lib.Utf8Tabs 0 1 w) (h2 : 2 ≤ w.heap.size)
    (haw : Calls Tryd.prog 8 #[] w fun e w' => e = .returned (.bool true) ∧ Below w.heap.size w w') :
    Calls Tryd.prog 4 #[.slice A l.length c] w fun e w' => e = .returned (.bool true) ∧ Below w.heap.size w w' := by
  have hm := hb.1
  unfold maxLen at hm
  by_cases h20 : 20 < l.length
  · replace hb := Lib.hid hb
    replace hT := Lib.hid hT
    go_enter Tryd.func4, Tryd.ntmps4
    go_wp2_with (go_at_call 8; (with_reducible refine haw.mono ?_); rintro e w1 ⟨rfl, b1⟩; replace b1 := Lib.hid b1)
    go_ret
    exact ⟨rfl, b1.out⟩
  have hcell : ∀ i (hi : i < l.length), ∃ b o, A = some ⟨b, o, none⟩ ∧ w.cell? ⟨b, o + i, none⟩ = some (.int .u8 (l[i].toNat : Int)) := fun i hi => by
    obtain ⟨b, o, e, h⟩ := hb.2 (by omega)
    exact ⟨b, o, e, h i hi⟩
  replace hcell := Lib.hid hcell
  replace hb := Lib.hid hb
  replace hT := Lib.hid hT
  obtain ⟨m, hme⟩ : ∃ m, m = l.length := ⟨_, rfl⟩
  rw [← hme] at hc hm h20 ⊢
  replace hme := Lib.hid hme
  have hg1 : decide ((20 : Int) < (m : Int)) = false := by simp; omega
  go_enter Tryd.func4, Tryd.ntmps4
  go_wp2_with (go_at_call 8; (with_reducible refine haw.mono ?_); rintro e w1 ⟨rfl, b1⟩; replace b1 := Lib.hid b1)
  go_loopw [3, 4, 5] (fun s3 s4 s5 wr => ∃ k : Nat, k ≤ m ∧ s5 = .int .i64 k ∧ s3 = .string (bytes (headZ ++ (l.take k).flatMap opn)) ∧ s4 = .string (bytes ((List.replicate k tailZ).flatten ++ [60, 47, 114, 62])) ∧ Below w.heap.size w wr) (fun _ _ s5 _ => m - (RowKit.intOf s5).toNat)
  case atStart => exact ⟨0, by omega, rfl, rfl, rfl, b1.out⟩
  case round =>
    obtain ⟨k, hk, rfl, rfl, rfl, hB⟩ := hrel
    have zS : (bytes (headZ ++ (l.take k).flatMap opn)).size ≤ 600 := by
      rw [bytes_size]
      have := opns_len (l.take k)
      have h3 : headZ.length = 25 := rfl
      have h4 : (l.take k).length = k := by rw [List.length_take, ← hme.out]; omega
      rw [List.length_append, h3]
      omega
    have zE : (bytes ((List.replicate k tailZ).flatten ++ [60, 47, 114, 62])).size ≤ 600 := by
      rw [bytes_size, List.length_append, tails_len]
      show 16 * k + 4 ≤ 600
      omega
    obtain ⟨S, hS⟩ : ∃ S, S = bytes (headZ ++ (l.take k).flatMap opn) := ⟨_, rfl⟩
    obtain ⟨E, hE⟩ : ∃ S, S = bytes ((List.replicate k tailZ).flatten ++ [60, 47, 114, 62]) := ⟨_, rfl⟩
    rw [← hS] at zS ⊢
    rw [← hE] at zE ⊢
    replace hS := Lib.hid hS
    replace hE := Lib.hid hE
    by_cases hkm : k < m
    · have hkl : k < l.length := by rw [← hme.out]; exact hkm
      obtain ⟨bb, o, rfl, hcx0⟩ := hcell.out k hkl
      obtain ⟨x, hx⟩ : ∃ x, x = l[k] := ⟨_, rfl⟩
      have hcx : wr.cell? ⟨bb, o + k, none⟩ = some (.int .u8 (x.toNat : Int)) := by
        rw [hx]; exact (hB.cell (cell_lt hcx0)).trans hcx0
      have hx8 := x.toNat_lt
      have lb : bb < wr.heap.size := cell_lt hcx
      replace hB := Lib.hid hB
      replace hx := Lib.hid hx
      clear hcx0
      have hlet := opns_snoc hkl
      rw [← hx.out] at hlet
      have htl : bytes tailZ ++ E = bytes ((List.replicate (k + 1) tailZ).flatten ++ [60, 47, 114, 62]) := by rw [hE.out, bytes_app2, tails_succ]
      have hst : S ++ bytes (opn x) = bytes (headZ ++ (l.take (k + 1)).flatMap opn) := by rw [hS.out, bytes_app2, hlet, List.append_assoc]
      replace hlet := Lib.hid hlet
      replace htl := Lib.hid htl
      replace hst := Lib.hid hst
      cases ho : odd x with
      | true =>
        have hxr := (and_odd x).trans ho
        have hcv : (convert 22 9 (.slice (some ⟨wr.heap.size, 0, none⟩) 1 1)).run Tryd.prog (wr.alloc (.cells #[.int .u8 (97 + (x.toNat : Int) / 16)] 5)) = .ok (.string ⟨#[chP x]⟩) (wr.alloc (.cells #[.int .u8 (97 + (x.toNat : Int) / 16)] 5)) := by
          refine conv_at _ wr.heap.size 0 1 (chP x) ?_
          have e : ((chP x).toNat : Int) = 97 + (x.toNat : Int) / 16 := by rw [chP_nat]; omega
          rw [e, World.cell?_alloc_new]; rfl
        have hop : S ++ (⟨#[60, 112, 58, 101, 32, 120, 109, 108, 110, 115, 58, 112, 61, 34]⟩ : ByteArray) ++ (⟨#[chP x]⟩ : ByteArray) ++ (⟨#[34, 32, 112, 58, 107, 61, 34, 34, 62]⟩ : ByteArray) = S ++ bytes (opn x) := by
          rw [ByteArray.append_assoc, ByteArray.append_assoc]
          congr 1
          have : opn x = [60, 112, 58, 101, 32, 120, 109, 108, 110, 115, 58, 112, 61, 34] ++ ([chP x] ++ [34, 32, 112, 58, 107, 61, 34, 34, 62]) := by unfold opn; rw [if_pos ho]; rfl
          rw [this, ← bytes_app2, ← bytes_app2]; rfl
        replace hop := Lib.hid hop
        replace ho := Lib.hid ho
        go_wp2
        go_roundw
        case rel => exact ⟨k + 1, by omega, by go_num, by rw [hop.out, hst.out], by rw [← htl.out]; rfl, hB.out.alloc hB.out.size _⟩
        case measure => simp [RowKit.intOf]; omega
      | false =>
        have hxr := (and_odd x).trans ho
        have hop : S ++ (⟨#[60, 112, 58, 101, 32, 112, 58, 107, 61, 34, 34, 62]⟩ : ByteArray) = S ++ bytes (opn x) := by
          unfold opn; rw [if_neg (by rw [ho]; decide)]; rfl
        replace hop := Lib.hid hop
        replace ho := Lib.hid ho
        go_wp2
        go_roundw
        case rel => exact ⟨k + 1, by omega, by go_num, by rw [hop.out, hst.out], by rw [← htl.out]; rfl, hB.out⟩
        case measure => simp [RowKit.intOf]; omega
    · obtain rfl : k = m := by omega
      obtain ⟨T, hTe⟩ : ∃ T : ByteArray, T = S ++ E := ⟨_, rfl⟩
      have zT : T.size ≤ 2000 := by rw [hTe, ByteArray.size_append]; omega
      have hTl : T.data.toList = allZ l := by
        rw [hTe, hS.out, hE.out, bytes_app2, bytes_list]
        unfold allZ
        rw [core_eq, hme.out, List.take_length, List.append_assoc, List.append_assoc]
      replace hB := Lib.hid hB
      obtain ⟨cT, W2, hcv, hbT, hBT, hcT, hzT⟩ := conv_bytes wr T (by omega)
      have hTlen : T.size = (allZ l).length := by rw [← hTl, Array.length_toList]; rfl
      rw [hTl] at hbT
      have hB2 := hB.out.trans (hBT.mono hB.out.size)
      have hT2 := tabs_kept hT.out (hB2.block 0 (by omega)) (hB2.block 1 (by omega))
      have hz2 : 2 ≤ W2.heap.size := by have := hB.out.size; omega
      obtain ⟨tl, htl⟩ : ∃ tl, tl = T.size := ⟨_, rfl⟩
      rw [← htl] at hcv hTlen hcT
      rw [hTe] at hcv
      replace htl := Lib.hid htl
      replace hTe := Lib.hid hTe
      have cP := parse_y hbT (by omega : (allZ l).length ≤ cT) (by rw [← hme.out]; omega) hT2 hz2
      rw [← hTlen] at cP
      replace hTlen := Lib.hid hTlen
      replace hTl := Lib.hid hTl
      replace hbT := Lib.hid hbT
      replace hBT := Lib.hid hBT
      replace hB2 := Lib.hid hB2
      replace hT2 := Lib.hid hT2
      replace hzT := Lib.hid hzT
      clear zT
      go_wp2_with (go_at_call 9; (with_reducible refine cP.mono ?_); rintro e w3 ⟨a2, n2, c2, bl, rfl, hN, hbl, b3⟩; replace b3 := Lib.hid b3; replace hN := Lib.hid hN; replace hbl := Lib.hid hbl)
      obtain ⟨X, hX⟩ : ∃ X, X = w3.heap.size := ⟨_, rfl⟩
      have hX0 : w.heap.size ≤ X := by have := hB2.out.size; have := b3.out.size; omega
      obtain ⟨W4, hW4⟩ : ∃ W, W = w3.alloc (.cells #[.string ⟨#[118]⟩, .string ⟨#[114]⟩, .string ⟨#[]⟩, .slice none 0 0, .slice a2 n2 c2] 27) := ⟨_, rfl⟩
      have hb4 : Below w3.heap.size w3 W4 := by rw [hW4]; exact (Below.refl _ _).alloc (Nat.le_refl _) _
      have hb04 : Below w.heap.size w W4 := bthen hB2.out (bthen b3.out hb4)
      have hx4 : Blk W4 X 27 #[.string ⟨#[118]⟩, .string ⟨#[114]⟩, .string ⟨#[]⟩, .slice none 0 0, .slice a2 n2 c2] := by rw [hW4, hX]; exact Blk.new w3 27 _
      have hn4 : KxAt W4 (coreN [117] l) (.slice a2 n2 c2) bl := hN.out.keep fun j hj => hb4.block j (hbl.out j hj).2
      have hl4 : ∀ j ∈ bl, j ≠ X ∧ j < W4.heap.size := fun j hj => by have := hbl.out j hj; have := hb4.size; omega
      have x0 := hx4.cell 0
      have y0 := hx4.frozen 0
      rw [← hW4, ← hX]
      replace hX := Lib.hid hX
      replace hW4 := Lib.hid hW4
      replace hb4 := Lib.hid hb4
      replace hb04 := Lib.hid hb04
      replace hx4 := Lib.hid hx4
      replace hn4 := Lib.hid hn4
      replace hl4 := Lib.hid hl4
      go_wp2
      go_loopw [8, 9, 10] (fun s8 s9 s10 wr2 => ∃ (j : Nat) (sp : List UInt8) (tl : List Nx) (M0 M1 M2 : ByteArray) (b1 : Option Addr) (m1 d1 : Nat) (b2 : Option Addr) (m2 d2 : Nat) (bl2 : List Nat), j ≤ k ∧ s9 = .int .i64 j ∧ s8 = .string (bytes sp) ∧ Blk wr2 X 27 #[.string M0, .string M1, .string M2, .slice b1 m1 d1, .slice b2 m2 d2] ∧ KxAt wr2 (coreN sp (l.drop j) ++ tl) (.slice b2 m2 d2) bl2 ∧ (∀ i ∈ bl2, i ≠ X ∧ i < wr2.heap.size) ∧ Below w.heap.size w wr2) (fun _ s9 _ _ => k - (RowKit.intOf s9).toNat)
      case atStart => exact ⟨0, [117], [], _, _, _, none, 0, 0, a2, n2, c2, bl, Nat.zero_le _, rfl, rfl, hx4.out, by rw [List.append_nil]; exact hn4.out, hl4.out, hb04.out⟩
      case round =>
        obtain ⟨j, sp, tl2, M0, M1, M2, B1, m1, d1, B2, m2, d2, bl2, hj, rfl, rfl, hx5, hn5, hl5, hb5⟩ := hrel
        have hxlt : X < wr.heap.size := hx5.lt
        by_cases hjk : j < k
        · have hjl : j < l.length := by rw [← hme.out]; exact hjk
          obtain ⟨bb, o, rfl, hcx0⟩ := hcell.out j hjl
          obtain ⟨x, hx⟩ : ∃ x, x = l[j] := ⟨_, rfl⟩
          have hcx : wr.cell? ⟨bb, o + j, none⟩ = some (.int .u8 (x.toNat : Int)) := by
            rw [hx]; exact (hb5.cell (cell_lt hcx0)).trans hcx0
          have lb : bb < wr.heap.size := cell_lt hcx
          have lbX : bb ≠ X := by have := cell_lt hcx0; simp at this; omega
          clear hcx0
          obtain ⟨g, ga, ca, gk, n, ck, bl3, rfl, hm2, hgm, hgam, hgkm, hbl3, c0, c1, c2, c3, c4, ca0, hkx, hends⟩ := kid_facts hjl hn5
          rw [← hx] at c0 ca0 hkx hends
          obtain ⟨SP, hSP⟩ : ∃ SP, SP = bytes (spN sp x) := ⟨_, rfl⟩
          rw [← hSP] at c0 ca0 hends
          have hgX : g ≠ X := (hl5 g hgm).1
          have hXg : ¬ X = g := fun e => hgX e.symm
          have hgaX : ga ≠ X := (hl5 ga hgam).1
          have hXga : ¬ X = ga := fun e => hgaX e.symm
          have hgkX : gk ≠ X := (hl5 gk hgkm).1
          have hXgk : ¬ X = gk := fun e => hgkX e.symm
          have hXbb : ¬ X = bb := fun e => lbX e.symm
          have hgL := (hl5 g hgm).2
          have hgaL := (hl5 ga hgam).2
          have hgkL := (hl5 gk hgkm).2
          have x0 := hx5.cell 0
          have x1 := hx5.cell 1
          have x2 := hx5.cell 2
          have x3 := hx5.cell 3
          have x4 := hx5.cell 4
          have y0 := hx5.frozen 0
          have y1 := hx5.frozen 1
          have y2 := hx5.frozen 2
          have y3 := hx5.frozen 3
          have y4 := hx5.frozen 4
          have hx8 := x.toNat_lt
          replace hx5 := Lib.hid hx5
          replace hn5 := Lib.hid hn5
          replace hl5 := Lib.hid hl5
          replace hb5 := Lib.hid hb5
          replace hkx := Lib.hid hkx
          replace hbl3 := Lib.hid hbl3
          replace hSP := Lib.hid hSP
          replace hx := Lib.hid hx
          go_upto_region 21 with (fail)
          have hV := put5_blk hx5.out (.string SP) (.string ⟨#[101]⟩) (.string ⟨#[]⟩) (.slice (some ⟨ga, 0, none⟩) 1 ca) (.slice (some ⟨gk, 0, none⟩) n ck)
          have hSV := put5_save wr X (.string SP) (.string ⟨#[101]⟩) (.string ⟨#[]⟩) (.slice (some ⟨ga, 0, none⟩) 1 ca) (.slice (some ⟨gk, 0, none⟩) n ck)
          unfold put5 at hV hSV
          obtain ⟨V, hU⟩ : ∃ U, U = (((((wr.setCell ⟨X, 0, none⟩ (.string SP)).setCell ⟨X, 1, none⟩ (.string ⟨#[101]⟩)).setCell ⟨X, 2, none⟩ (.string ⟨#[]⟩)).setCell ⟨X, 3, none⟩ (.slice (some ⟨ga, 0, none⟩) 1 ca)).setCell ⟨X, 4, none⟩ (.slice (some ⟨gk, 0, none⟩) n ck)) := ⟨_, rfl⟩
          rw [← hU] at hV hSV ⊢
          have kV : ∀ p : Addr, p.block < wr.heap.size → p.block ≠ X → V.cell? p = wr.cell? p := fun p h1 h2 => World.cell?_of_block (hSV.block p.block h1 h2)
          have vcx := (kV ⟨bb, o + j, none⟩ lb lbX).trans hcx
          clear hcx c0 c1 c2 c3 c4 x0 x1 x2 x3 x4 y0 y1 y2 y3 y4 hU
          have lb2 : bb < V.heap.size := Nat.lt_of_lt_of_le lb hSV.size
          replace hV := Lib.hid hV
          replace kV := Lib.hid kV
          replace hSV := Lib.hid hSV
          replace hends := Lib.hid hends
          replace ca0 := Lib.hid ca0
          go_upto_if 74 with (fail)
          go_cut [8] (fun s8 wx => s8 = .string SP ∧ Below V.heap.size V wx)
          case first =>
            cases ho : odd x with
            | true =>
              have hxr := (and_odd x).trans ho
              have hcv : (convert 22 9 (.slice (some ⟨V.heap.size, 0, none⟩) 1 1)).run Tryd.prog (V.alloc (.cells #[.int .u8 (97 + (x.toNat : Int) / 16)] 5)) = .ok (.string ⟨#[chP x]⟩) (V.alloc (.cells #[.int .u8 (97 + (x.toNat : Int) / 16)] 5)) := by
                refine conv_at _ V.heap.size 0 1 (chP x) ?_
                have e : ((chP x).toNat : Int) = 97 + (x.toNat : Int) / 16 := by rw [chP_nat]; omega
                rw [e, World.cell?_alloc_new]; rfl
              have hsp : (⟨#[chP x]⟩ : ByteArray) = SP := by rw [hSP.out]; unfold spN; rw [if_pos ho]; rfl
              replace ho := Lib.hid ho
              replace hsp := Lib.hid hsp
              go_wp2
              go_meet
              exact ⟨by rw [hsp.out], (Below.refl _ _).alloc (Nat.le_refl _) _⟩
            | false =>
              have hxr := (and_odd x).trans ho
              have hsp : bytes sp = SP := by rw [hSP.out]; unfold spN; rw [if_neg (by rw [ho]; decide)]
              replace ho := Lib.hid ho
              replace hsp := Lib.hid hsp
              go_wp2
              go_meet
              exact ⟨by rw [hsp.out], Below.refl _ _⟩
          case rest =>
            obtain ⟨rfl, hVB⟩ := hcut
            have kW : ∀ p : Addr, p.block < wr.heap.size → p.block ≠ X → wc.cell? p = wr.cell? p := fun p h1 h2 => (hVB.cell (Nat.lt_of_lt_of_le h1 hSV.out.size)).trans (kV.out p h1 h2)
            have hW : Blk wc X 27 #[.string SP, .string ⟨#[101]⟩, .string ⟨#[]⟩, .slice (some ⟨ga, 0, none⟩) 1 ca, .slice (some ⟨gk, 0, none⟩) n ck] := (hVB.block X (Nat.lt_of_lt_of_le hxlt hSV.out.size)).trans hV.out
            have x0 := hW.cell 0
            have x3 := hW.cell 3
            have x4 := hW.cell 4
            have da0 := (kW ⟨ga, 0, none⟩ hgaL hgaX).trans ca0.out
            have hB6 : Below w.heap.size w wc := hb5.out.trans ((hSV.out.below hX0 hb5.out.size).trans (hVB.mono (Nat.le_trans hb5.out.size hSV.out.size)))
            have fin : ∀ (v8 v10 : Value), v8 = .string SP → (∃ (j' : Nat) (sp : List UInt8) (tl : List Nx) (M0 M1 M2 : ByteArray) (b1 : Option Addr) (m1 d1 : Nat) (b2 : Option Addr) (m2 d2 : Nat) (bl2 : List Nat), j' ≤ k ∧ Value.int .i64 ((j : Int) + 1) = .int .i64 j' ∧ v8 = .string (bytes sp) ∧ Blk wc X 27 #[.string M0, .string M1, .string M2, .slice b1 m1 d1, .slice b2 m2 d2] ∧ KxAt wc (coreN sp (l.drop j') ++ tl) (.slice b2 m2 d2) bl2 ∧ (∀ i ∈ bl2, i ≠ X ∧ i < wc.heap.size) ∧ Below w.heap.size w wc) := by
              intro v8 v10 e
              refine ⟨j + 1, spN sp x, _, _, _, _, _, _, _, _, _, _, bl3, by omega, by go_num, by rw [e, hSP.out], hW, hkx.out.keep fun i hi => ?_, fun i hi => ?_, hB6⟩
              · have := hl5.out i (hbl3.out i hi)
                exact (hVB.block i (Nat.lt_of_lt_of_le this.2 hSV.out.size)).trans (hSV.out.block i this.2 this.1)
              · have := hl5.out i (hbl3.out i hi)
                exact ⟨this.1, Nat.lt_of_lt_of_le this.2 (Nat.le_trans hSV.out.size hVB.size)⟩
            rcases hends.out with ⟨rfl, ce1, ce2⟩ | ⟨rfl, ce1, ce2⟩
            · have de1 := (kW ⟨gk, 0, none⟩ hgkL hgkX).trans ce1
              have de2 := (kW ⟨gk, 5, none⟩ hgkL hgkX).trans ce2
              replace hW := Lib.hid hW
              replace kW := Lib.hid kW
              replace hB6 := Lib.hid hB6
              replace fin := Lib.hid fin
              replace hVB := Lib.hid hVB
              clear ce1 ce2
              go_wp2
              go_roundw
              case rel => exact fin.out _ (.int .i64 0) rfl
              case measure => simp [RowKit.intOf]; omega
            · have de1 := (kW ⟨gk, 5, none⟩ hgkL hgkX).trans ce1
              have de2 := (kW ⟨gk, 10, none⟩ hgkL hgkX).trans ce2
              replace hW := Lib.hid hW
              replace kW := Lib.hid kW
              replace hB6 := Lib.hid hB6
              replace fin := Lib.hid fin
              replace hVB := Lib.hid hVB
              clear ce1 ce2
              go_wp2
              go_roundw
              case rel => exact fin.out _ (.int .i64 0) rfl
              case measure => simp [RowKit.intOf]; omega
        · obtain rfl : j = k := by omega
          replace hx5 := Lib.hid hx5
          replace hn5 := Lib.hid hn5
          replace hl5 := Lib.hid hl5
          replace hb5 := Lib.hid hb5
          go_wp2
          go_ret
          exact ⟨rfl, hb5.out⟩
end Go.Proofs.YtgomlebemefdcaaDoor

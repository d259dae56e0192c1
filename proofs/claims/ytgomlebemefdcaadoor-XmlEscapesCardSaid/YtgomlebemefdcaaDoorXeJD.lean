/- Walks and laws, joined: part D. No condition. -/
import Derived.Test.YtgomlebemefdcaaDoorXeJC
import Derived.Test.YtgomlebemefdcaaDoorXeJA
import Derived.Lib.ConvBytes
import Derived.Laws.AppendOwn
import Derived.Laws.OwnMore
import Derived.Test.YtgomlebemefdcaaDoorXeJB
import Derived.Shelf.Strings.Builder1
import Derived.Shelf.Strings.Builder2
import Derived.Shelf.Small.Utf8
import Derived.Shelf.Strings.BuilderF
import Derived.Shelf.Strings.BuilderK
import Derived.Shelf.Strings.Prefix
import Derived.Shelf.Unicode.Decode
import Derived.Shelf.Bits.Mul64
import Derived.Shelf.Strings.Repeat
import Derived.Shelf.Unicode.DecodeSlow
import Derived.Shelf.Unicode.DecodeAny
import Derived.Shelf.Bytes.SlClone
import Derived.Test.YtgomlebemefdcaaDoorProg
import Derived.Lib.TrimUEq
import Derived.Lib.TrimAscii
import Derived.Lib.LaidU8T
import Derived.BigRegion
set_option linter.unusedSimpArgs false
set_option linter.unusedVariables false
/- Parse: a walk over any answer of the reader. No condition. -/
namespace Go.Proofs.YtgomlebemefdcaaDoor
open Go Go.RowKit Go.Wk Go.Xt Go.Xe
def ParseOf (P : World → World → Array Value → Int → Prop) (w : World) (e : Ending) (w' : World) : Prop :=
  ∃ (N0 N1 N2 : ByteArray) (a1 : Option Addr) (n1 c1 : Nat) (a2 : Option Addr) (n2 c2 : Nat) (k : Int) (W W1 : World), e = .returned (.tuple #[.agg #[.string N0, .string N1, .string N2, .slice a1 n1 c1, .slice a2 n2 c2], .int .i64 k]) ∧ P W W1 #[.string N0, .string N1, .string N2, .slice a1 n1 c1, .slice a2 n2 c2] k ∧ w.heap.size ≤ W.heap.size ∧ (∀ k, W.heap.size ≤ k → k < W1.heap.size → w'.heap[k]? = W1.heap[k]?) ∧ W1.heap.size ≤ w'.heap.size ∧ Below w.heap.size w w'
set_option maxHeartbeats 4000000 in
set_option maxRecDepth 100000 in
theorem xml_Parse {w : World} {A : Option Addr} {c : Nat} {bs : List UInt8} {P : World → World → Array Value → Int → Prop} (hb : Byt w A bs) (hc : bs.length ≤ c) (hsm : bs.length ≤ 100000) (hs : signsB bs = true) (hT : Lib.Utf8Tabs 0 1 w) (h2 : 2 ≤ w.heap.size) (hne : bs ≠ [])
    (call : ∀ W, RS W (w.heap.size + 1) (w.heap.size + 2) A bs.length bs 0 0 → Calls Tryd.prog 28 #[.pointer (some ⟨w.heap.size + 2, 0, none⟩)] W (AllOf (w.heap.size + 1) (w.heap.size + 2) P W)) :
    Calls Tryd.prog 9 #[.slice A bs.length c] w (ParseOf P w) := by
  have hb0 : Below w.heap.size w (w.alloc (.cells z5 27)) := (Below.refl _ _).alloc (Nat.le_refl _) _
  have hnew := Blk.new w 27 z5
  have cN := xml_New A c bs _ (hb.below hb0) hc hsm
  have hT0 := tabs_kept hT (hb0.block 0 (by omega)) (hb0.block 1 (by omega))
  have hz0 : (w.alloc (.cells z5 27)).heap.size = w.heap.size + 1 := World.size_alloc _ _
  rw [hz0] at cN
  have cR : ∀ W, RS W (w.heap.size + 1) (w.heap.size + 2) A bs.length bs 0 0 → Below (w.heap.size + 1) (w.alloc (.cells z5 27)) W → Calls Tryd.prog 17 #[.pointer (some ⟨w.heap.size + 2, 0, none⟩)] W (RootOf (w.heap.size + 1) (w.heap.size + 2) P W) := fun W hW hB =>
    xml_Root hW hs (tabs_kept hT0 (hB.block 0 (by omega)) (hB.block 1 (by omega))) (by omega) (by omega) hne call
  replace cN : Calls Tryd.prog 16 #[.slice A bs.length c] (w.alloc (.cells z5 27)) fun e w' => e = .returned (.pointer (some ⟨w.heap.size + 2, 0, none⟩)) ∧ RS w' (w.heap.size + 1) (w.heap.size + 2) A bs.length bs 0 0 ∧ Below (w.heap.size + 1) (w.alloc (.cells z5 27)) w' := cN
  replace cR := Lib.hid cR
  replace hb0 := Lib.hid hb0
  replace hnew := Lib.hid hnew
  replace hz0 := Lib.hid hz0
  obtain ⟨m, hm⟩ : ∃ m, m = bs.length := ⟨_, rfl⟩
  rw [← hm] at cN ⊢
  replace hm := Lib.hid hm
  clear call hb hc hsm hs hT hT0 hne
  go_enter Tryd.func9, Tryd.ntmps9
  go_wp2_with (first
    | (go_at_call 16; (with_reducible refine cN.mono ?_); rintro e w1 ⟨rfl, h1, b1⟩; have k1 := cR.out w1 (hm.out ▸ h1) b1; replace h1 := Lib.hid h1; replace b1 := Lib.hid b1)
    | (go_at_call 17; (with_reducible refine k1.mono ?_); rintro e w2 ⟨N0, N1, N2, A1, n1, c1, A2, n2, c2, k, W, W1, rfl, hP, hF, hlt, hF1, hS⟩; have hz := hz0.out; have z1 := b1.out.size; have hW1 := hF1.size; have hB2 : Below (w.heap.size + 1) w1 w2 := ((hF.below (B := w.heap.size + 1) (by omega) (by omega) (by omega)).trans (hF1.below (by omega) (by omega) (by omega))).trans (hS.below (by omega) (by omega)); have hB3 := b1.out.trans hB2; have hz : Blk w2 w.heap.size 27 z5 := (hB3.block w.heap.size (by omega)).trans hnew.out; have a0 := hz.cell 0; have a1 := hz.cell 1; have a2 := hz.cell 2; have a3 := hz.cell 3; have a4 := hz.cell 4; have y0 := hz.frozen 0; have y1 := hz.frozen 1; have y2 := hz.frozen 2; have y3 := hz.frozen 3; have y4 := hz.frozen 4; replace hz := Lib.hid hz; replace hB2 := Lib.hid hB2; replace hB3 := Lib.hid hB3; replace hP := Lib.hid hP; replace hF := Lib.hid hF; replace hF1 := Lib.hid hF1; replace hS := Lib.hid hS))
  have hV := put5_blk hz.out (.string N0) (.string N1) (.string N2) (.slice A1 n1 c1) (.slice A2 n2 c2)
  have hSV := put5_save w2 w.heap.size (.string N0) (.string N1) (.string N2) (.slice A1 n1 c1) (.slice A2 n2 c2)
  unfold put5 at hV hSV
  obtain ⟨V, hU⟩ : ∃ U, U = (((((w2.setCell ⟨w.heap.size, 0, none⟩ (.string N0)).setCell ⟨w.heap.size, 1, none⟩ (.string N1)).setCell ⟨w.heap.size, 2, none⟩ (.string N2)).setCell ⟨w.heap.size, 3, none⟩ (.slice A1 n1 c1)).setCell ⟨w.heap.size, 4, none⟩ (.slice A2 n2 c2)) := ⟨_, rfl⟩
  rw [← hU] at hV hSV ⊢
  have q0 := hV.cell 0
  have q1 := hV.cell 1
  have q2 := hV.cell 2
  have q3 := hV.cell 3
  have q4 := hV.cell 4
  have hzz := hz0.out
  have s1 := b1.out.size
  have s2 := hF1.out.size
  have s3 := hS.out.size
  have s4 := hSV.size
  refine bodyPost_ret (v := .tuple #[.agg #[.string N0, .string N1, .string N2, .slice A1 n1 c1, .slice A2 n2 c2], .int .i64 k]) (by simp [results, Tryd.results9, go_sem, q0, q1, q2, q3, q4]) rfl ⟨N0, N1, N2, A1, n1, c1, A2, n2, c2, k, W, W1, rfl, hP.out, by omega, ?_, by omega, (hb0.out.trans (hB3.out.mono (by omega))).trans (hSV.below (Nat.le_refl _) (by omega))⟩
  intro j hj hj2
  exact (hSV.block j (by omega) (by omega)).trans (hS.out.block j hj2 (by omega))
end Go.Proofs.YtgomlebemefdcaaDoor

/- Names in one another as bytes: all signs. No condition. -/
namespace Go.Proofs.YtgomlebemefdcaaDoor
open Go Go.RowKit Go.Wk Go.Xt Go.Xe
theorem next_ascii (x : UInt8) (r : List UInt8) (h1 : 32 ≤ x.toNat) (h2 : x.toNat < 128) : (Lib.decodeL (x :: r)).2 = 1 ∧ nextOk (x :: r) = true := by
  have e : Lib.decodeL (x :: r) = (x.toNat, 1) := by
    rw [Lib.decodeL_N]
    unfold Lib.decodeN
    simp [h2]
  unfold nextOk
  rw [e]
  refine ⟨rfl, ?_⟩
  simp [signV, signB, validB]
  omega
theorem signs_ascii : ∀ (l : List UInt8), (∀ x ∈ l, 32 ≤ x.toNat ∧ x.toNat < 128) → signsB l = true := by
  intro l
  induction l with
  | nil => intro _; unfold signsB; rw [partsS_nil]; rfl
  | cons x r ih =>
    intro h
    have hx := h x (by simp)
    obtain ⟨e1, e2⟩ := next_ascii x r hx.1 hx.2
    unfold signsB at ih ⊢
    rw [partsS_cons _ (by simp), e1]
    simp only [List.drop_succ_cons, List.drop_zero, List.all_cons, e2, Bool.true_and]
    exact ih fun y hy => h y (by simp [hy])
def openS (l : List UInt8) : List UInt8 := l.flatMap fun n => [60, n, 62]
def closeS (l : List UInt8) : List UInt8 := l.reverse.flatMap fun n => [60, 47, n, 62]
theorem openS_snoc (l : List UInt8) (n : UInt8) : openS (l ++ [n]) = openS l ++ [60, n, 62] := by simp [openS]
theorem closeS_snoc (l : List UInt8) (n : UInt8) : closeS (l ++ [n]) = [60, 47, n, 62] ++ closeS l := by simp [closeS]
theorem nestS_eq (l : List UInt8) : openS l ++ ([116] ++ closeS l) = nestS l := by
  induction l with
  | nil => rfl
  | cons n l ih =>
    have e1 : openS (n :: l) = [60, n, 62] ++ openS l := by simp [openS]
    have e2 : closeS (n :: l) = closeS l ++ [60, 47, n, 62] := by simp [closeS]
    rw [e1, e2]
    show _ = [60, n, 62] ++ nestS l ++ [60, 47, n, 62]
    rw [← ih]
    simp
theorem nest_len (l : List UInt8) : (nestS l).length = 7 * l.length + 1 := by
  induction l with
  | nil => rfl
  | cons n l ih => simp [nestS, ih]; omega
theorem nest_ascii : ∀ (l : List UInt8), (∀ n ∈ l, low n) → ∀ x ∈ nestS l, 32 ≤ x.toNat ∧ x.toNat < 128 := by
  intro l
  induction l with
  | nil => intro _ x hx; simp [nestS] at hx; subst hx; decide
  | cons n l ih =>
    intro h x hx
    have hn := h n (by simp)
    unfold low at hn
    simp only [nestS, List.mem_append, List.mem_cons, List.not_mem_nil, or_false] at hx
    rcases hx with ((rfl | rfl | rfl) | hx) | (rfl | rfl | rfl | rfl)
    · decide
    · omega
    · decide
    · exact ih (fun y hy => h y (by simp [hy])) x hx
    · decide
    · decide
    · omega
    · decide
/-- the letter of a number -/
def chU (x : UInt8) : UInt8 := UInt8.ofNat (97 + x.toNat % 26)
theorem chU_nat (x : UInt8) : (chU x).toNat = 97 + x.toNat % 26 := by unfold chU; exact UInt8.toNat_ofNat_of_lt' (by show _ < 256; omega)
theorem chU_low (x : UInt8) : low (chU x) := by unfold low; rw [chU_nat]; omega
theorem chs_low (l : List UInt8) : ∀ n ∈ l.map chU, low n := by
  intro n h; obtain ⟨x, _, rfl⟩ := List.mem_map.1 h; exact chU_low x
theorem misc_root (n : UInt8) (h : low n) (r : List UInt8) : Around (60 :: n :: r) (60 :: n :: r) := by
  have e : (60 :: n :: r).drop (ws (60 :: n :: r)) = 60 :: n :: r := by
    have : ws (60 :: n :: r) = 0 := by simp [ws, List.takeWhile_cons, whiteB]
    rw [this]; rfl
  have := Around.stop (60 :: n :: r) (by rw [e]; exact misc_low h r)
  rw [e] at this
  exact this
theorem misc_out : Around [] [] := .stop [] (.no _ (by simp) (by simp))
end Go.Proofs.YtgomlebemefdcaaDoor

/- Parse reads elements in one another, or finds them too deep. No condition. -/
namespace Go.Proofs.YtgomlebemefdcaaDoor
open Go Go.RowKit Go.Wk Go.Xt Go.Xe
theorem conv_bytes (w : World) (s : ByteArray) (hs : s.size ≤ 100000) :
    ∃ c W', (convert 9 22 (.string s)).run Tryd.prog w = .ok (.slice (some ⟨w.heap.size, 0, none⟩) s.size c) W' ∧ Byt W' (some ⟨w.heap.size, 0, none⟩) s.data.toList ∧ Below w.heap.size w W' ∧ s.size ≤ c ∧ W'.heap.size = w.heap.size + 1 := by
  have hcv := Lib.run_convert_string_bytes (P := Tryd.prog) w 9 22 5 s (u := .string) Tryd.underlying9 Tryd.underlying22 Tryd.underlying5
  have hlen : s.data.toList.length = s.size := Array.length_toList
  refine ⟨_, _, hcv, ⟨?_, fun _ => ⟨_, 0, rfl, fun i hi => ?_⟩⟩, ⟨rfl, rfl, rfl, by rw [Lib.bytesWorld_size]; omega, fun k hk => Lib.bytesWorld_at_old _ _ _ _ hk⟩, ?_, Lib.bytesWorld_size _ _ _⟩
  · unfold maxLen; omega
  · have := Lib.bytesWorld_cell w 5 s i (by omega)
    rw [Nat.zero_add, this]
    rw [List.getD_eq_getElem?_getD, List.getElem?_eq_getElem hi]; rfl
  · exact grownCap_ge _ _ _ _
theorem parse_deep {w : World} {A : Option Addr} {c : Nat} {ns : List UInt8} (hb : Byt w A (nestS ns)) (hc : (nestS ns).length ≤ c) (hl : ∀ n ∈ ns, low n) (h1 : 32 < ns.length) (h60 : ns.length ≤ 60) (hT : Lib.Utf8Tabs 0 1 w) (h2 : 2 ≤ w.heap.size) :
    Calls Tryd.prog 9 #[.slice A (nestS ns).length c] w fun e w' => e = .returned (.tuple #[.agg z5, .int .i64 6]) ∧ Below w.heap.size w w' := by
  have hlen := nest_len ns
  have hne : nestS ns ≠ [] := by intro e; rw [e] at hlen; simp at hlen
  refine (xml_Parse (P := fun _ _ vs k => vs = z5 ∧ k = 6) hb hc (by omega) (signs_ascii _ (nest_ascii ns hl)) hT h2 hne fun W hW => ?_).mono ?_
  · have hd := deep_too ns 32 0 [] hl h1 (by omega)
    rw [List.append_nil] at hd
    obtain ⟨n, l, e⟩ : ∃ n l, ns = n :: l := by cases ns with | nil => simp at h1 | cons n l => exact ⟨n, l, rfl⟩
    have ha : Around (nestS ns) (nestS ns) := by
      rw [e]; exact misc_root n (hl n (by rw [e]; simp)) _
    refine (xml_all_deep hW ⟨by simp, Nat.zero_le _⟩ ha hd).mono ?_
    rintro e w' ⟨rfl, hF⟩
    exact ⟨⟨#[]⟩, ⟨#[]⟩, ⟨#[]⟩, none, 0, 0, none, 0, 0, 6, rfl, hF, ⟨rfl, rfl⟩, fun _ => rfl⟩
  · rintro e w' ⟨N0, N1, N2, a1, n1, c1, a2, n2, c2, k, W, W1, rfl, ⟨hv, rfl⟩, _, _, _, hB⟩
    rw [hv]
    exact ⟨rfl, hB⟩
theorem parse_nest {w : World} {A : Option Addr} {c : Nat} {ns : List UInt8} (hb : Byt w A (nestS ns)) (hc : (nestS ns).length ≤ c) (hl : ∀ n ∈ ns, low n) (h1 : 0 < ns.length) (h32 : ns.length ≤ 32) (hT : Lib.Utf8Tabs 0 1 w) (h2 : 2 ≤ w.heap.size) :
    Calls Tryd.prog 9 #[.slice A (nestS ns).length c] w fun e w' => ∃ (N0 N1 N2 : ByteArray) (a1 : Option Addr) (n1 c1 : Nat) (a2 : Option Addr) (n2 c2 : Nat) (bl : List Nat), e = .returned (.tuple #[.agg #[.string N0, .string N1, .string N2, .slice a1 n1 c1, .slice a2 n2 c2], .int .i64 0]) ∧
      NdAt w' (nestN ns) [.string N0, .string N1, .string N2, .slice a1 n1 c1, .slice a2 n2 c2] bl ∧ (∀ k ∈ bl, w.heap.size ≤ k ∧ k < w'.heap.size) ∧ Below w.heap.size w w' := by
  have hlen := nest_len ns
  have hne : nestS ns ≠ [] := by intro e; rw [e] at hlen; simp at hlen
  refine (xml_Parse (P := fun W W1 vs k => k = 0 ∧ ∃ bl, NdAt W1 (nestN ns) vs.toList bl ∧ (∀ j ∈ bl, W.heap.size ≤ j ∧ j < W1.heap.size)) hb hc (by omega) (signs_ascii _ (nest_ascii ns hl)) hT h2 hne fun W hW => ?_).mono ?_
  · have hn0 : ns ≠ [] := by intro e; rw [e] at h1; simp at h1
    have hd := deep_elem ns 32 0 [] hn0 hl h32 (by omega)
    rw [List.append_nil] at hd
    obtain ⟨n, l, e⟩ : ∃ n l, ns = n :: l := by cases ns with | nil => simp at h1 | cons n l => exact ⟨n, l, rfl⟩
    have ha : Around (nestS ns) (nestS ns) := by
      rw [e]; exact misc_root n (hl n (by rw [e]; simp)) _
    refine (xml_all hW ⟨by simp, Nat.zero_le _⟩ ha hd misc_out).mono ?_
    rintro e w' ⟨N, a1, n1, c1, a2, n2, c2, bl, rfl, hN, hbl, hF⟩
    exact ⟨⟨#[]⟩, N, ⟨#[]⟩, a1, n1, c1, a2, n2, c2, 0, rfl, hF, ⟨rfl, bl, hN, hbl⟩, fun h => absurd rfl h⟩
  · rintro e w' ⟨N0, N1, N2, a1, n1, c1, a2, n2, c2, k, W, W1, rfl, ⟨rfl, bl, hN, hbl⟩, h3, h4, h5, hB⟩
    exact ⟨N0, N1, N2, a1, n1, c1, a2, n2, c2, bl, rfl, hN.keep fun j hj => h4 j (hbl j hj).1 (hbl j hj).2, fun j hj => by have := hbl j hj; omega, hB⟩
/-- such an element in memory: its one kid lies in a row -/
theorem nest_cons {w : World} {n : UInt8} {l : List UInt8} {vs : List Value} {bl : List Nat} (h : NdAt w (nestN (n :: l)) vs bl) :
    ∃ g cap us bl' a1 n1 c1, vs = [str [], str [n], str [], .slice a1 n1 c1, .slice (some ⟨g, 0, none⟩) 1 cap] ∧ NdAt w (nestN l) us bl' ∧ (∀ j (hj : j < 5), w.cell? ⟨g, j, none⟩ = us[j]?) ∧ g < w.heap.size ∧ g ∈ bl ∧ (∀ j ∈ bl', j ∈ bl) := by
  have h : NdAt w (.el [n] [] [nestN l]) vs bl := h
  cases h with
  | el nm l' ks va vk ba bk ha hk =>
    have hva : ∃ a1 n1 c1, va = .slice a1 n1 c1 := by
      rcases ha with ⟨_, rfl, _⟩ | ⟨g, cap, rfl, _⟩
      · exact ⟨_, _, _, rfl⟩
      · exact ⟨_, _, _, rfl⟩
    obtain ⟨a1, n1, c1, rfl⟩ := hva
    cases hk with
    | row ks g cap vs b ho hr =>
      cases hr with
      | cons k ks us vss b bs hn hr =>
        cases hr with
        | nil =>
          have hl := ho.1
          rw [List.append_nil] at ho hl
          have hlt : g < w.heap.size := by
            have := ho.cellAt 0 (by simp)
            rw [List.getElem?_eq_getElem (by rw [hl]; simp)] at this
            exact cell_lt this
          exact ⟨g, cap, us, b, a1, n1, c1, rfl, hn, fun j hj => ho.cellAt j (by simpa using hj), hlt, by simp, fun j hj => by simp [hj]⟩
theorem nest_shape {w : World} : ∀ {l : List UInt8} {vs : List Value} {bl : List Nat}, NdAt w (nestN l) vs bl →
    ∃ (N0 N1 N2 : ByteArray) (a1 : Option Addr) (n1 c1 : Nat) (a2 : Option Addr) (n2 c2 : Nat), vs = [.string N0, .string N1, .string N2, .slice a1 n1 c1, .slice a2 n2 c2] := by
  intro l vs bl h
  cases l with
  | nil =>
    have h : NdAt w (.tx [116]) vs bl := h
    cases h with
    | tx t => exact ⟨_, _, _, _, _, _, _, _, _, rfl⟩
  | cons n l =>
    obtain ⟨g, cap, us, bl', a1, n1, c1, rfl, _⟩ := nest_cons h
    exact ⟨_, _, _, _, _, _, _, _, _, rfl⟩
theorem nest_nil {w : World} {vs : List Value} {bl : List Nat} (h : NdAt w (nestN []) vs bl) : vs = [str [], str [], str [116], .slice none 0 0, .slice none 0 0] := by
  have h : NdAt w (.tx [116]) vs bl := h
  cases h with
  | tx t => rfl
end Go.Proofs.YtgomlebemefdcaaDoor

/- A builder's text, the row behind the builder's block: what else it leaves as it lay. No condition. -/
namespace Go.Proofs.YtgomlebemefdcaaDoor
open Go Go.RowKit Go.Wk Go.Xt
/-- a builder in block g whose row lies behind block g + 1 -/
def BldR (g : Nat) (bs : List Value) (w : World) : Prop :=
  ∃ p v, (p = .pointer none ∨ p = .pointer (some ⟨g, 0, none⟩)) ∧ w.heap[g]? = some (.cells #[p, v] 52 (0, 0)) ∧ w.ownsRow (g + 2) 5 1 v bs.length bs
theorem row_less {w : World} {B B' e s n : Nat} {v : Value} {xs : List Value} (h : w.ownsRow B e s v n xs) (hB : B' ≤ B) : w.ownsRow B' e s v n xs :=
  ⟨h.1, h.2.imp id fun ⟨g, cap, cur, h1, h2, h3⟩ => ⟨g, cap, cur, h1, Nat.le_trans hB h2, h3⟩⟩
theorem row_ne {w : World} {B e s n g : Nat} {v : Value} {xs : List Value} (h : w.ownsRow B e s v n xs) (hB : g < B) : v.ownBlock ≠ some g := by
  rcases h.2 with ⟨rfl, _⟩ | ⟨g', cap, cur, rfl, hb, _⟩
  · simp [Value.ownBlock]
  · simp [Value.ownBlock]; omega
theorem BldR.is {g : Nat} {bs : List Value} {w : World} (h : BldR g bs w) : Lib.IsBuilder 52 5 g g bs w := by
  obtain ⟨p, v, hp, hg, ho⟩ := h
  rcases hp with rfl | rfl
  · exact .inl ⟨Nat.le_refl _, v, hg, row_less ho (by omega), row_ne ho (by omega)⟩
  · exact .inr ⟨Nat.le_refl _, v, hg, row_less ho (by omega), row_ne ho (by omega)⟩
theorem BldR.keep {g : Nat} {bs : List Value} {w w' : World} (h : BldR g bs w) (hk : ∀ (k : Nat) (o : Obj), w.heap[k]? = some o → (k = g ∨ g + 2 ≤ k) → o.isCells = true → w'.heap[k]? = some o) : BldR g bs w' := by
  obtain ⟨p, v, hp, hg, ho⟩ := h
  refine ⟨p, v, hp, hk g _ hg (.inl rfl) rfl, ho.1, ?_⟩
  rcases ho.2 with h3 | ⟨g', cap, cur, h1, h2, h3, rest⟩
  · exact .inl h3
  · exact .inr ⟨g', cap, cur, h1, h2, hk g' _ h3 (.inr h2) rfl, rest⟩
theorem BldR.below {g : Nat} {bs : List Value} {w w' : World} (h : BldR g bs w) (hb : Below w.heap.size w w') : BldR g bs w' :=
  h.keep fun k o hk _ _ => (hb.block k (Array.getElem?_eq_some_iff.1 hk).1).trans hk
theorem BldR.soft {g B0 : Nat} {bs : List Value} {w w' : World} (h : BldR g bs w) (s : Soft (g + 1) B0 w w') : BldR g bs w' :=
  h.keep fun k o hk h1 h2 => s.block k o hk (by omega) (.inr h2)
/-- only the builder's blocks are touched -/
structure OB (g : Nat) (w w' : World) : Prop where
  os : w'.os = w.os
  tape : w'.tape = w.tape
  output : w'.output = w.output
  size : w.heap.size ≤ w'.heap.size
  block : ∀ (k : Nat) (o : Obj), w.heap[k]? = some o → k ≠ g → (k < g + 2 ∨ o.isCells = false) → w'.heap[k]? = some o
theorem OB.refl (g : Nat) (w : World) : OB g w w := ⟨rfl, rfl, rfl, Nat.le_refl _, fun _ _ h _ _ => h⟩
theorem OB.trans {g : Nat} {a b c : World} (h : OB g a b) (k : OB g b c) : OB g a c := ⟨k.os.trans h.os, k.tape.trans h.tape, k.output.trans h.output, Nat.le_trans h.size k.size, fun i o hi h1 h2 => k.block i o (h.block i o hi h1 h2) h1 h2⟩
theorem OB.setCell (g : Nat) (w : World) (i : Nat) (u : Value) : OB g w (w.setCell ⟨g, i, none⟩ u) :=
  ⟨rfl, rfl, rfl, by simp [World.setCell], fun k o hk h1 _ => (Below.heap_setCell w ⟨g, i, none⟩ u k h1).trans hk⟩
theorem OB.grown {g : Nat} {w w' : World} {row : Option Nat} (hg : w.grownBy w' row) (hrow : ∀ j o, row = some j → w.heap[j]? = some o → g + 2 ≤ j ∧ o.isCells = true) : OB g w w' :=
  ⟨hg.os, hg.tape, hg.output, hg.size, fun k o hk _ h2 => (hg.block k (Array.getElem?_eq_some_iff.1 hk).1 (fun e => by
    obtain ⟨h3, h4⟩ := hrow k o e.symm hk
    rcases h2 with h2 | h2
    · omega
    · rw [h4] at h2; cases h2)).trans hk⟩
theorem OB.of_below {g : Nat} {w w' : World} (h : Below w.heap.size w w') : OB g w w' := ⟨h.os, h.tape, h.output, h.size, fun k o hk _ _ => (h.block k (Array.getElem?_eq_some_iff.1 hk).1).trans hk⟩
theorem OB.others {g : Nat} {w w' : World} (h : OB g w w') (hg : ∃ o, w.heap[g]? = some o ∧ o.isCells = true) : KeepsOthers w w' :=
  ⟨h.size, fun k o hk ho => h.block k o hk (fun e => by
    obtain ⟨o', h1, h2⟩ := hg
    subst e; rw [hk] at h1; cases h1; rw [ho] at h2; cases h2) (.inr ho)⟩
theorem OB.kept {g G : Nat} {w w' : World} (h : OB g w w') (hG : G ≤ g) (hs : g + 1 < w.heap.size) : Kept G (g + 1) w w' :=
  ⟨h.size, by rw [Array.getElem?_eq_getElem hs]; exact h.block _ _ (Array.getElem?_eq_getElem hs) (by omega) (.inl (by omega)), fun k hk => by
    have : k < w.heap.size := by omega
    rw [Array.getElem?_eq_getElem this]; exact h.block _ _ (Array.getElem?_eq_getElem this) (by omega) (.inl (by omega))⟩
theorem OB.below {g n : Nat} {u w w' : World} (h : OB g w w') (k : Below n u w) (hn : n ≤ g) (hu : n ≤ u.heap.size) : Below n u w' :=
  ⟨h.os.trans k.os, h.tape.trans k.tape, h.output.trans k.output, Nat.le_trans k.size h.size, fun j hj => by
    have hl : j < w.heap.size := by have := k.size; omega
    rw [← k.block j hj, Array.getElem?_eq_getElem hl]
    exact h.block j _ (Array.getElem?_eq_getElem hl) (by omega) (.inl (by omega))⟩
theorem bld_check_r (b : Nat) (bs : List Value) (w : World) (h : BldR b bs w) :
    Calls Tryd.prog 29 #[.pointer (some ⟨b, 0, none⟩)] w fun e w' => e = .returned (.tuple #[]) ∧ (∃ v, w'.heap[b]? = some (.cells #[.pointer (some ⟨b, 0, none⟩), v] 52 (0, 0)) ∧ w'.ownsRow (b + 2) 5 1 v bs.length bs) ∧ OB b w w' := by
  have hi := h.is
  obtain ⟨p, v, hp, hb, ho⟩ := h
  rcases hp with rfl | rfl
  · have hA : Lib.BuilderAt 52 5 b b (.pointer none) bs w := ⟨Nat.le_refl _, v, hb, row_less ho (by omega), row_ne ho (by omega)⟩
    refine (bld_check_fresh b w hA.cell0 hA.shape hA.frozen0).mono ?_
    rintro e w' ⟨rfl, rfl⟩
    have hbk : Blk w b 52 #[.pointer none, v] := hb
    have hbk2 := hbk.set_ 0 (.pointer (some ⟨b, 0, none⟩))
    refine ⟨rfl, ⟨v, hbk2, ho.1, ?_⟩, OB.setCell b w 0 _⟩
    rcases ho.2 with h3 | ⟨g', cap, cur, h1, h2, h3, rest⟩
    · exact .inl h3
    · exact .inr ⟨g', cap, cur, h1, h2, (Below.heap_setCell w ⟨b, 0, none⟩ _ g' (by show g' ≠ b; omega)).trans h3, rest⟩
  · have hA : Lib.BuilderAt 52 5 b b (.pointer (some ⟨b, 0, none⟩)) bs w := ⟨Nat.le_refl _, v, hb, row_less ho (by omega), row_ne ho (by omega)⟩
    refine (bld_check_used b w hA.cell0).mono ?_
    rintro e w' ⟨rfl, rfl⟩
    exact ⟨rfl, ⟨v, hb, ho⟩, OB.refl b _⟩
set_option maxHeartbeats 2000000 in
set_option maxRecDepth 100000 in
theorem bld_str_r (b : Nat) (bs : List Value) (s : ByteArray) (w : World) (h : BldR b bs w) (hlen : bs.length + s.size ≤ 140737488355328) (hBw : b + 2 ≤ w.heap.size) :
    Calls Tryd.prog 18 #[.pointer (some ⟨b, 0, none⟩), .string s] w fun e w' => e = .returned (.tuple #[.int .i64 s.size, .nilIface]) ∧ BldR b (bs ++ Lib.strCells s) w' ∧ OB b w w' := by
  obtain ⟨i0, hi, hz0, hz1, hz2⟩ := byte_info
  go_enter Tryd.func18, Tryd.ntmps18
  go_wp2_with (go_at_call 29; refine (bld_check_r b bs _ h).mono ?_)
  rintro e w1 ⟨rfl, ⟨v, hbk, hown⟩, hb1⟩
  have hne := row_ne hown (by omega : b < b + 2)
  replace hb1 := Lib.hid hb1
  have c0 : w1.cell? ⟨b, 0, none⟩ = some (.pointer (some ⟨b, 0, none⟩)) := by rw [Lib.cell_of_heap hbk]; rfl
  have c1 : w1.cell? ⟨b, 1, none⟩ = some v := by rw [Lib.cell_of_heap hbk]; rfl
  go_wp2_with (at_builtin; refine Lib.wpList_append_own_string _ rfl _ _ 22 9 rfl (b + 2) 5 i0 Tryd.underlying22 Tryd.underlying9 hi hz0 hz1 hz2 _ _ _ rfl hown s rfl ?c3 ?c4 ?c5 ?_)
  case c3 => unfold maxLen; omega
  case c4 => omega
  case c5 => have := hb1.out.size; omega
  intro v' w2 hown' hgrow _
  have hlt : b < w1.heap.size := by
    rcases Nat.lt_or_ge b w1.heap.size with h' | h'
    · exact h'
    · simp [Array.getElem?_eq_none h'] at hbk
  have hb2 : w2.heap[b]? = some (.cells #[.pointer (some ⟨b, 0, none⟩), v] 52 (0, 0)) := by
    rw [hgrow.block b hlt (fun e => hne e.symm)]
    exact hbk
  have d0 : w2.cell? ⟨b, 0, none⟩ = some (.pointer (some ⟨b, 0, none⟩)) := by rw [Lib.cell_of_heap hb2]; rfl
  have d1 : w2.cell? ⟨b, 1, none⟩ = some v := by rw [Lib.cell_of_heap hb2]; rfl
  have f1 : w2.frozen? ⟨b, 1, none⟩ = false := Lib.frozen_of_heap hb2 1
  obtain ⟨ao, n', cap, rfl⟩ : ∃ ao n' cap, v' = .slice ao n' cap := by
    rcases hown'.2 with ⟨hv, _⟩ | ⟨g, cap, cur, hv, _⟩
    · exact ⟨_, _, _, hv⟩
    · exact ⟨_, _, _, hv⟩
  go_wp2
  go_ret2
  have hbk2 : Blk w2 b 52 #[.pointer (some ⟨b, 0, none⟩), v] := hb2
  have hbk3 := hbk2.set_ 1 (.slice ao n' cap)
  refine ⟨rfl, ⟨_, _, .inr rfl, hbk3, ?_⟩, (hb1.out.trans (OB.grown hgrow fun j o hj ho => ?_)).trans (OB.setCell b w2 1 _)⟩
  · have ho2 : w2.ownsRow (b + 2) 5 1 (.slice ao n' cap) (bs ++ Lib.strCells s).length (bs ++ Lib.strCells s) := by simpa [Lib.strCells_length] using hown'
    refine ⟨ho2.1, ?_⟩
    rcases ho2.2 with h3 | ⟨g', cap', cur, h1, h2, h3, rest⟩
    · exact .inl h3
    · exact .inr ⟨g', cap', cur, h1, h2, (Below.heap_setCell w2 ⟨b, 1, none⟩ _ g' (by show g' ≠ b; omega)).trans h3, rest⟩
  · rcases hown.2 with ⟨rfl, _⟩ | ⟨g, cap, cur, rfl, h2, hh, _⟩
    · cases hj
    · cases hj
      rw [hh] at ho
      exact ⟨h2, by rw [← Option.some.inj ho]; rfl⟩
end Go.Proofs.YtgomlebemefdcaaDoor

/- strings.Repeat, at this program's numbers. No condition. -/
namespace Go.Proofs
open Go.Shelf
def Tryd.lays105_ren : Go.Shelf.Ren := ⟨fun | 105 => 21 | 212 => 32 | 99 => 33 | 165 => 34 | 166 => 18 | 170 => 35 | 169 => 19 | 263 => 44 | 264 => 45 | 206 => 46 | 240 => 29 | 241 => 47 | 276 => 42 | 277 => 56 | n => n, fun | 9 => 9 | 3 => 3 | 4 => 4 | 20 => 20 | 0 => 0 | 46 => 32 | 109 => 77 | 5 => 5 | 72 => 52 | 76 => 55 | 51 => 89 | 146 => 90 | 53 => 92 | 148 => 93 | 70 => 50 | 37 => 22 | 75 => 54 | 127 => 73 | 164 => 87 | 80 => 57 | n => n, fun | n => n⟩
theorem Tryd.lays105 : Go.Proofs.Lays.n105 Tryd.prog Tryd.lays105_ren := {
  mixed := by kernel_rfl
  f99 := Tryd.func33.trans (congrArg some (by kernel_rfl))
  f105 := Tryd.func21.trans (congrArg some (by kernel_rfl))
  f165 := Tryd.func34.trans (congrArg some (by kernel_rfl))
  f166 := Tryd.func18.trans (congrArg some (by kernel_rfl))
  f169 := Tryd.func19.trans (congrArg some (by kernel_rfl))
  f170 := Tryd.func35.trans (congrArg some (by kernel_rfl))
  f206 := Tryd.func46.trans (congrArg some (by kernel_rfl))
  f212 := Tryd.func32.trans (congrArg some (by kernel_rfl))
  f240 := Tryd.func29.trans (congrArg some (by kernel_rfl))
  f241 := Tryd.func47.trans (congrArg some (by kernel_rfl))
  f263 := Tryd.func44.trans (congrArg some (by kernel_rfl))
  f264 := Tryd.func45.trans (congrArg some (by kernel_rfl))
  f276 := Tryd.func42.trans (congrArg some (by kernel_rfl))
  f277 := Tryd.func56.trans (congrArg some (by kernel_rfl))
  t0 := Tryd.underlying0
  a0 := Tryd.isAgg0
  z0 := Tryd.sizeOf0
  v0 := Tryd.zeroValue0
  t3 := Tryd.underlying3
  a3 := Tryd.isAgg3
  z3 := Tryd.sizeOf3
  v3 := Tryd.zeroValue3
  t4 := Tryd.underlying4
  a4 := Tryd.isAgg4
  z4 := Tryd.sizeOf4
  v4 := Tryd.zeroValue4
  t5 := Tryd.underlying5
  a5 := Tryd.isAgg5
  z5 := Tryd.sizeOf5
  v5 := Tryd.zeroValue5
  t9 := Tryd.underlying9
  a9 := Tryd.isAgg9
  z9 := Tryd.sizeOf9
  v9 := Tryd.zeroValue9
  t20 := Tryd.underlying20
  a20 := Tryd.isAgg20
  z20 := Tryd.sizeOf20
  v20 := Tryd.zeroValue20
  t37 := Tryd.underlying22
  a37 := Tryd.isAgg22
  z37 := Tryd.sizeOf22
  v37 := Tryd.zeroValue22
  t46 := Tryd.underlying32
  a46 := Tryd.isAgg32
  z46 := Tryd.sizeOf32
  v46 := Tryd.zeroValue32
  t51 := Tryd.underlying89
  a51 := Tryd.isAgg89
  z51 := Tryd.sizeOf89
  v51 := Tryd.zeroValue89
  t53 := Tryd.underlying92
  a53 := Tryd.isAgg92
  z53 := Tryd.sizeOf92
  v53 := Tryd.zeroValue92
  t70 := Tryd.underlying50
  a70 := Tryd.isAgg50
  z70 := Tryd.sizeOf50
  v70 := Tryd.zeroValue50
  t72 := Tryd.underlying52
  a72 := Tryd.isAgg52
  z72 := Tryd.sizeOf52
  v72 := Tryd.zeroValue52
  t75 := Tryd.underlying54
  a75 := Tryd.isAgg54
  z75 := Tryd.sizeOf54
  v75 := Tryd.zeroValue54
  t76 := Tryd.underlying55
  a76 := Tryd.isAgg55
  z76 := Tryd.sizeOf55
  v76 := Tryd.zeroValue55
  t109 := Tryd.underlying77
  a109 := Tryd.isAgg77
  z109 := Tryd.sizeOf77
  v109 := Tryd.zeroValue77
  t127 := Tryd.underlying73
  a127 := Tryd.isAgg73
  z127 := Tryd.sizeOf73
  v127 := Tryd.zeroValue73
  t146 := Tryd.underlying90
  a146 := Tryd.isAgg90
  z146 := Tryd.sizeOf90
  v146 := Tryd.zeroValue90
  t148 := Tryd.underlying93
  a148 := Tryd.isAgg93
  z148 := Tryd.sizeOf93
  v148 := Tryd.zeroValue93
  t164 := Tryd.underlying87
  a164 := Tryd.isAgg87
  z164 := Tryd.sizeOf87
  v164 := Tryd.zeroValue87 }
theorem Tryd.Builder_Extra_105 : Builder.Extra Tryd.prog Tryd.lays105_ren := {
  sizeBuilder := by kernel_rfl
  liesBuilder := by kernel_rfl
  t5 := Tryd.underlying5
  a5 := Tryd.isAgg5
  z5 := Tryd.sizeOf5
  v5 := Tryd.zeroValue5
  infoByte := by kernel_rfl
  cellsByte := by kernel_rfl
  sizeByte := by kernel_rfl
  neB5 := by decide }
open Go.RowKit Go.Lib in
theorem Tryd.strings_Repeat_main (s : ByteArray) (c : Nat) (w : World) (hc2 : 2 ≤ c) (hc : c ≤ 9223372036854775807) (hlen : s.size * c ≤ 140737488355328) (h0 : 0 < s.size) :
    Calls Tryd.prog 21 #[.string s, .int .i64 c] w fun e w' => e = .returned (.string ⟨(Lib.repeatL s.data.toList c).toArray⟩) ∧ Below w.heap.size w w' := Any.strings_Repeat_main Tryd.lays105 Tryd.Builder_Extra_105 s c w hc2 hc hlen h0
open Go.RowKit Go.Lib in
theorem Tryd.strings_Repeat_one (s : ByteArray) (w : World) :
    Calls Tryd.prog 21 #[.string s, .int .i64 1] w fun e w' => e = .returned (.string s) ∧ w' = w := Any.strings_Repeat_one Tryd.lays105 s w
end Go.Proofs

/- xml.Escape: a text as it stands in a text. No condition. -/
namespace Go.Proofs.YtgomlebemefdcaaDoor
open Go Go.RowKit Go.Wk Go.Xt Go.Shelf
attribute [local go_sem] Oper.semAt_some
/-- a sign as it stands in a text -/
def escP (x : List UInt8 × Bool) : List UInt8 :=
  if x.2 = false then List.replicate x.1.length 63
  else if x.1 = [60] then [38, 108, 116, 59] else if x.1 = [62] then [38, 103, 116, 59] else if x.1 = [38] then [38, 97, 109, 112, 59]
  else if x.1 = [34] then [38, 113, 117, 111, 116, 59] else if x.1 = [39] then [38, 97, 112, 111, 115, 59] else if x.1 = [13] then [38, 35, 49, 51, 59] else x.1
def escS (l : List UInt8) : List UInt8 := (partsS l).flatMap escP
theorem part_len : ∀ (n : Nat) (l : List UInt8), l.length ≤ n → ∀ x ∈ partsS l, 1 ≤ x.1.length ∧ x.1.length ≤ l.length := by
  intro n
  induction n with
  | zero =>
    intro l hl x hx
    have : l = [] := List.eq_nil_of_length_eq_zero (by omega)
    subst this
    rw [partsS_nil] at hx; cases hx
  | succ n ih =>
    intro l hl x hx
    by_cases h : l = []
    · subst h; rw [partsS_nil] at hx; cases hx
    · rw [partsS_cons l h] at hx
      have hw := Lib.decodeL_width l
      have hp : 0 < l.length := List.length_pos_iff.2 h
      rcases List.mem_cons.1 hx with rfl | hx
      · simp; omega
      · have := ih (l.drop (Lib.decodeL l).2) (by simp; omega) x hx
        simp at this
        omega
theorem escP_len (x : List UInt8 × Bool) (h : 1 ≤ x.1.length) : (escP x).length ≤ 6 * x.1.length := by
  unfold escP
  split
  · simp; omega
  · repeat (split; · simp; try omega)
    omega
theorem flat_len : ∀ (n : Nat) (l : List UInt8), l.length ≤ n → (escS l).length ≤ 6 * l.length := by
  intro n
  induction n with
  | zero =>
    intro l hl
    have : l = [] := List.eq_nil_of_length_eq_zero (by omega)
    subst this
    unfold escS; rw [partsS_nil]; simp
  | succ n ih =>
    intro l hl
    by_cases h : l = []
    · subst h; unfold escS; rw [partsS_nil]; simp
    · have hw := Lib.decodeL_width l
      have hp : 0 < l.length := List.length_pos_iff.2 h
      have h1 := part_len l.length l (Nat.le_refl _) (l.take (Lib.decodeL l).2, nextOk l) (by rw [partsS_cons l h]; simp)
      have h2 := escP_len (l.take (Lib.decodeL l).2, nextOk l) h1.1
      have h3 := ih (l.drop (Lib.decodeL l).2) (by simp; omega)
      unfold escS at h3 ⊢
      rw [partsS_cons l h, List.flatMap_cons, List.length_append]
      have e2 : (List.take (Lib.decodeL l).2 l, nextOk l).1.length = min (Lib.decodeL l).2 l.length := List.length_take
      rw [e2] at h2
      rw [List.length_drop] at h3
      omega
theorem pre_len {l : List UInt8} {pre : List (List UInt8 × Bool)} (h : pre <+: partsS l) : (pre.flatMap escP).length ≤ 6 * l.length := by
  obtain ⟨t, ht⟩ := h
  have := flat_len l.length l (Nat.le_refl _)
  unfold escS at this
  rw [← ht, List.flatMap_append, List.length_append] at this
  omega
theorem repeat_one (c : Nat) : Lib.repeatL [63] c = List.replicate c 63 := by
  induction c with
  | zero => rfl
  | succ c ih => rw [Lib.repeatL, ih]; rfl
theorem rep_marks (c : Nat) (h1 : 1 ≤ c) (h2 : c ≤ 100000 := by omega) : ∀ w : World, Calls Tryd.prog 21 #[.string ⟨#[63]⟩, .int .i64 c] w fun e w' => e = .returned (.string ⟨(List.replicate c 63).toArray⟩) ∧ Below w.heap.size w w' := by
  intro w
  by_cases h : c = 1
  · subst h
    refine (Tryd.strings_Repeat_one ⟨#[63]⟩ w).mono ?_
    rintro e w' ⟨rfl, rfl⟩
    exact ⟨rfl, Below.refl _ _⟩
  · have := Tryd.strings_Repeat_main ⟨#[63]⟩ c w (by omega) (by omega) (by show 1 * c ≤ _; omega) (by decide)
    rw [show Lib.repeatL (⟨#[63]⟩ : ByteArray).data.toList c = List.replicate c 63 from repeat_one c] at this
    exact this
set_option maxHeartbeats 4000000 in
set_option maxRecDepth 100000 in
theorem xml_Escape {w : World} {bs : List UInt8} (hl : bs.length ≤ 100000) (hT : Lib.Utf8Tabs 0 1 w) (h2 : 2 ≤ w.heap.size) :
    Calls Tryd.prog 13 #[str bs] w fun e w' => e = .returned (str (escS bs)) ∧ Below w.heap.size w w' := by
  have cs := fun (w : World) => xml_signs (w := w) ⟨bs.toArray⟩
  have f83 : Fence.wide.fn 20 := trivial
  have hstr : str bs = .string ⟨bs.toArray⟩ := rfl
  rw [hstr]
  replace hT := Lib.hid hT
  replace hstr := Lib.hid hstr
  refine (callsIn_wide (n := 0)).1 ?_
  refine callsIn_of_wp_marks Tryd.func13 rfl trivial ?_ rfl
  simp only [Tryd.ntmps13, List.size_toArray, List.length_cons, List.length_nil, Nat.reduceAdd, Nat.reduceSub, Array.replicate_succ, Array.replicate_zero, List.push_toArray, List.append_toArray, List.nil_append, List.cons_append]
  gi_wp2_with (refine ⟨rfl, ?_⟩; gi_at_call 20; refine (callsIn_wide.2 (cs _)).mono ?_; rintro e w' ⟨rfl, rfl⟩)
  obtain ⟨W0, hW0⟩ : ∃ W0, W0 = (w.alloc (.cells #[.pointer none, .slice none 0 0] 52)).alloc (.cells #[.string ⟨bs.toArray⟩] 9) := ⟨_, rfl⟩
  rw [← hW0]
  have hz0 : W0.heap.size = w.heap.size + 2 := by rw [hW0, World.size_alloc, World.size_alloc]
  have hB0 : Below w.heap.size w W0 := by rw [hW0]; exact ((Below.refl _ _).alloc (Nat.le_refl _) _).alloc (by simp) _
  have hr0 : BldR w.heap.size [] W0 := by
    have : Blk W0 w.heap.size 52 #[.pointer none, .slice none 0 0] := by rw [hW0]; exact (Blk.new w 52 _).alloc _
    exact ⟨_, _, .inl rfl, this, World.ownsRow_nil _ _ _ _⟩
  have hs0 : Blk W0 (w.heap.size + 1) 9 #[str bs] := by
    rw [hW0, ← World.size_alloc w (.cells #[.pointer none, .slice none 0 0] 52)]; exact Blk.new _ 9 _
  have hT0 : Lib.Utf8Tabs 0 1 W0 := tabs_kept hT.out (hB0.block 0 (by omega)) (hB0.block 1 (by omega))
  replace hW0 := Lib.hid hW0
  have f18 : Fence.wide.fn 18 := trivial
  have f21 : Fence.wide.fn 21 := trivial
  have f19 : Fence.wide.fn 19 := trivial
  refine range_B (gf := 30) (lb := #[.pointer (some ⟨w.heap.size + 1, 0, none⟩)]) rfl (enters_of Tryd.func30 (by kernel_rfl) rfl) (signs_stops bs hl (by omega) hs0 hT0) (Kept.refl _ _ _) (by omega) (by omega) (fun _ => rfl)
    (fun pre W => BldR w.heap.size (Lib.byteCells (pre.flatMap escP)) W ∧ Below w.heap.size w W ∧ w.heap.size + 2 ≤ W.heap.size)
    (fun _ _ _ => False)
    (fun pre U V h s => ⟨h.1.soft s, s.below h.2.1 (by omega) (by omega) (Nat.le_refl _), Nat.le_trans h.2.2 s.size⟩)
    (fun c pre U V h s => h)
    ⟨hr0, hB0, by omega⟩
    (fun x => { tmps := #[.string ⟨bs.toArray⟩, undef, .string ⟨#[]⟩, .pointer (some ⟨w.heap.size, 0, none⟩), str x.1, .bool x.2, .string ⟨bs.toArray⟩, .func (.func 30) #[] #[.pointer (some ⟨w.heap.size + 1, 0, none⟩)], str x.1, .bool x.2, undef, undef, undef, undef, undef, undef, undef, undef, undef, undef, undef, undef, undef, undef, undef, undef, undef, undef, undef, undef, undef, undef, undef, undef, undef, undef, undef], defers := [] }) ?assign ?body ?done ?stop
  case assign =>
    intro l x W K hK
    unfold encP
    gi_wp2
    exact hK
  case body =>
    rintro l pre ⟨P, ok⟩ W ⟨hb, hB, hz⟩ hpre
    have hlen := pre_len hpre
    have hP : 1 ≤ P.length := (part_len bs.length bs (Nat.le_refl _) (P, ok) (by obtain ⟨t, ht⟩ := hpre; rw [← ht]; simp)).1
    have hP2 : P.length ≤ 100000 := Nat.le_trans (part_len bs.length bs (Nat.le_refl _) (P, ok) (by obtain ⟨t, ht⟩ := hpre; rw [← ht]; simp)).2 hl
    rw [List.flatMap_append, List.length_append] at hlen
    have hone : [(P, ok)].flatMap escP = escP (P, ok) := by simp
    rw [hone] at hlen
    obtain ⟨o, ho⟩ : ∃ o, o = pre.flatMap escP := ⟨_, rfl⟩
    rw [← ho] at hb hlen
    have goal_of : ∀ V, OB w.heap.size W V → BldR w.heap.size (Lib.byteCells (o ++ escP (P, ok))) V → KeepsOthers W V ∧ Kept 2 (w.heap.size + 1) W V ∧ BldR w.heap.size (Lib.byteCells ((pre ++ [(P, ok)]).flatMap escP)) V ∧ Below w.heap.size w V ∧ w.heap.size + 2 ≤ V.heap.size := fun V hV hbV => by
      refine ⟨hV.others ?_, hV.kept (by omega) (by omega), ?_, hV.below hB (Nat.le_refl _) (Nat.le_refl _), Nat.le_trans hz hV.size⟩
      · obtain ⟨p, v, _, hg, _⟩ := hb
        exact ⟨_, hg, rfl⟩
      · rw [List.flatMap_append, hone, ← ho]; exact hbV
    have cw : ∀ W1, Below W.heap.size W W1 → ∀ S : ByteArray, S.data.toList = escP (P, ok) → Calls Tryd.prog 18 #[.pointer (some ⟨w.heap.size, 0, none⟩), .string S] W1 fun e w' => e = .returned (.tuple #[.int .i64 S.size, .nilIface]) ∧ OB w.heap.size W w' ∧ BldR w.heap.size (Lib.byteCells (o ++ escP (P, ok))) w' := fun W1 h1 S hS => by
      have hSl : S.size = (escP (P, ok)).length := by rw [← hS, Array.length_toList]; rfl
      refine (bld_str_r w.heap.size (Lib.byteCells o) S W1 (hb.below h1) (by rw [bcells_len, hSl]; omega) (by have := h1.size; omega)).mono ?_
      rintro e w' ⟨rfl, hb2, ho2⟩
      refine ⟨rfl, (OB.of_below h1).trans ho2, ?_⟩
      have : Lib.byteCells o ++ Lib.strCells S = Lib.byteCells (o ++ escP (P, ok)) := by rw [bcells_app, ← hS]; rfl
      rw [← this]; exact hb2
    replace goal_of := Lib.hid goal_of
    replace hb := Lib.hid hb
    replace hB := Lib.hid hB
    replace ho := Lib.hid ho
    clear hlen hone hpre
    cases ok with
    | false =>
      have he : escP (P, false) = List.replicate P.length 63 := by simp [escP]
      have cR := rep_marks P.length hP hP2
      have c18 := fun W1 h1 => cw W1 h1 ⟨(List.replicate P.length 63).toArray⟩ (by rw [he])
      generalize (⟨(List.replicate P.length 63).toArray⟩ : ByteArray) = S at *
      have hPs : (⟨P.toArray⟩ : ByteArray).size = P.length := by show P.toArray.size = _; simp
      have hPB : str P = .string ⟨P.toArray⟩ := rfl
      simp only [hPB]
      generalize (⟨P.toArray⟩ : ByteArray) = PB at *
      generalize P.length = m at *
      replace c18 := Lib.hid c18
      clear he cw hPB
      gi_wp2_with (first
        | (refine ⟨rfl, ?_⟩; gi_at_call 21; refine ((callsIn_wide.2 (cR _)).inRound l).mono ?_; rintro e w1 ⟨rfl, b1⟩; have k1 := c18.out _ b1)
        | (refine ⟨rfl, ?_⟩; gi_at_call 18; refine ((callsIn_wide.2 k1).inRound l).mono ?_; rintro e w2 ⟨rfl, ob, hb1⟩))
      exact goal_of.out _ ob hb1
    | true =>
      by_cases h60 : P = [60]
      · subst h60
        have c18 := cw W (Below.refl _ _) ⟨#[38, 108, 116, 59]⟩ (by simp [escP])
        replace goal_of := goal_of
        clear cw
        have hPB : str [60] = .string ⟨#[60]⟩ := rfl
        simp only [hPB]
        gi_wp2_with (refine ⟨rfl, ?_⟩; gi_at_call 18; refine ((callsIn_wide.2 c18).inRound l).mono ?_; rintro e w2 ⟨rfl, ob, hb1⟩)
        exact goal_of.out _ ob hb1
      by_cases h62 : P = [62]
      · subst h62
        have c18 := cw W (Below.refl _ _) ⟨#[38, 103, 116, 59]⟩ (by simp [escP])
        replace goal_of := goal_of
        clear cw
        have hPB : str [62] = .string ⟨#[62]⟩ := rfl
        simp only [hPB]
        gi_wp2_with (refine ⟨rfl, ?_⟩; gi_at_call 18; refine ((callsIn_wide.2 c18).inRound l).mono ?_; rintro e w2 ⟨rfl, ob, hb1⟩)
        exact goal_of.out _ ob hb1
      by_cases h38 : P = [38]
      · subst h38
        have c18 := cw W (Below.refl _ _) ⟨#[38, 97, 109, 112, 59]⟩ (by simp [escP])
        replace goal_of := goal_of
        clear cw
        have hPB : str [38] = .string ⟨#[38]⟩ := rfl
        simp only [hPB]
        gi_wp2_with (refine ⟨rfl, ?_⟩; gi_at_call 18; refine ((callsIn_wide.2 c18).inRound l).mono ?_; rintro e w2 ⟨rfl, ob, hb1⟩)
        exact goal_of.out _ ob hb1
      by_cases h34 : P = [34]
      · subst h34
        have c18 := cw W (Below.refl _ _) ⟨#[38, 113, 117, 111, 116, 59]⟩ (by simp [escP])
        replace goal_of := goal_of
        clear cw
        have hPB : str [34] = .string ⟨#[34]⟩ := rfl
        simp only [hPB]
        gi_wp2_with (refine ⟨rfl, ?_⟩; gi_at_call 18; refine ((callsIn_wide.2 c18).inRound l).mono ?_; rintro e w2 ⟨rfl, ob, hb1⟩)
        exact goal_of.out _ ob hb1
      by_cases h39 : P = [39]
      · subst h39
        have c18 := cw W (Below.refl _ _) ⟨#[38, 97, 112, 111, 115, 59]⟩ (by simp [escP])
        replace goal_of := goal_of
        clear cw
        have hPB : str [39] = .string ⟨#[39]⟩ := rfl
        simp only [hPB]
        gi_wp2_with (refine ⟨rfl, ?_⟩; gi_at_call 18; refine ((callsIn_wide.2 c18).inRound l).mono ?_; rintro e w2 ⟨rfl, ob, hb1⟩)
        exact goal_of.out _ ob hb1
      by_cases h13 : P = [13]
      · subst h13
        have c18 := cw W (Below.refl _ _) ⟨#[38, 35, 49, 51, 59]⟩ (by simp [escP])
        replace goal_of := goal_of
        clear cw
        have hPB : str [13] = .string ⟨#[13]⟩ := rfl
        simp only [hPB]
        gi_wp2_with (refine ⟨rfl, ?_⟩; gi_at_call 18; refine ((callsIn_wide.2 c18).inRound l).mono ?_; rintro e w2 ⟨rfl, ob, hb1⟩)
        exact goal_of.out _ ob hb1
      have he : escP (P, true) = P := by simp [escP, h60, h62, h38, h34, h39, h13]
      have c18 := cw W (Below.refl _ _) ⟨P.toArray⟩ (by rw [he])
      have t60 : ((⟨P.toArray⟩ : ByteArray).toList == [60]) = false := by rw [ByteArray.toList_eq]; simpa using h60
      have t62 : ((⟨P.toArray⟩ : ByteArray).toList == [62]) = false := by rw [ByteArray.toList_eq]; simpa using h62
      have t38 : ((⟨P.toArray⟩ : ByteArray).toList == [38]) = false := by rw [ByteArray.toList_eq]; simpa using h38
      have t34 : ((⟨P.toArray⟩ : ByteArray).toList == [34]) = false := by rw [ByteArray.toList_eq]; simpa using h34
      have t39 : ((⟨P.toArray⟩ : ByteArray).toList == [39]) = false := by rw [ByteArray.toList_eq]; simpa using h39
      have t13 : ((⟨P.toArray⟩ : ByteArray).toList == [13]) = false := by rw [ByteArray.toList_eq]; simpa using h13
      have hPB : str P = .string ⟨P.toArray⟩ := rfl
      simp only [hPB]
      generalize (⟨P.toArray⟩ : ByteArray) = PB at *
      clear cw he h60 h62 h38 h34 h39 h13
      gi_wp2_with (refine ⟨rfl, ?_⟩; gi_at_call 18; refine ((callsIn_wide.2 c18).inRound l).mono ?_; rintro e w2 ⟨rfl, ob, hb1⟩)
      exact goal_of.out _ ob hb1
  case done =>
    rintro W ⟨hb, hB, hz⟩ hK
    have hcl : Calls Tryd.prog 19 #[.pointer (some ⟨w.heap.size, 0, none⟩)] W fun e w' => e = .returned (.string ⟨(escS bs).toArray⟩) ∧ (Lib.IsBuilderF 52 5 w.heap.size w.heap.size (Lib.byteCells (escS bs)) w' ∧ Below w.heap.size W w' ∧ Lib.OthersKept 5 (some w.heap.size) W w') :=
      Any.Builder_String_any_k Tryd.lays169 Tryd.Builder_Extra_169 w.heap.size w.heap.size (escS bs) W (Lib.IsBuilderF.of hb.is) (by omega)
    have hK0 := Lib.hid hK
    replace hb := Lib.hid hb
    replace hB := Lib.hid hB
    gi_wp2_with (refine ⟨rfl, ?_⟩; gi_at_call 19; refine (callsIn_wide.2 hcl).mono ?_; rintro e w1 ⟨rfl, hb1, hB1, hok⟩; replace hb1 := Lib.hid hb1; replace hB1 := Lib.hid hB1; replace hok := Lib.hid hok)
    have hK1 := hK0.out
    rw [hz0] at hK1
    have hK' := hok.out _ _ hK1 (by simp) (by intro c fz e; cases e)
    refine ⟨by simp, .inl ⟨_, _, rfl, run_takeDeferred hK', ?_⟩⟩
    refine ⟨str (escS bs), ?_, rfl, below_put (hB.out.trans hB1.out) _ _ (by omega)⟩
    simp [results, Tryd.f13, go_sem, str]
  case stop =>
    intro c pre W _ h
    exact h.elim
end Go.Proofs.YtgomlebemefdcaaDoor

/- What the document's own Escape lays at each sign: plain. No condition. -/
namespace Go.Proofs.YtgomlebemefdcaaDoor
open Go Go.RowKit Go.Wk Go.Xt
theorem decN_ok (n b0 b1 b2 b3 : Nat) (h0 : b0 < 256) : ((Lib.decodeN n b0 b1 b2 b3).1 < 55296 ∨ 57344 ≤ (Lib.decodeN n b0 b1 b2 b3).1) ∧ (Lib.decodeN n b0 b1 b2 b3).1 ≤ 1114111 ∧ ((Lib.decodeN n b0 b1 b2 b3).1 < 128 → (Lib.decodeN n b0 b1 b2 b3).1 = b0 ∧ (Lib.decodeN n b0 b1 b2 b3).2 = 1) := by
  unfold Lib.decodeN
  repeat' split
  all_goals (refine ⟨by simp only; omega, by simp only; omega, fun h => ?_⟩; first | (exfalso; simp only at h; omega) | exact ⟨rfl, rfl⟩ | simp)
theorem dec_ok (x : UInt8) (t : List UInt8) : ((Lib.decodeL (x :: t)).1 < 55296 ∨ 57344 ≤ (Lib.decodeL (x :: t)).1) ∧ (Lib.decodeL (x :: t)).1 ≤ 1114111 ∧ ((Lib.decodeL (x :: t)).1 < 128 → (Lib.decodeL (x :: t)).1 = x.toNat ∧ (Lib.decodeL (x :: t)).2 = 1) := by
  rw [Lib.decodeL_N]
  exact decN_ok _ _ _ _ _ x.toNat_lt
theorem signV_dec (r : Nat) (h1 : r < 55296 ∨ 57344 ≤ r) (h2 : r ≤ 1114111) : signV (r : Int) = signB (r : Int) := by
  unfold signV
  have : validB (r : Int) = true := by
    unfold validB; simp only [Bool.or_eq_true, Bool.and_eq_true, decide_eq_true_eq]; omega
  rw [this]; simp
def refP (r n : Nat) (l : List UInt8) : List UInt8 :=
  if r = 60 then [38, 108, 116, 59] else if r = 62 then [38, 103, 116, 59] else if r = 38 then [38, 97, 109, 112, 59]
  else if r = 34 then [38, 113, 117, 111, 116, 59] else if r = 39 then [38, 97, 112, 111, 115, 59] else if r = 13 then [38, 35, 49, 51, 59]
  else if (r = 65533 ∧ n < 2) ∨ signB (r : Int) = false then List.replicate n 63 else l.take n
theorem piece (l : List UInt8) (h : l ≠ []) : escP (l.take (Lib.decodeL l).2, nextOk l) = refP (Lib.decodeL l).1 (Lib.decodeL l).2 l := by
  obtain ⟨x, t, rfl⟩ : ∃ x t, l = x :: t := by cases l with | nil => exact absurd rfl h | cons x t => exact ⟨x, t, rfl⟩
  obtain ⟨h1, h2, h3⟩ := dec_ok x t
  have hle := Lib.decodeL_le (x :: t) (by simp)
  have hwd := Lib.decodeL_width (x :: t)
  have hsv := signV_dec _ h1 h2
  unfold nextOk
  rw [hsv]
  generalize hr : (Lib.decodeL (x :: t)).1 = r at *
  generalize hn : (Lib.decodeL (x :: t)).2 = n at *
  have hx : ∀ k : Nat, k < 128 → r = k → x.toNat = k ∧ n = 1 := fun k hk e => by
    have := h3 (by omega); omega
  have ht : ∀ (y : UInt8), (x :: t).take n = [y] → n = 1 ∧ x = y ∨ t = [] ∧ x = y := fun y e => by
    cases n with
    | zero => omega
    | succ m =>
      rw [List.take_succ_cons] at e
      injection e with e1 e2
      cases m with
      | zero => exact .inl ⟨rfl, e1⟩
      | succ m => cases t with
        | nil => exact .inr ⟨rfl, e1⟩
        | cons y t => simp at e2
  have one : ∀ k : UInt8, k.toNat < 128 → (x :: t).take n = [k] → r = k.toNat := fun k hk e => by
    have hxk : x = k := by rcases ht k e with ⟨_, h⟩ | ⟨_, h⟩ <;> exact h
    have := Lib.decodeL_ascii x t (by rw [hxk]; exact hk)
    rw [← hr, this, hxk]
  have sg : ∀ k : Nat, k < 128 → r = k → ∀ y : UInt8, y.toNat = k → (x :: t).take n = [y] := fun k hk e y hy => by
    obtain ⟨e1, e2⟩ := hx k hk e
    have : x = y := UInt8.toNat_inj.1 (by omega)
    rw [e2, this]; rfl
  unfold refP
  by_cases c1 : r = 60
  · rw [if_pos c1, sg 60 (by omega) c1 60 rfl, c1]; rfl
  rw [if_neg c1]
  by_cases c2 : r = 62
  · rw [if_pos c2, sg 62 (by omega) c2 62 rfl, c2]; rfl
  rw [if_neg c2]
  by_cases c3 : r = 38
  · rw [if_pos c3, sg 38 (by omega) c3 38 rfl, c3]; rfl
  rw [if_neg c3]
  by_cases c4 : r = 34
  · rw [if_pos c4, sg 34 (by omega) c4 34 rfl, c4]; rfl
  rw [if_neg c4]
  by_cases c5 : r = 39
  · rw [if_pos c5, sg 39 (by omega) c5 39 rfl, c5]; rfl
  rw [if_neg c5]
  by_cases c6 : r = 13
  · rw [if_pos c6, sg 13 (by omega) c6 13 rfl, c6]; rfl
  rw [if_neg c6]
  have n1 : (x :: t).take n ≠ [60] := fun e => c1 (one 60 (by decide) e)
  have n2 : (x :: t).take n ≠ [62] := fun e => c2 (one 62 (by decide) e)
  have n3 : (x :: t).take n ≠ [38] := fun e => c3 (one 38 (by decide) e)
  have n4 : (x :: t).take n ≠ [34] := fun e => c4 (one 34 (by decide) e)
  have n5 : (x :: t).take n ≠ [39] := fun e => c5 (one 39 (by decide) e)
  have n6 : (x :: t).take n ≠ [13] := fun e => c6 (one 13 (by decide) e)
  have hlen : ((x :: t).take n).length = n := by rw [List.length_take]; omega
  unfold escP
  simp only [n1, n2, n3, n4, n5, n6, if_false, hlen]
  by_cases c7 : (r = 65533 ∧ n < 2) ∨ signB (r : Int) = false
  · rw [if_pos c7, if_pos]
    rcases c7 with ⟨c7, c8⟩ | c7
    · simp only [Bool.and_eq_false_iff, Bool.or_eq_false_iff, decide_eq_false_iff_not]; right; omega
    · rw [c7]; rfl
  · rw [if_neg c7, if_neg]
    simp only [Bool.and_eq_false_iff, Bool.or_eq_false_iff, decide_eq_false_iff_not]
    rintro (e | ⟨e1, e2⟩)
    · exact c7 (.inr e)
    · exact c7 (.inl ⟨by omega, by omega⟩)
end Go.Proofs.YtgomlebemefdcaaDoor

/- A text escaped is read as it was: plain. No condition. -/
namespace Go.Proofs.YtgomlebemefdcaaDoor
open Go Go.RowKit Go.Wk Go.Xt Go.Xe
def outP (x : List UInt8 × Bool) : List UInt8 := if x.2 = false then List.replicate x.1.length 63 else x.1
def outS (l : List UInt8) : List UInt8 := (partsS l).flatMap outP
theorem decN_bytes (n b0 b1 b2 b3 : Nat) : (Lib.decodeN n b0 b1 b2 b3).2 = 1 ∨ ((Lib.decodeN n b0 b1 b2 b3).2 = 2 ∧ 128 ≤ b0 ∧ 128 ≤ b1) ∨ ((Lib.decodeN n b0 b1 b2 b3).2 = 3 ∧ 128 ≤ b0 ∧ 128 ≤ b1 ∧ 128 ≤ b2) ∨ ((Lib.decodeN n b0 b1 b2 b3).2 = 4 ∧ 128 ≤ b0 ∧ 128 ≤ b1 ∧ 128 ≤ b2 ∧ 128 ≤ b3) := by
  unfold Lib.decodeN
  repeat' split
  all_goals first | (left; rfl) | (right; left; exact ⟨rfl, by omega, by omega⟩) | (right; right; left; exact ⟨rfl, by omega, by omega, by omega⟩) | (right; right; right; exact ⟨rfl, by omega, by omega, by omega, by omega⟩)
theorem dec_bytes (l : List UInt8) (h : l ≠ []) : (l.take (Lib.decodeL l).2).length = 1 ∨ ∀ b ∈ l.take (Lib.decodeL l).2, 128 ≤ b.toNat := by
  have hle := Lib.decodeL_le l h
  have hb := decN_bytes l.length (l.getD 0 0).toNat (l.getD 1 0).toNat (l.getD 2 0).toNat (l.getD 3 0).toNat
  rw [← Lib.decodeL_N] at hb
  generalize (Lib.decodeL l).2 = n at *
  have hg : ∀ i (hi : i < l.length), (l.getD i 0) = l[i] := fun i hi => by rw [List.getD_eq_getElem?_getD, List.getElem?_eq_getElem hi]; rfl
  rcases hb with rfl | hb
  · left; rw [List.length_take]; omega
  · right
    intro b hbm
    obtain ⟨i, hi, rfl⟩ := List.getElem_of_mem hbm
    rw [List.length_take] at hi
    rw [List.getElem_take]
    rw [← hg i (by omega)]
    have : i = 0 ∨ i = 1 ∨ i = 2 ∨ i = 3 := by omega
    rcases this with rfl | rfl | rfl | rfl <;> omega
theorem part_bytes : ∀ (n : Nat) (l : List UInt8), l.length ≤ n → ∀ x ∈ partsS l, x.1.length = 1 ∨ ∀ b ∈ x.1, 128 ≤ b.toNat := by
  intro n
  induction n with
  | zero =>
    intro l hl x hx
    have : l = [] := List.eq_nil_of_length_eq_zero (by omega)
    subst this
    rw [partsS_nil] at hx; cases hx
  | succ n ih =>
    intro l hl x hx
    by_cases h : l = []
    · subst h; rw [partsS_nil] at hx; cases hx
    · rw [partsS_cons l h] at hx
      have hw := Lib.decodeL_width l
      have hp : 0 < l.length := List.length_pos_iff.2 h
      rcases List.mem_cons.1 hx with rfl | hx
      · exact dec_bytes l h
      · exact ih (l.drop (Lib.decodeL l).2) (by simp; omega) x hx
theorem txt_bytes {fin : Int} {tail o r' : List UInt8} (h : Txt fin tail o r') : ∀ (l : List UInt8), (∀ b ∈ l, b ≠ 60 ∧ (b.toNat : Int) ≠ fin ∧ b ≠ 38) → Txt fin (l ++ tail) (l ++ o) r' := by
  intro l
  induction l with
  | nil => intro _; exact h
  | cons b l ih =>
    intro hl
    have hb := hl b (by simp)
    exact .byte b _ _ _ hb.1 hb.2.1 hb.2.2 (ih fun c hc => hl c (by simp [hc]))
theorem txt_piece {fin : Int} (hf : fin = 34 ∨ fin = -1) {tail o r' : List UInt8} (h : Txt fin tail o r') (x : List UInt8 × Bool) (hx : x.1.length = 1 ∨ ∀ b ∈ x.1, 128 ≤ b.toNat) : Txt fin (escP x ++ tail) (outP x ++ o) r' := by
  have hf38 : fin ≠ 38 := by omega
  unfold escP outP
  by_cases hk : x.2 = false
  · rw [if_pos hk, if_pos hk]
    refine txt_bytes h _ fun b hb => ?_
    rw [List.mem_replicate] at hb
    rw [hb.2]
    exact ⟨by decide, by show (63 : Int) ≠ fin; omega, by decide⟩
  rw [if_neg hk, if_neg hk]
  by_cases c1 : x.1 = [60]
  · rw [if_pos c1, c1]; exact .ent _ [60] _ _ _ hf38 (.lt tail) h
  rw [if_neg c1]
  by_cases c2 : x.1 = [62]
  · rw [if_pos c2, c2]; exact .ent _ [62] _ _ _ hf38 (.gt tail) h
  rw [if_neg c2]
  by_cases c3 : x.1 = [38]
  · rw [if_pos c3, c3]; exact .ent _ [38] _ _ _ hf38 (.amp tail) h
  rw [if_neg c3]
  by_cases c4 : x.1 = [34]
  · rw [if_pos c4, c4]; exact .ent _ [34] _ _ _ hf38 (.quot tail) h
  rw [if_neg c4]
  by_cases c5 : x.1 = [39]
  · rw [if_pos c5, c5]; exact .ent _ [39] _ _ _ hf38 (.apos tail) h
  rw [if_neg c5]
  by_cases c6 : x.1 = [13]
  · rw [if_pos c6, c6]; exact .ent _ [13] _ _ _ hf38 (.cr tail) h
  rw [if_neg c6]
  refine txt_bytes h _ fun b hb => ?_
  rcases hx with hx | hx
  · obtain ⟨y, hy⟩ : ∃ y, x.1 = [y] := by
      cases hz : x.1 with
      | nil => rw [hz] at hx; cases hx
      | cons y t => cases t with
        | nil => exact ⟨y, rfl⟩
        | cons z t => rw [hz] at hx; simp at hx
    rw [hy] at hb c1 c3 c4
    simp at hb
    subst hb
    refine ⟨fun e => c1 (by rw [e]), fun e => ?_, fun e => c3 (by rw [e])⟩
    rcases hf with rfl | rfl
    · exact c4 (by rw [show b = 34 from UInt8.toNat_inj.1 (by show b.toNat = 34; omega)])
    · omega
  · have := hx b hb
    refine ⟨fun e => ?_, by omega, fun e => ?_⟩
    · rw [e] at this; exact absurd this (by decide)
    · rw [e] at this; exact absurd this (by decide)
theorem txt_esc {fin : Int} (hf : fin = 34 ∨ fin = -1) {tail o r' : List UInt8} (h : Txt fin tail o r') (l : List UInt8) : Txt fin (escS l ++ tail) (outS l ++ o) r' := by
  have hp := part_bytes l.length l (Nat.le_refl _)
  unfold escS outS
  generalize partsS l = xs at *
  induction xs with
  | nil => exact h
  | cons x xs ih =>
    rw [List.flatMap_cons, List.flatMap_cons, List.append_assoc, List.append_assoc]
    exact txt_piece hf (ih fun y hy => hp y (by simp [hy])) x (hp x (by simp))
theorem outS_ok : ∀ (n : Nat) (l : List UInt8), l.length ≤ n → signsB l = true → outS l = l := by
  intro n
  induction n with
  | zero =>
    intro l hl _
    have : l = [] := List.eq_nil_of_length_eq_zero (by omega)
    subst this
    unfold outS; rw [partsS_nil]; rfl
  | succ n ih =>
    intro l hl hs
    by_cases h : l = []
    · subst h; unfold outS; rw [partsS_nil]; rfl
    · have hw := Lib.decodeL_width l
      have hp : 0 < l.length := List.length_pos_iff.2 h
      unfold signsB at hs
      rw [partsS_cons l h, List.all_cons, Bool.and_eq_true] at hs
      have := ih (l.drop (Lib.decodeL l).2) (by simp; omega) hs.2
      unfold outS at this ⊢
      rw [partsS_cons l h, List.flatMap_cons, this]
      unfold outP
      have h1 : nextOk l = true := hs.1
      rw [if_neg (by rw [h1]; simp)]
      exact List.take_append_drop _ _
end Go.Proofs.YtgomlebemefdcaaDoor

/- An escaped text is signs: plain. No condition. -/
namespace Go.Proofs.YtgomlebemefdcaaDoor
open Go Go.RowKit Go.Wk Go.Xt Go.Xe
set_option maxHeartbeats 1000000 in
set_option maxRecDepth 100000 in
theorem decN_pre (n N M b0 b1 b2 b3 c1 c2 c3 : Nat) (h : (Lib.decodeN N b0 b1 b2 b3).2 = n) (hn : 2 ≤ n) (hM : n ≤ M) (e1 : c1 = b1) (e2 : 2 < n → c2 = b2) (e3 : 3 < n → c3 = b3) : Lib.decodeN M b0 c1 c2 c3 = Lib.decodeN N b0 b1 b2 b3 := by
  subst e1
  rcases decN_bytes N b0 c1 b2 b3 with h1 | ⟨h1, _⟩ | ⟨h1, _⟩ | ⟨h1, _⟩
  · omega
  · unfold Lib.decodeN at h1 ⊢
    repeat' split at h1
    all_goals first | (exfalso; simp only at h1; omega) | skip
    all_goals (repeat' split)
    all_goals first | rfl | (exfalso; omega)
  · have hn3 : n = 3 := h.symm.trans h1
    have e2 := e2 (by omega)
    subst e2
    unfold Lib.decodeN at h1 ⊢
    repeat' split at h1
    all_goals first | (exfalso; simp only at h1; omega) | skip
    all_goals (repeat' split)
    all_goals first | rfl | (exfalso; omega)
  · have hn4 : n = 4 := h.symm.trans h1
    have e2 := e2 (by omega)
    have e3 := e3 (by omega)
    subst e2 e3
    unfold Lib.decodeN at h1 ⊢
    repeat' split at h1
    all_goals first | (exfalso; simp only at h1; omega) | skip
    all_goals (repeat' split)
    all_goals first | rfl | (exfalso; omega)
theorem dec_part (l tail : List UInt8) (h : l ≠ []) (hn : 2 ≤ (Lib.decodeL l).2) : Lib.decodeL (l.take (Lib.decodeL l).2 ++ tail) = Lib.decodeL l := by
  have hle := Lib.decodeL_le l h
  obtain ⟨n, hnn⟩ : ∃ n, n = (Lib.decodeL l).2 := ⟨_, rfl⟩
  rw [← hnn] at hle hn ⊢
  have hl : (l.take n ++ tail).length = n + tail.length := by rw [List.length_append, List.length_take]; omega
  have hg : ∀ i, i < n → (l.take n ++ tail).getD i 0 = l.getD i 0 := fun i hi => by
    rw [List.getD_eq_getElem?_getD, List.getD_eq_getElem?_getD, List.getElem?_append_left (by rw [List.length_take]; omega), List.getElem?_take_of_lt hi]
  rw [Lib.decodeL_N] at hnn
  rw [Lib.decodeL_N, Lib.decodeL_N, hg 0 (by omega), hg 1 (by omega)]
  exact decN_pre n l.length _ _ _ _ _ _ _ _ hnn.symm hn (by omega) rfl (fun h => by rw [hg 2 h]) (fun h => by rw [hg 3 h])
end Go.Proofs.YtgomlebemefdcaaDoor

/- An escaped text is signs: plain, whole. No condition. -/
namespace Go.Proofs.YtgomlebemefdcaaDoor
open Go Go.RowKit Go.Wk Go.Xt Go.Xe
theorem decN_one (n b0 b1 b2 b3 : Nat) : (Lib.decodeN n b0 b1 b2 b3).2 = 1 → b0 < 128 ∨ (Lib.decodeN n b0 b1 b2 b3).1 = 65533 := by
  unfold Lib.decodeN
  repeat' split
  all_goals (intro h; first | (left; assumption) | (right; rfl) | (exfalso; simp at h))
theorem signs_byte (x : UInt8) (r : List UInt8) (h1 : 32 ≤ x.toNat ∨ x.toNat = 9 ∨ x.toNat = 10 ∨ x.toNat = 13) (h2 : x.toNat < 128) : signsB (x :: r) = signsB r := by
  have e : Lib.decodeL (x :: r) = (x.toNat, 1) := Lib.decodeL_ascii x r h2
  have e2 : nextOk (x :: r) = true := by
    unfold nextOk; rw [e]
    simp [signV, signB, validB]
    omega
  unfold signsB
  rw [partsS_cons _ (by simp), e]
  simp [e2]
theorem signs_bytes (r : List UInt8) : ∀ (l : List UInt8), (∀ x ∈ l, (32 ≤ x.toNat ∨ x.toNat = 9 ∨ x.toNat = 10 ∨ x.toNat = 13) ∧ x.toNat < 128) → signsB (l ++ r) = signsB r := by
  intro l
  induction l with
  | nil => intro _; rfl
  | cons x l ih =>
    intro h
    have hx := h x (by simp)
    rw [List.cons_append, signs_byte x _ hx.1 hx.2]
    exact ih fun y hy => h y (by simp [hy])
theorem signs_part (l : List UInt8) (h : l ≠ []) (hn : 2 ≤ (Lib.decodeL l).2) (hk : nextOk l = true) (r : List UInt8) : signsB (l.take (Lib.decodeL l).2 ++ r) = signsB r := by
  have hd := dec_part l r h hn
  have hle := Lib.decodeL_le l h
  have hlen : (l.take (Lib.decodeL l).2).length = (Lib.decodeL l).2 := by rw [List.length_take]; omega
  have hk2 : nextOk (l.take (Lib.decodeL l).2 ++ r) = true := by
    unfold nextOk at hk ⊢; rw [hd]; exact hk
  have hne : l.take (Lib.decodeL l).2 ++ r ≠ [] := by intro e; have := congrArg List.length e; rw [List.length_append, hlen] at this; simp at this; omega
  have hdr : (l.take (Lib.decodeL l).2 ++ r).drop (Lib.decodeL l).2 = r := by
    conv => lhs; arg 1; rw [← hlen]
    exact List.drop_left
  unfold signsB
  rw [partsS_cons _ hne, hd, List.all_cons, hk2, Bool.true_and, hdr]
theorem signs_esc : ∀ (n : Nat) (l r : List UInt8), l.length ≤ n → signsB (escS l ++ r) = signsB r := by
  intro n
  induction n with
  | zero =>
    intro l r hl
    have : l = [] := List.eq_nil_of_length_eq_zero (by omega)
    subst this
    unfold escS; rw [partsS_nil]; rfl
  | succ n ih =>
    intro l r hl
    by_cases h : l = []
    · subst h; unfold escS; rw [partsS_nil]; rfl
    · have hw := Lib.decodeL_width l
      have hp : 0 < l.length := List.length_pos_iff.2 h
      have hrest := ih (l.drop (Lib.decodeL l).2) r (by simp; omega)
      have e : escS l = escP (l.take (Lib.decodeL l).2, nextOk l) ++ escS (l.drop (Lib.decodeL l).2) := by
        unfold escS; rw [partsS_cons l h, List.flatMap_cons]
      rw [e, List.append_assoc, ← hrest]
      generalize escS (l.drop (Lib.decodeL l).2) ++ r = t
      unfold escP
      by_cases hk : nextOk l = false
      · rw [if_pos hk]
        exact signs_bytes t _ fun x hx => by rw [List.mem_replicate] at hx; rw [hx.2]; decide
      rw [if_neg hk]
      have hk : nextOk l = true := by simpa using hk
      split; · exact signs_bytes t _ (by decide)
      split; · exact signs_bytes t _ (by decide)
      split; · exact signs_bytes t _ (by decide)
      split; · exact signs_bytes t _ (by decide)
      split; · exact signs_bytes t _ (by decide)
      split; · exact signs_bytes t _ (by decide)
      by_cases h2 : 2 ≤ (Lib.decodeL l).2
      · exact signs_part l h h2 hk t
      · obtain ⟨x, t', rfl⟩ : ∃ x t, l = x :: t := by cases l with | nil => exact absurd rfl h | cons x t => exact ⟨x, t, rfl⟩
        have e1 : (Lib.decodeL (x :: t')).2 = 1 := by omega
        show signsB ((x :: t').take (Lib.decodeL (x :: t')).2 ++ t) = signsB t
        rw [e1]
        show signsB (x :: t) = signsB t
        by_cases hx : x.toNat < 128
        · have ea := Lib.decodeL_ascii x t' hx
          refine signs_byte x t ?_ hx
          unfold nextOk at hk
          rw [ea] at hk
          simp [signV, signB, validB] at hk
          omega
        · exfalso
          unfold nextOk at hk
          rw [Bool.and_eq_true, Bool.or_eq_true, decide_eq_true_eq, decide_eq_true_eq] at hk
          have hone := decN_one (x :: t').length ((x :: t').getD 0 0).toNat ((x :: t').getD 1 0).toNat ((x :: t').getD 2 0).toNat ((x :: t').getD 3 0).toNat
          rw [← Lib.decodeL_N] at hone
          have h3 : x.toNat < 128 ∨ (Lib.decodeL (x :: t')).1 = 65533 := hone e1
          rcases h3 with h3 | h3
          · exact hx h3
          · rcases hk.2 with h4 | h4
            · exact h4 h3
            · omega
end Go.Proofs.YtgomlebemefdcaaDoor

/- The escaped text in an element and in a value, as the grammar reads it: plain. No condition. -/
namespace Go.Proofs.YtgomlebemefdcaaDoor
open Go Go.RowKit Go.Wk Go.Xt Go.Xe
def escT (x : List UInt8) : List UInt8 := [60, 97, 32, 98, 61, 34] ++ (x ++ ([34, 62] ++ (x ++ [60, 47, 97, 62])))
def escN (s : List UInt8) : Nd := .el [97] [([98], s)] (if s = [] then [] else [.tx s])
theorem name_one (n c : UInt8) (r : List UInt8) (h : beginsB n = true) (hc : goesB c = false) : nameS (n :: c :: r) = [n] := by
  have hg : goesB n = true := by unfold goesB; rw [h]; rfl
  unfold nameS
  simp [h, List.takeWhile_cons, hg, hc]
theorem ws_no (c : UInt8) (r : List UInt8) (h : whiteB c = false) : ws (c :: r) = 0 := by simp [ws, List.takeWhile_cons, h]
theorem esc_att (s tail : List UInt8) : Att (98 :: 61 :: 34 :: (escS s ++ 34 :: tail)) ([98], outS s) tail := by
  refine .mk _ [98] (61 :: 34 :: (escS s ++ 34 :: tail)) (outS s) 34 (34 :: (escS s ++ 34 :: tail)) (escS s ++ 34 :: tail) (name_one _ _ _ (by decide) (by decide)) (by simp) (by simp) rfl (by simp [List.cons_prefix_cons]) (by rw [ws_no _ _ (by decide)]; rfl) (by rw [ws_no _ _ (by decide)]; rfl) (.inl rfl) tail ?_
  have := txt_esc (fin := 34) (.inl rfl) (.stop 34 tail (.inr rfl)) s
  rw [List.append_nil] at this
  exact this
theorem esc_mark (s tail : List UInt8) : Xe.Mark (60 :: 97 :: 32 :: 98 :: 61 :: 34 :: (escS s ++ 34 :: 62 :: tail)) [97] [([98], outS s)] false tail := by
  refine .open _ [97] _ (32 :: 98 :: 61 :: 34 :: (escS s ++ 34 :: 62 :: tail)) tail (name_one _ _ _ (by decide) (by decide)) (by simp) rfl (by simp [List.cons_prefix_cons]) ?_
  have hw : ws (32 :: 98 :: 61 :: 34 :: (escS s ++ 34 :: 62 :: tail)) = 1 := by simp [ws, List.takeWhile_cons, whiteB]
  exact .one _ [] (62 :: tail) tail _ 62 98 (61 :: 34 :: (escS s ++ 34 :: 62 :: tail)) (by omega) (by rw [hw]; rfl) (by decide) (by decide) (esc_att s (62 :: tail)) (by rw [ws_no _ _ (by decide)]; rfl) (.inr rfl)
theorem esc_cont (d m : Nat) (s : List UInt8) : Cont d m [] (escS s ++ [60, 47, 97, 62]) (if outS s = [] then [] else [.tx (outS s)]) m [97, 62] := by
  have h := txt_esc (fin := -1) (.inr rfl) (.stop 60 [47, 97, 62] (.inl rfl)) s
  rw [List.append_nil] at h
  have := Cont.done d m [] _ _ _ [97, 62] h (misc_end _) rfl
  simpa using this
theorem esc_elem (s : List UInt8) : Elem 32 0 (escT (escS s)) (escN (outS s)) 1 [] := by
  have e : escT (escS s) = 60 :: 97 :: 32 :: 98 :: 61 :: 34 :: (escS s ++ 34 :: 62 :: (escS s ++ [60, 47, 97, 62])) := by simp [escT]
  rw [e]
  exact .open 31 0 1 _ [97] _ _ _ [97, 62] [62] [] (by omega) (esc_mark s _) (esc_cont _ _ s) (name_one _ _ _ (by decide) (by decide)) rfl (by simp [List.cons_prefix_cons]) (by rw [ws_no _ _ (by decide)]; rfl)
theorem esc_around (s : List UInt8) : Around (escT (escS s)) (escT (escS s)) := misc_root 97 (by unfold low; decide) _
theorem esc_signs (s : List UInt8) : signsB (escT (escS s)) = true := by
  unfold escT
  rw [signs_bytes _ _ (by decide), signs_esc s.length _ _ (Nat.le_refl _), signs_bytes _ _ (by decide), signs_esc s.length _ _ (Nat.le_refl _)]
  rw [← List.append_nil [60, 47, 97, 62], signs_bytes _ _ (by decide)]
  unfold signsB; rw [partsS_nil]; rfl
theorem esc_signs0 (s : List UInt8) : signsB (escS s) = true := by
  have := signs_esc s.length s [] (Nat.le_refl _)
  rw [List.append_nil] at this
  rw [this]; unfold signsB; rw [partsS_nil]; rfl
theorem escS_len6 : ∀ (n : Nat) (l : List UInt8), l.length ≤ n → (escS l).length ≤ 6 * l.length := by
  intro n
  induction n with
  | zero =>
    intro l hl
    have : l = [] := List.eq_nil_of_length_eq_zero (by omega)
    subst this
    unfold escS; rw [partsS_nil]; simp
  | succ n ih =>
    intro l hl
    by_cases h : l = []
    · subst h; unfold escS; rw [partsS_nil]; simp
    · have hw := Lib.decodeL_width l
      have hle := Lib.decodeL_le l h
      have hp : 0 < l.length := List.length_pos_iff.2 h
      have hrest := ih (l.drop (Lib.decodeL l).2) (by simp; omega)
      have e : escS l = escP (l.take (Lib.decodeL l).2, nextOk l) ++ escS (l.drop (Lib.decodeL l).2) := by
        unfold escS; rw [partsS_cons l h, List.flatMap_cons]
      have := escP_len (l.take (Lib.decodeL l).2, nextOk l) (by simp; omega)
      rw [e, List.length_append]
      simp at this hrest
      omega
theorem outS_len : ∀ (n : Nat) (l : List UInt8), l.length ≤ n → (outS l).length = l.length := by
  intro n
  induction n with
  | zero =>
    intro l hl
    have : l = [] := List.eq_nil_of_length_eq_zero (by omega)
    subst this
    unfold outS; rw [partsS_nil]; simp
  | succ n ih =>
    intro l hl
    by_cases h : l = []
    · subst h; unfold outS; rw [partsS_nil]; simp
    · have hw := Lib.decodeL_width l
      have hle := Lib.decodeL_le l h
      have hp : 0 < l.length := List.length_pos_iff.2 h
      have hrest := ih (l.drop (Lib.decodeL l).2) (by simp; omega)
      have e : outS l = outP (l.take (Lib.decodeL l).2, nextOk l) ++ outS (l.drop (Lib.decodeL l).2) := by
        unfold outS; rw [partsS_cons l h, List.flatMap_cons]
      rw [e, List.length_append, hrest]
      have : (outP (l.take (Lib.decodeL l).2, nextOk l)).length = (Lib.decodeL l).2 := by
        unfold outP; split
        · simp; omega
        · simp; omega
      rw [this]; simp; omega
end Go.Proofs.YtgomlebemefdcaaDoor

/- Inner: the text in a node with one text or none. No condition. -/
namespace Go.Proofs.YtgomlebemefdcaaDoor
open Go Go.RowKit Go.Wk Go.Xt Go.Xe
set_option maxHeartbeats 2000000 in
set_option maxRecDepth 100000 in
theorem xml_Inner_one {w : World} (N0 N1 N2 : ByteArray) (a1 : Option Addr) (n1 c1 g cap : Nat) (t : List UInt8) (ht : t.length ≤ 100000) (hcap : 1 ≤ cap)
    (h0 : w.cell? ⟨g, 0, none⟩ = some (.string ⟨#[]⟩)) (h1 : w.cell? ⟨g, 1, none⟩ = some (.string ⟨#[]⟩)) (h2 : w.cell? ⟨g, 2, none⟩ = some (str t)) (h3 : w.cell? ⟨g, 3, none⟩ = some (.slice none 0 0)) (h4 : w.cell? ⟨g, 4, none⟩ = some (.slice none 0 0)) :
    Calls Tryd.prog 12 #[.agg #[.string N0, .string N1, .string N2, .slice a1 n1 c1, .slice (some ⟨g, 0, none⟩) 1 cap]] w fun e w' => e = .returned (.tuple #[str t, .bool true]) ∧ Below w.heap.size w w' := by
  have hg := cell_lt h0
  obtain ⟨T, hT⟩ : ∃ T : ByteArray, T = ⟨t.toArray⟩ := ⟨_, rfl⟩
  have hTs : str t = .string T := by rw [hT]; rfl
  rw [hTs] at h2 ⊢
  have hw1 : (w.alloc (.cells #[.string N0, .string N1, .string N2, .slice a1 n1 c1, .slice (some ⟨g, 0, none⟩) 1 cap] 27)).heap.size = w.heap.size + 1 := World.size_alloc _ _
  have hnew := bld_new (w.alloc (.cells #[.string N0, .string N1, .string N2, .slice a1 n1 c1, .slice (some ⟨g, 0, none⟩) 1 cap] 27))
  rw [hw1] at hnew
  have cw : ∀ W, Lib.IsBuilder 52 5 (w.heap.size + 1) (w.heap.size + 1) [] W → w.heap.size + 1 ≤ W.heap.size → Calls Tryd.prog 18 #[.pointer (some ⟨w.heap.size + 1, 0, none⟩), .string T] W fun e w' => e = .returned (.tuple #[.int .i64 T.size, .nilIface]) ∧ Lib.IsBuilder 52 5 (w.heap.size + 1) (w.heap.size + 1) (Lib.byteCells t) w' ∧ Below (w.heap.size + 1) W w' := fun W hW hz => by
    refine (bld_str (w.heap.size + 1) (w.heap.size + 1) [] T W hW ?_ hz).mono ?_
    · have : T.size = t.length := by rw [hT]; show t.toArray.size = _; simp
      simp; omega
    · rintro e w' ⟨rfl, h, hb⟩
      refine ⟨rfl, ?_, hb⟩
      have : Lib.strCells T = Lib.byteCells t := by rw [hT]; rfl
      rw [List.nil_append, this] at h
      exact h
  have cz : ∀ W, Lib.IsBuilder 52 5 (w.heap.size + 1) (w.heap.size + 1) (Lib.byteCells t) W → w.heap.size + 1 ≤ W.heap.size → Calls Tryd.prog 19 #[.pointer (some ⟨w.heap.size + 1, 0, none⟩)] W fun e w' => e = .returned (.string T) ∧ Below (w.heap.size + 1) W w' := fun W hW hz => by
    rw [hT]; exact Tryd.Builder_String_any _ _ t W hW hz
  have hb52 : Below (w.heap.size + 1) (w.alloc (.cells #[.string N0, .string N1, .string N2, .slice a1 n1 c1, .slice (some ⟨g, 0, none⟩) 1 cap] 27)) (((w.alloc (.cells #[.string N0, .string N1, .string N2, .slice a1 n1 c1, .slice (some ⟨g, 0, none⟩) 1 cap] 27)).alloc (.cells #[.pointer none, .slice none 0 0] 52)).alloc (.cells #[.string ⟨#[]⟩, .string ⟨#[]⟩, .string T, .slice none 0 0, .slice none 0 0] 27)) := ((Below.refl _ _).alloc (by rw [hw1]; omega) _).alloc (by rw [World.size_alloc, hw1]; omega) _
  have hU := bld_fr hnew (Fr.of_below (L := 0) (R := 0) ((Below.refl _ _).alloc (Nat.le_refl _) (.cells #[.string ⟨#[]⟩, .string ⟨#[]⟩, .string T, .slice none 0 0, .slice none 0 0] 27))) (by omega) (by omega)
  have k18 := cw _ hU (by rw [World.size_alloc, World.size_alloc, hw1]; omega)
  have hB : Below w.heap.size w (w.alloc (.cells #[.string N0, .string N1, .string N2, .slice a1 n1 c1, .slice (some ⟨g, 0, none⟩) 1 cap] 27)) := (Below.refl _ _).alloc (Nat.le_refl _) _
  have hBU := hB.trans (hb52.mono (by omega))
  have hUs := hb52.size
  rw [hw1] at hUs
  replace hT := Lib.hid hT
  replace hTs := Lib.hid hTs
  replace cw := Lib.hid cw
  replace cz := Lib.hid cz
  replace hnew := Lib.hid hnew
  replace hw1 := Lib.hid hw1
  replace hb52 := Lib.hid hb52
  replace hU := Lib.hid hU
  replace hB := Lib.hid hB
  replace hBU := Lib.hid hBU
  replace hUs := Lib.hid hUs
  go_enter Tryd.func12, Tryd.ntmps12
  go_wp2
  refine wp_loop_rounds 2 ?_; rw [rounds_succ]
  go_wp2_with (fail)
  go_at_call 18
  refine k18.mono ?_
  rintro e w1 ⟨rfl, hb1, bl1⟩
  have k19 := cz.out w1 hb1 (Nat.le_trans hUs.out bl1.size)
  replace hb1 := Lib.hid hb1
  replace bl1 := Lib.hid bl1
  clear k18 h0 h1 h2 h3 h4
  go_wp2
  rw [rounds_succ]
  go_wp2_with (go_at_call 19; (with_reducible refine k19.mono ?_); rintro e w2 ⟨rfl, b2⟩; replace b2 := Lib.hid b2)
  go_ret2
  exact ⟨rfl, (hBU.out.trans (bl1.out.mono (by omega))).trans (b2.out.mono (by omega))⟩
set_option maxHeartbeats 2000000 in
set_option maxRecDepth 100000 in
theorem xml_Inner_nil {w : World} (N0 N1 N2 : ByteArray) (a1 : Option Addr) (n1 c1 : Nat) (a2 : Option Addr) (c2 : Nat) :
    Calls Tryd.prog 12 #[.agg #[.string N0, .string N1, .string N2, .slice a1 n1 c1, .slice a2 0 c2]] w fun e w' => e = .returned (.tuple #[.string ⟨#[]⟩, .bool true]) ∧ Below w.heap.size w w' := by
  have hw1 : (w.alloc (.cells #[.string N0, .string N1, .string N2, .slice a1 n1 c1, .slice a2 0 c2] 27)).heap.size = w.heap.size + 1 := World.size_alloc _ _
  have hnew := bld_new (w.alloc (.cells #[.string N0, .string N1, .string N2, .slice a1 n1 c1, .slice a2 0 c2] 27))
  rw [hw1] at hnew
  have hB : Below w.heap.size w ((w.alloc (.cells #[.string N0, .string N1, .string N2, .slice a1 n1 c1, .slice a2 0 c2] 27)).alloc (.cells #[.pointer none, .slice none 0 0] 52)) := ((Below.refl _ _).alloc (Nat.le_refl _) _).alloc (by rw [hw1]; omega) _
  have k19 : Calls Tryd.prog 19 #[.pointer (some ⟨w.heap.size + 1, 0, none⟩)] ((w.alloc (.cells #[.string N0, .string N1, .string N2, .slice a1 n1 c1, .slice a2 0 c2] 27)).alloc (.cells #[.pointer none, .slice none 0 0] 52)) fun e w' => e = .returned (.string ⟨#[]⟩) ∧ Below (w.heap.size + 1) _ w' :=
    Tryd.Builder_String_any _ _ [] _ hnew (by rw [World.size_alloc, hw1]; omega)
  replace hw1 := Lib.hid hw1
  replace hnew := Lib.hid hnew
  replace hB := Lib.hid hB
  go_enter Tryd.func12, Tryd.ntmps12
  go_wp2
  refine wp_loop_rounds 1 ?_; rw [rounds_succ]
  go_wp2_with (fail)
  go_at_call 19
  refine k19.mono ?_
  rintro e w2 ⟨rfl, b2⟩
  replace b2 := Lib.hid b2
  clear k19
  go_wp2
  go_ret2
  exact ⟨rfl, hB.out.trans (b2.out.mono (by omega))⟩
end Go.Proofs.YtgomlebemefdcaaDoor

/- Parse reads the escaped text in an element and in a value. No condition. -/
namespace Go.Proofs.YtgomlebemefdcaaDoor
open Go Go.RowKit Go.Wk Go.Xt Go.Xe
/-- where the kids of such an element lie -/
def KidAt (w : World) (t : List UInt8) (v : Value) : Prop :=
  (t = [] ∧ ∃ a c, v = .slice a 0 c) ∨ ∃ g cap, v = .slice (some ⟨g, 0, none⟩) 1 cap ∧ 1 ≤ cap ∧ w.cell? ⟨g, 0, none⟩ = some (.string ⟨#[]⟩) ∧ w.cell? ⟨g, 1, none⟩ = some (.string ⟨#[]⟩) ∧ w.cell? ⟨g, 2, none⟩ = some (str t) ∧ w.cell? ⟨g, 3, none⟩ = some (.slice none 0 0) ∧ w.cell? ⟨g, 4, none⟩ = some (.slice none 0 0)
theorem KidAt.below {w w' : World} {t : List UInt8} {v : Value} (h : KidAt w t v) (hb : Below w.heap.size w w') : KidAt w' t v := by
  rcases h with h | ⟨g, cap, rfl, hc, h0, h1, h2, h3, h4⟩
  · exact .inl h
  · exact .inr ⟨g, cap, rfl, hc, (hb.cell (cell_lt h0)).trans h0, (hb.cell (cell_lt h1)).trans h1, (hb.cell (cell_lt h2)).trans h2, (hb.cell (cell_lt h3)).trans h3, (hb.cell (cell_lt h4)).trans h4⟩
theorem esc_shape {w : World} {t : List UInt8} {vs : List Value} {bl : List Nat} (h : NdAt w (escN t) vs bl) :
    ∃ g cap vk, vs = [str [], str [97], str [], .slice (some ⟨g, 0, none⟩) 1 cap, vk] ∧ 1 ≤ cap ∧ w.cell? ⟨g, 2, none⟩ = some (str t) ∧ KidAt w t vk := by
  unfold escN at h
  cases h with
  | el nm l' ks va vk ba bk ha hk =>
    rcases ha with ⟨h0, _⟩ | ⟨g, cap, rfl, ho, rfl⟩
    · cases h0
    · have hcap : 1 ≤ cap := by
        rcases ho.2 with ⟨e, _⟩ | ⟨g', cap', cur, e, _, hh, rest⟩
        · cases e
        · cases e
          have := rest
          exact rest.1
      refine ⟨g, cap, vk, rfl, hcap, ?_, ?_⟩
      · have := ho.cellAt 2 (by simp)
        exact this
      · by_cases ht : t = []
        · rw [if_pos ht] at hk
          cases hk with
          | nil => exact .inl ⟨ht, _, _, rfl⟩
          | row ks g2 cap2 vs b ho2 hr => exact .inl ⟨ht, _, _, rfl⟩
        · rw [if_neg ht] at hk
          cases hk with
          | row ks g2 cap2 vs b ho2 hr =>
            cases hr with
            | cons k ks us vss b bs hn hr =>
              cases hr
              cases hn
              refine .inr ⟨g2, cap2, rfl, ?_, ?_, ?_, ?_, ?_, ?_⟩
              · rcases ho2.2 with ⟨e, _⟩ | ⟨g', cap', cur, e, _, hh, rest⟩
                · cases e
                · cases e; exact rest.1
              · exact ho2.cellAt 0 (by simp)
              · exact ho2.cellAt 1 (by simp)
              · exact ho2.cellAt 2 (by simp)
              · exact ho2.cellAt 3 (by simp)
              · exact ho2.cellAt 4 (by simp)
theorem parse_esc {w : World} {A : Option Addr} {c : Nat} {s : List UInt8} (hb : Byt w A (escT (escS s))) (hc : (escT (escS s)).length ≤ c) (hs : s.length ≤ 500) (hT : Lib.Utf8Tabs 0 1 w) (h2 : 2 ≤ w.heap.size) :
    Calls Tryd.prog 9 #[.slice A (escT (escS s)).length c] w fun e w' => ∃ (g cap : Nat) (a2 : Option Addr) (n2 c2 : Nat), e = .returned (.tuple #[.agg #[.string ⟨#[]⟩, .string ⟨#[97]⟩, .string ⟨#[]⟩, .slice (some ⟨g, 0, none⟩) 1 cap, .slice a2 n2 c2], .int .i64 0]) ∧
      1 ≤ cap ∧ w'.cell? ⟨g, 2, none⟩ = some (str (outS s)) ∧ KidAt w' (outS s) (.slice a2 n2 c2) ∧ Below w.heap.size w w' := by
  have hlen : (escT (escS s)).length ≤ 100000 := by
    have := escS_len6 s.length s (Nat.le_refl _)
    unfold escT; simp; omega
  have hne : escT (escS s) ≠ [] := by simp [escT]
  refine (xml_Parse (P := fun W W1 vs k => k = 0 ∧ ∃ bl, NdAt W1 (escN (outS s)) vs.toList bl ∧ (∀ j ∈ bl, W.heap.size ≤ j ∧ j < W1.heap.size)) hb hc hlen (esc_signs s) hT h2 hne fun W hW => ?_).mono ?_
  · refine (xml_all hW ⟨by simp, Nat.zero_le _⟩ (esc_around s) (esc_elem s) misc_out).mono ?_
    rintro e w' ⟨N, a1, n1, c1, a2, n2, c2, bl, rfl, hN, hbl, hF⟩
    exact ⟨⟨#[]⟩, N, ⟨#[]⟩, a1, n1, c1, a2, n2, c2, 0, rfl, hF, ⟨rfl, bl, hN, hbl⟩, fun h => absurd rfl h⟩
  · rintro e w' ⟨N0, N1, N2, a1, n1, c1, a2, n2, c2, k, W, W1, rfl, ⟨rfl, bl, hN, hbl⟩, h3, h4, h5, hB⟩
    have hN2 := hN.keep fun j hj => h4 j (hbl j hj).1 (hbl j hj).2
    obtain ⟨g, cap, vk, hv, hcap, hg, hk⟩ := esc_shape hN2
    injection hv with v0 hv
    injection hv with v1 hv
    injection hv with v2 hv
    injection hv with v3 hv
    injection hv with v4 hv
    rw [← v4] at hk
    refine ⟨g, cap, a2, n2, c2, ?_, hcap, hg, hk, hB⟩
    rw [v0, v1, v2, v3]; rfl
end Go.Proofs.YtgomlebemefdcaaDoor

/- The document's own Escape. No condition. -/
namespace Go.Proofs.YtgomlebemefdcaaDoor
open Go Go.RowKit Go.Wk Go.Xt
theorem escS_cons (l : List UInt8) (h : l ≠ []) : escS l = refP (Lib.decodeL l).1 (Lib.decodeL l).2 l ++ escS (l.drop (Lib.decodeL l).2) := by
  unfold escS
  rw [partsS_cons l h, List.flatMap_cons, piece l h]
theorem escS_nil : escS [] = [] := by unfold escS; rw [partsS_nil]; rfl
theorem step_of {o : ByteArray} {bs p : List UInt8} {k n : Nat} (h : o.data.toList ++ escS (bs.drop k) = escS bs) (hp : escS (bs.drop k) = p ++ escS ((bs.drop k).drop n)) (o' : ByteArray) (ho : o'.data.toList = o.data.toList ++ p) : o'.data.toList ++ escS (bs.drop (k + n)) = escS bs := by
  rw [ho, ← h, hp, List.drop_drop, List.append_assoc]
set_option maxHeartbeats 8000000 in
set_option maxRecDepth 100000 in
theorem ref_Escape {w : World} (S : ByteArray) (hl : S.size ≤ 500) (hT : Lib.Utf8Tabs 0 1 w) (h2 : 2 ≤ w.heap.size) :
    Calls Tryd.prog 15 #[.string S] w fun e w' => e = .returned (str (escS S.data.toList)) ∧ Below w.heap.size w w' := by
  have hlen : S.data.toList.length = S.size := Array.length_toList
  obtain ⟨bs, hbs⟩ : ∃ bs, bs = S.data.toList := ⟨_, rfl⟩
  rw [← hbs] at hlen ⊢
  have hfl := flat_len bs.length bs (Nat.le_refl _)
  have hsg := fun (w : World) (x : Int) => ref_sign (w := w) x
  replace hlen := Lib.hid hlen
  replace hbs := Lib.hid hbs
  replace hT := Lib.hid hT
  replace hfl := Lib.hid hfl
  go_enter Tryd.func15, Tryd.ntmps15
  go_wp2
  go_loopw [3, 4, 5, 6, 7] (fun s3 s4 _ _ _ wr => ∃ (k : Nat) (o : ByteArray), k ≤ S.size ∧ s4 = .int .i64 k ∧ s3 = .string o ∧ o.data.toList ++ escS (bs.drop k) = escS bs ∧ Below w.heap.size w wr) (fun _ s4 _ _ _ _ => S.size - (RowKit.intOf s4).toNat)
  case atStart => exact ⟨0, ⟨#[]⟩, Nat.zero_le _, rfl, rfl, by simp, Below.refl _ _⟩
  case round =>
    obtain ⟨k, o, hk, rfl, rfl, ho, hB⟩ := hrel
    by_cases hkm : k < S.size
    · have hne : bs.drop k ≠ [] := by intro e; have := congrArg List.length e; rw [List.length_drop, hlen.out] at this; simp at this; omega
      have hcons := escS_cons (bs.drop k) hne
      have hn1 := Lib.decodeL_width (bs.drop k)
      have hn2 := Lib.decodeL_le (bs.drop k) hne
      rw [List.length_drop, hlen.out] at hn2
      have hosz : o.size ≤ 6 * S.size := by
        have h1 := congrArg List.length ho
        rw [List.length_append] at h1
        have h3 := hfl.out
        have h4 : o.data.toList.length = o.size := Array.length_toList
        have h5 := hlen.out
        omega
      have hd : Calls Tryd.prog 22 #[.string (S.extract k S.size)] wr fun e w' => e = .returned (.tuple #[.int .i32 ((Lib.decodeL (bs.drop k)).1 : Int), .int .i64 ((Lib.decodeL (bs.drop k)).2 : Int)]) ∧ Below wr.heap.size wr w' := by
        have := Tryd.utf8_DecodeRuneInString (S.extract k S.size) wr (tabs_kept hT.out (hB.block 0 (by omega)) (hB.block 1 (by omega)))
        have e1 : (S.extract k S.size) = ⟨(bs.drop k).toArray⟩ := bytes_ext (by rw [bytes_cut, ← hbs.out, ← hlen.out, List.take_length])
        rw [e1, decode_str _ hne] at this
        rw [e1]; exact this
      obtain ⟨r, hr⟩ : ∃ r, r = (Lib.decodeL (bs.drop k)).1 := ⟨_, rfl⟩
      obtain ⟨n, hn⟩ : ∃ n, n = (Lib.decodeL (bs.drop k)).2 := ⟨_, rfl⟩
      rw [← hr, ← hn] at hd hcons
      rw [← hn] at hn1 hn2
      have hr0 : (0 : Int) ≤ (r : Int) := by omega
      have hsR := fun W => hsg W (r : Int)
      replace ho := Lib.hid ho
      replace hB := Lib.hid hB
      replace hr := Lib.hid hr
      replace hn := Lib.hid hn
      by_cases c60 : r = 60
      · have hp : refP r n (bs.drop k) = [38, 108, 116, 59] := by unfold refP; rw [if_pos c60]
        rw [hp] at hcons
        have T60 : ((r : Int) == 60) = true := by simp; omega
        have hst := step_of (n := n) ho.out hcons (o ++ ⟨#[38, 108, 116, 59]⟩) (by rw [bytes_app])
        clear c60 hp hcons hne hsR
        replace hst := Lib.hid hst
        replace hr := Lib.hid hr
        generalize (r : Int) = X at *
        go_wp2_with (go_at_call 22; (with_reducible refine hd.mono ?_); rintro e w1 ⟨rfl, b1⟩; replace b1 := Lib.hid b1)
        go_roundw
        case rel => exact ⟨k + n, _, by omega, by go_num, rfl, hst.out, bthen hB.out b1.out⟩
        case measure => simp [RowKit.intOf]; omega
      by_cases c62 : r = 62
      · have hp : refP r n (bs.drop k) = [38, 103, 116, 59] := by unfold refP; rw [if_neg c60, if_pos c62]
        rw [hp] at hcons
        have T60 : ((r : Int) == 60) = false := by simp; omega
        have T62 : ((r : Int) == 62) = true := by simp; omega
        have hst := step_of (n := n) ho.out hcons (o ++ ⟨#[38, 103, 116, 59]⟩) (by rw [bytes_app])
        clear c60 c62 hp hcons hne hsR
        replace hst := Lib.hid hst
        replace hr := Lib.hid hr
        generalize (r : Int) = X at *
        go_wp2_with (go_at_call 22; (with_reducible refine hd.mono ?_); rintro e w1 ⟨rfl, b1⟩; replace b1 := Lib.hid b1)
        go_roundw
        case rel => exact ⟨k + n, _, by omega, by go_num, rfl, hst.out, bthen hB.out b1.out⟩
        case measure => simp [RowKit.intOf]; omega
      by_cases c38 : r = 38
      · have hp : refP r n (bs.drop k) = [38, 97, 109, 112, 59] := by unfold refP; rw [if_neg c60, if_neg c62, if_pos c38]
        rw [hp] at hcons
        have T60 : ((r : Int) == 60) = false := by simp; omega
        have T62 : ((r : Int) == 62) = false := by simp; omega
        have T38 : ((r : Int) == 38) = true := by simp; omega
        have hst := step_of (n := n) ho.out hcons (o ++ ⟨#[38, 97, 109, 112, 59]⟩) (by rw [bytes_app])
        clear c60 c62 c38 hp hcons hne hsR
        replace hst := Lib.hid hst
        replace hr := Lib.hid hr
        generalize (r : Int) = X at *
        go_wp2_with (go_at_call 22; (with_reducible refine hd.mono ?_); rintro e w1 ⟨rfl, b1⟩; replace b1 := Lib.hid b1)
        go_roundw
        case rel => exact ⟨k + n, _, by omega, by go_num, rfl, hst.out, bthen hB.out b1.out⟩
        case measure => simp [RowKit.intOf]; omega
      by_cases c34 : r = 34
      · have hp : refP r n (bs.drop k) = [38, 113, 117, 111, 116, 59] := by unfold refP; rw [if_neg c60, if_neg c62, if_neg c38, if_pos c34]
        rw [hp] at hcons
        have T60 : ((r : Int) == 60) = false := by simp; omega
        have T62 : ((r : Int) == 62) = false := by simp; omega
        have T38 : ((r : Int) == 38) = false := by simp; omega
        have T34 : ((r : Int) == 34) = true := by simp; omega
        have hst := step_of (n := n) ho.out hcons (o ++ ⟨#[38, 113, 117, 111, 116, 59]⟩) (by rw [bytes_app])
        clear c60 c62 c38 c34 hp hcons hne hsR
        replace hst := Lib.hid hst
        replace hr := Lib.hid hr
        generalize (r : Int) = X at *
        go_wp2_with (go_at_call 22; (with_reducible refine hd.mono ?_); rintro e w1 ⟨rfl, b1⟩; replace b1 := Lib.hid b1)
        go_roundw
        case rel => exact ⟨k + n, _, by omega, by go_num, rfl, hst.out, bthen hB.out b1.out⟩
        case measure => simp [RowKit.intOf]; omega
      by_cases c39 : r = 39
      · have hp : refP r n (bs.drop k) = [38, 97, 112, 111, 115, 59] := by unfold refP; rw [if_neg c60, if_neg c62, if_neg c38, if_neg c34, if_pos c39]
        rw [hp] at hcons
        have T60 : ((r : Int) == 60) = false := by simp; omega
        have T62 : ((r : Int) == 62) = false := by simp; omega
        have T38 : ((r : Int) == 38) = false := by simp; omega
        have T34 : ((r : Int) == 34) = false := by simp; omega
        have T39 : ((r : Int) == 39) = true := by simp; omega
        have hst := step_of (n := n) ho.out hcons (o ++ ⟨#[38, 97, 112, 111, 115, 59]⟩) (by rw [bytes_app])
        clear c60 c62 c38 c34 c39 hp hcons hne hsR
        replace hst := Lib.hid hst
        replace hr := Lib.hid hr
        generalize (r : Int) = X at *
        go_wp2_with (go_at_call 22; (with_reducible refine hd.mono ?_); rintro e w1 ⟨rfl, b1⟩; replace b1 := Lib.hid b1)
        go_roundw
        case rel => exact ⟨k + n, _, by omega, by go_num, rfl, hst.out, bthen hB.out b1.out⟩
        case measure => simp [RowKit.intOf]; omega
      by_cases c13 : r = 13
      · have hp : refP r n (bs.drop k) = [38, 35, 49, 51, 59] := by unfold refP; rw [if_neg c60, if_neg c62, if_neg c38, if_neg c34, if_neg c39, if_pos c13]
        rw [hp] at hcons
        have T60 : ((r : Int) == 60) = false := by simp; omega
        have T62 : ((r : Int) == 62) = false := by simp; omega
        have T38 : ((r : Int) == 38) = false := by simp; omega
        have T34 : ((r : Int) == 34) = false := by simp; omega
        have T39 : ((r : Int) == 39) = false := by simp; omega
        have T13 : ((r : Int) == 13) = true := by simp; omega
        have hst := step_of (n := n) ho.out hcons (o ++ ⟨#[38, 35, 49, 51, 59]⟩) (by rw [bytes_app])
        clear c60 c62 c38 c34 c39 c13 hp hcons hne hsR
        replace hst := Lib.hid hst
        replace hr := Lib.hid hr
        generalize (r : Int) = X at *
        go_wp2_with (go_at_call 22; (with_reducible refine hd.mono ?_); rintro e w1 ⟨rfl, b1⟩; replace b1 := Lib.hid b1)
        go_roundw
        case rel => exact ⟨k + n, _, by omega, by go_num, rfl, hst.out, bthen hB.out b1.out⟩
        case measure => simp [RowKit.intOf]; omega
      by_cases r3 : r = 65533
      · by_cases n2 : n < 2
        · have hp : refP r n (bs.drop k) = List.replicate n 63 := by unfold refP; rw [if_neg c60, if_neg c62, if_neg c38, if_neg c34, if_neg c39, if_neg c13, if_pos (.inl ⟨r3, n2⟩)]
          rw [hp] at hcons
          have T60 : ((r : Int) == 60) = false := by simp; omega
          have T62 : ((r : Int) == 62) = false := by simp; omega
          have T38 : ((r : Int) == 38) = false := by simp; omega
          have T34 : ((r : Int) == 34) = false := by simp; omega
          have T39 : ((r : Int) == 39) = false := by simp; omega
          have T13 : ((r : Int) == 13) = false := by simp; omega
          have U1 : ((r : Int) == 65533) = true := by simp; omega
          have U2 : decide ((n : Int) < 2) = true := by simp; omega
          have hst := fun o' h => step_of (n := n) ho.out hcons o' h
          clear c60 c62 c38 c34 c39 c13 hp hcons hne
          replace hst := Lib.hid hst
          replace hr := Lib.hid hr
          generalize signB (r : Int) = B at *
          generalize (r : Int) = X at *
          go_wp2_with (first
            | (go_at_call 22; (with_reducible refine hd.mono ?_); rintro e w1 ⟨rfl, b1⟩; replace b1 := Lib.hid b1))
          go_loopw [3, 7] (fun s3 s7 wr2 => ∃ (j : Nat) (o2 : ByteArray), j ≤ n ∧ s7 = .int .i64 j ∧ s3 = .string o2 ∧ o2.data.toList = o.data.toList ++ List.replicate j 63 ∧ Below w.heap.size w wr2) (fun _ s7 _ => n - (RowKit.intOf s7).toNat)
          case atStart => exact ⟨0, o, Nat.zero_le _, rfl, rfl, by simp, bthen hB.out b1.out⟩
          case round =>
            obtain ⟨j, o2, hj, rfl, rfl, ho2, hB2⟩ := hrel
            have ho2s : o2.size = o.size + j := by
              have h1 := congrArg List.length ho2
              rw [List.length_append, List.length_replicate] at h1
              have h4 : o.data.toList.length = o.size := Array.length_toList
              have h5 : o2.data.toList.length = o2.size := Array.length_toList
              omega
            replace hB2 := Lib.hid hB2
            replace ho2 := Lib.hid ho2
            by_cases hjn : j < n
            · go_wp2
              go_roundw
              case rel => exact ⟨j + 1, _, by omega, by go_num, rfl, by rw [bytes_app, ho2.out, List.replicate_succ', List.append_assoc], hB2.out⟩
              case measure => simp [RowKit.intOf]; omega
            · obtain rfl : j = n := by omega
              go_wp2
              go_roundw
              case rel => exact ⟨k + j, _, by omega, by go_num, rfl, hst.out _ ho2.out, hB2.out⟩
              case measure => simp [RowKit.intOf]; omega
        · have hsb : signB (r : Int) = true := by rw [r3]; decide
          have hp : refP r n (bs.drop k) = (bs.drop k).take n := by unfold refP; rw [if_neg c60, if_neg c62, if_neg c38, if_neg c34, if_neg c39, if_neg c13, if_neg (by rw [hsb]; simp; omega)]
          rw [hp] at hcons
          have T60 : ((r : Int) == 60) = false := by simp; omega
          have T62 : ((r : Int) == 62) = false := by simp; omega
          have T38 : ((r : Int) == 38) = false := by simp; omega
          have T34 : ((r : Int) == 34) = false := by simp; omega
          have T39 : ((r : Int) == 39) = false := by simp; omega
          have T13 : ((r : Int) == 13) = false := by simp; omega
          have U1 : ((r : Int) == 65533) = true := by simp; omega
          have U2 : decide ((n : Int) < 2) = false := by simp; omega
          have hst := step_of (n := n) ho.out hcons (o ++ S.extract k (k + n)) (by rw [bytes_app, bytes_cut, ← hbs.out, List.drop_take, Nat.add_sub_cancel_left])
          have hxs : (S.extract k (k + n)).size = n := by rw [ByteArray.size_extract]; omega
          have hkn : k + n ≤ S.size := by omega
          obtain ⟨q, hq⟩ : ∃ q, q = k + n := ⟨_, rfl⟩
          have hqi : (k : Int) + (n : Int) = (q : Int) := by omega
          have hkq : k ≤ q := by omega
          have hqs : q ≤ S.size := by omega
          rw [← hq] at hst hxs hkn
          replace hq := Lib.hid hq
          clear c60 c62 c38 c34 c39 c13 hp hcons hne
          replace hst := Lib.hid hst
          replace hr := Lib.hid hr
          replace hxs := Lib.hid hxs
          generalize signB (r : Int) = B at *
          generalize (r : Int) = X at *
          go_wp2_with (first
            | (go_at_call 22; (with_reducible refine hd.mono ?_); rintro e w1 ⟨rfl, b1⟩; replace b1 := Lib.hid b1) | (go_at_call 23; (with_reducible refine (hsR _).mono ?_); rintro e w2 ⟨rfl, rfl⟩))
          go_roundw
          case rel => exact ⟨q, _, hqs, rfl, rfl, hst.out, bthen hB.out b1.out⟩
          case measure => (have := hq.out; simp [RowKit.intOf]; omega)
      · have U1 : ((r : Int) == 65533) = false := by simp; omega
        cases hsb : signB (r : Int) with
        | false =>
          have hp : refP r n (bs.drop k) = List.replicate n 63 := by unfold refP; rw [if_neg c60, if_neg c62, if_neg c38, if_neg c34, if_neg c39, if_neg c13, if_pos (.inr hsb)]
          rw [hp] at hcons
          have T60 : ((r : Int) == 60) = false := by simp; omega
          have T62 : ((r : Int) == 62) = false := by simp; omega
          have T38 : ((r : Int) == 38) = false := by simp; omega
          have T34 : ((r : Int) == 34) = false := by simp; omega
          have T39 : ((r : Int) == 39) = false := by simp; omega
          have T13 : ((r : Int) == 13) = false := by simp; omega
          have hst := fun o' h => step_of (n := n) ho.out hcons o' h
          clear c60 c62 c38 c34 c39 c13 hp hcons hne
          replace hst := Lib.hid hst
          replace hr := Lib.hid hr
          generalize signB (r : Int) = B at *
          generalize (r : Int) = X at *
          go_wp2_with (first
            | (go_at_call 22; (with_reducible refine hd.mono ?_); rintro e w1 ⟨rfl, b1⟩; replace b1 := Lib.hid b1) | (go_at_call 23; (with_reducible refine (hsR _).mono ?_); rintro e w2 ⟨rfl, rfl⟩))
          go_loopw [3, 7] (fun s3 s7 wr2 => ∃ (j : Nat) (o2 : ByteArray), j ≤ n ∧ s7 = .int .i64 j ∧ s3 = .string o2 ∧ o2.data.toList = o.data.toList ++ List.replicate j 63 ∧ Below w.heap.size w wr2) (fun _ s7 _ => n - (RowKit.intOf s7).toNat)
          case atStart => exact ⟨0, o, Nat.zero_le _, rfl, rfl, by simp, bthen hB.out b1.out⟩
          case round =>
            obtain ⟨j, o2, hj, rfl, rfl, ho2, hB2⟩ := hrel
            have ho2s : o2.size = o.size + j := by
              have h1 := congrArg List.length ho2
              rw [List.length_append, List.length_replicate] at h1
              have h4 : o.data.toList.length = o.size := Array.length_toList
              have h5 : o2.data.toList.length = o2.size := Array.length_toList
              omega
            replace hB2 := Lib.hid hB2
            replace ho2 := Lib.hid ho2
            by_cases hjn : j < n
            · go_wp2
              go_roundw
              case rel => exact ⟨j + 1, _, by omega, by go_num, rfl, by rw [bytes_app, ho2.out, List.replicate_succ', List.append_assoc], hB2.out⟩
              case measure => simp [RowKit.intOf]; omega
            · obtain rfl : j = n := by omega
              go_wp2
              go_roundw
              case rel => exact ⟨k + j, _, by omega, by go_num, rfl, hst.out _ ho2.out, hB2.out⟩
              case measure => simp [RowKit.intOf]; omega
        | true =>
          have hp : refP r n (bs.drop k) = (bs.drop k).take n := by unfold refP; rw [if_neg c60, if_neg c62, if_neg c38, if_neg c34, if_neg c39, if_neg c13, if_neg (by rw [hsb]; simp; omega)]
          rw [hp] at hcons
          have T60 : ((r : Int) == 60) = false := by simp; omega
          have T62 : ((r : Int) == 62) = false := by simp; omega
          have T38 : ((r : Int) == 38) = false := by simp; omega
          have T34 : ((r : Int) == 34) = false := by simp; omega
          have T39 : ((r : Int) == 39) = false := by simp; omega
          have T13 : ((r : Int) == 13) = false := by simp; omega
          have hst := step_of (n := n) ho.out hcons (o ++ S.extract k (k + n)) (by rw [bytes_app, bytes_cut, ← hbs.out, List.drop_take, Nat.add_sub_cancel_left])
          have hxs : (S.extract k (k + n)).size = n := by rw [ByteArray.size_extract]; omega
          have hkn : k + n ≤ S.size := by omega
          obtain ⟨q, hq⟩ : ∃ q, q = k + n := ⟨_, rfl⟩
          have hqi : (k : Int) + (n : Int) = (q : Int) := by omega
          have hkq : k ≤ q := by omega
          have hqs : q ≤ S.size := by omega
          rw [← hq] at hst hxs hkn
          replace hq := Lib.hid hq
          clear c60 c62 c38 c34 c39 c13 hp hcons hne
          replace hst := Lib.hid hst
          replace hr := Lib.hid hr
          replace hxs := Lib.hid hxs
          generalize signB (r : Int) = B at *
          generalize (r : Int) = X at *
          go_wp2_with (first
            | (go_at_call 22; (with_reducible refine hd.mono ?_); rintro e w1 ⟨rfl, b1⟩; replace b1 := Lib.hid b1) | (go_at_call 23; (with_reducible refine (hsR _).mono ?_); rintro e w2 ⟨rfl, rfl⟩))
          go_roundw
          case rel => exact ⟨q, _, hqs, rfl, rfl, hst.out, bthen hB.out b1.out⟩
          case measure => (have := hq.out; simp [RowKit.intOf]; omega)
    · obtain rfl : k = S.size := by omega
      have hd : bs.drop S.size = [] := by rw [← hlen.out]; exact List.drop_length
      rw [hd, escS_nil, List.append_nil] at ho
      have hr : Value.string o = str (escS bs) := by
        have : o = ⟨(escS bs).toArray⟩ := bytes_ext (by rw [ho])
        rw [this]; rfl
      replace ho := Lib.hid ho
      replace hB := Lib.hid hB
      replace hr := Lib.hid hr
      go_wp2
      go_ret
      exact ⟨congrArg Ending.returned hr.out, hB.out⟩
end Go.Proofs.YtgomlebemefdcaaDoor

/- The law of elements in one another. No condition. -/
namespace Go.Proofs.YtgomlebemefdcaaDoor
open Go Go.RowKit Go.Wk Go.Xt Go.Xe
theorem openS_len (l : List UInt8) : (openS l).length = 3 * l.length := by
  unfold openS; induction l with
  | nil => rfl
  | cons x l ih => simp [ih]; omega
theorem closeS_len (l : List UInt8) : (closeS l).length = 4 * l.length := by
  have : ∀ k : List UInt8, (k.flatMap fun n => ([60, 47, n, 62] : List UInt8)).length = 4 * k.length := by
    intro k; induction k with
    | nil => rfl
    | cons x k ih => simp [ih]; omega
  unfold closeS; rw [this]; simp
theorem str_of {a : ByteArray} {l : List UInt8} (h : a.data.toList = l) : Value.string a = str l := by
  have : a = ⟨l.toArray⟩ := bytes_ext (by rw [h])
  rw [this]; rfl
set_option maxHeartbeats 4000000 in
set_option maxRecDepth 100000 in
theorem deep_law {w : World} {A : Option Addr} {c : Nat} {l : List UInt8} (hb : Byt w A l) (hc : l.length ≤ c) (hT : Lib.Utf8Tabs 0 1 w) (h2 : 2 ≤ w.heap.size)
    (haw : Calls Tryd.prog 8 #[] w fun e w' => e = .returned (.bool true) ∧ Below w.heap.size w w') :
    Calls Tryd.prog 3 #[.slice A l.length c] w fun e w' => e = .returned (.bool true) ∧ Below w.heap.size w w' := by
  have hm := hb.1
  unfold maxLen at hm
  by_cases h60 : 60 < l.length
  · replace hb := Lib.hid hb
    replace hT := Lib.hid hT
    go_enter Tryd.func3, Tryd.ntmps3
    go_wp2_with (go_at_call 8; (with_reducible refine haw.mono ?_); rintro e w1 ⟨rfl, b1⟩; replace b1 := Lib.hid b1)
    go_ret
    exact ⟨rfl, b1.out⟩
  by_cases h0 : l.length = 0
  · replace hb := Lib.hid hb
    replace hT := Lib.hid hT
    rw [h0]
    clear h0 h60
    go_enter Tryd.func3, Tryd.ntmps3
    go_wp2_with (go_at_call 8; (with_reducible refine haw.mono ?_); rintro e w1 ⟨rfl, b1⟩; replace b1 := Lib.hid b1)
    go_ret
    exact ⟨rfl, b1.out⟩
  obtain ⟨b, o, rfl, hcell⟩ := hb.2 (by omega)
  replace hcell := Lib.hid hcell
  replace hb := Lib.hid hb
  replace hT := Lib.hid hT
  obtain ⟨m, hme⟩ : ∃ m, m = l.length := ⟨_, rfl⟩
  rw [← hme] at hc hm h60 h0 ⊢
  replace hme := Lib.hid hme
  have hg1 : decide ((60 : Int) < (m : Int)) = false := by simp; omega
  have hg2 : ((m : Int) == 0) = false := by simp [h0]
  go_enter Tryd.func3, Tryd.ntmps3
  go_wp2_with (go_at_call 8; (with_reducible refine haw.mono ?_); rintro e w1 ⟨rfl, b1⟩; replace b1 := Lib.hid b1)
  go_loopw [3, 4, 5, 6] (fun s3 s4 s5 _ wr => ∃ k : Nat, k ≤ m ∧ s5 = .int .i64 k ∧ s3 = str (openS ((l.take k).map chU)) ∧ s4 = str (closeS ((l.take k).map chU)) ∧ Below w.heap.size w wr) (fun _ _ s5 _ _ => m - (RowKit.intOf s5).toNat)
  case atStart => exact ⟨0, by omega, rfl, rfl, rfl, b1.out⟩
  case round =>
    obtain ⟨k, hk, rfl, rfl, rfl, hB⟩ := hrel
    by_cases hkm : k < m
    · have hkl : k < l.length := by rw [← hme.out]; exact hkm
      obtain ⟨x, hx⟩ : ∃ x, x = l[k] := ⟨_, rfl⟩
      have hcx : wr.cell? ⟨b, o + k, none⟩ = some (.int .u8 (x.toNat : Int)) := by
        rw [hx]; exact (hB.cell (cell_lt (hcell.out k hkl))).trans (hcell.out k hkl)
      obtain ⟨S, hS⟩ : ∃ S : ByteArray, S = ⟨(openS ((l.take k).map chU)).toArray⟩ := ⟨_, rfl⟩
      obtain ⟨E, hE⟩ : ∃ S : ByteArray, S = ⟨(closeS ((l.take k).map chU)).toArray⟩ := ⟨_, rfl⟩
      have hS1 : str (openS ((l.take k).map chU)) = .string S := by rw [hS]; rfl
      have hE1 : str (closeS ((l.take k).map chU)) = .string E := by rw [hE]; rfl
      rw [hS1, hE1]
      have hx8 := x.toNat_lt
      have zS : S.size = 3 * k := by rw [hS]; show (openS _).toArray.size = _; simp [openS_len]; omega
      have zE : E.size = 4 * k := by rw [hE]; show (closeS _).toArray.size = _; simp [closeS_len]; omega
      replace hS := Lib.hid hS
      replace hE := Lib.hid hE
      replace hS1 := Lib.hid hS1
      replace hE1 := Lib.hid hE1
      replace hB := Lib.hid hB
      replace hx := Lib.hid hx
      have hcv : (convert 22 9 (.slice (some ⟨wr.heap.size, 0, none⟩) 1 1)).run Tryd.prog (wr.alloc (.cells #[.int .u8 (97 + (x.toNat : Int) % 26)] 5)) = .ok (.string ⟨#[chU x]⟩) (wr.alloc (.cells #[.int .u8 (97 + (x.toNat : Int) % 26)] 5)) := by
        refine conv_at _ wr.heap.size 0 1 (chU x) ?_
        have e : ((chU x).toNat : Int) = 97 + (x.toNat : Int) % 26 := by rw [chU_nat]; omega
        rw [e, World.cell?_alloc_new]; rfl
      go_wp2
      go_roundw
      case rel =>
        have ht : (l.take (k + 1)).map chU = (l.take k).map chU ++ [chU x] := by
          rw [List.take_succ_eq_append_getElem hkl, List.map_append, hx.out]; rfl
        refine ⟨k + 1, by omega, by go_num, ?_, ?_, hB.out.alloc hB.out.size _⟩
        · rw [ht, openS_snoc]
          exact str_of (by simp only [bytes_app, hS.out]; simp)
        · rw [ht, closeS_snoc]
          exact str_of (by simp only [bytes_app, hE.out]; simp)
      case measure => simp [RowKit.intOf]; omega
    · obtain rfl : k = m := by omega
      obtain ⟨S, hS⟩ : ∃ S : ByteArray, S = ⟨(openS ((l.take k).map chU)).toArray⟩ := ⟨_, rfl⟩
      obtain ⟨E, hE⟩ : ∃ S : ByteArray, S = ⟨(closeS ((l.take k).map chU)).toArray⟩ := ⟨_, rfl⟩
      have hS1 : str (openS ((l.take k).map chU)) = .string S := by rw [hS]; rfl
      have hE1 : str (closeS ((l.take k).map chU)) = .string E := by rw [hE]; rfl
      rw [hS1, hE1]
      have zS : S.size = 3 * k := by rw [hS]; show (openS _).toArray.size = _; simp [openS_len, ← hme.out]
      have zE : E.size = 4 * k := by rw [hE]; show (closeS _).toArray.size = _; simp [closeS_len, ← hme.out]
      replace hS := Lib.hid hS
      replace hE := Lib.hid hE
      replace hS1 := Lib.hid hS1
      replace hE1 := Lib.hid hE1
      replace hB := Lib.hid hB
      obtain ⟨T, hTe⟩ : ∃ T : ByteArray, T = S ++ ⟨#[116]⟩ ++ E := ⟨_, rfl⟩
      have zT : T.size ≤ 1000 := by rw [hTe, ByteArray.size_append, ByteArray.size_append, zS, zE]; show 3 * k + 1 + 4 * k ≤ 1000; omega
      obtain ⟨ns, hns⟩ : ∃ ns, ns = l.map chU := ⟨_, rfl⟩
      have hnl : ns.length = k := by rw [hns, List.length_map, hme.out]
      have hlow : ∀ n ∈ ns, low n := by rw [hns]; exact chs_low l
      have hTl : T.data.toList = nestS ns := by
        rw [hTe, bytes_app, bytes_app, hS.out, hE.out, ← nestS_eq, hns, hme.out, List.take_length]
        simp
      obtain ⟨cT, W2, hcv, hbT, hBT, hcT, hzT⟩ := conv_bytes wr T (by omega)
      have hTlen : T.size = (nestS ns).length := by rw [← hTl, Array.length_toList]; rfl
      rw [hTl] at hbT
      have hB2 := hB.out.trans (hBT.mono hB.out.size)
      have hT2 := tabs_kept hT.out (hB2.block 0 (by omega)) (hB2.block 1 (by omega))
      have hz2 : 2 ≤ W2.heap.size := by have := hB.out.size; omega
      obtain ⟨tl, htl⟩ : ∃ tl, tl = T.size := ⟨_, rfl⟩
      rw [← htl] at hcv hTlen hcT
      rw [hTe] at hcv
      replace htl := Lib.hid htl
      replace hTe := Lib.hid hTe
      by_cases h32 : 32 < k
      · have cP := parse_deep hbT (by omega : (nestS ns).length ≤ cT) hlow (by omega) (by omega) hT2 hz2
        rw [← hTlen] at cP
        replace hTlen := Lib.hid hTlen
        replace hTl := Lib.hid hTl
        replace hbT := Lib.hid hbT
        replace hBT := Lib.hid hBT
        replace hB2 := Lib.hid hB2
        replace hT2 := Lib.hid hT2
        replace hzT := Lib.hid hzT
        clear zT hnl hlow hns
        go_wp2_with (go_at_call 9; (with_reducible refine cP.mono ?_); rintro e w3 ⟨rfl, b3⟩; replace b3 := Lib.hid b3)
        go_ret
        exact ⟨rfl, bthen hB2.out (b3.out.alloc (by have := b3.out.size; omega) _)⟩
      · have cP := parse_nest hbT (by omega : (nestS ns).length ≤ cT) hlow (by omega) (by omega) hT2 hz2
        rw [← hTlen] at cP
        replace hTlen := Lib.hid hTlen
        replace hTl := Lib.hid hTl
        replace hbT := Lib.hid hbT
        replace hBT := Lib.hid hBT
        replace hB2 := Lib.hid hB2
        replace hT2 := Lib.hid hT2
        replace hzT := Lib.hid hzT
        replace hnl := Lib.hid hnl
        replace hns := Lib.hid hns
        clear zT hlow
        go_wp2_with (go_at_call 9; (with_reducible refine cP.mono ?_); rintro e w3 ⟨N0, N1, N2, a1, n1, c1, a2, n2, c2, bl, rfl, hN, hbl, b3⟩; replace b3 := Lib.hid b3; replace hN := Lib.hid hN; replace hbl := Lib.hid hbl)
        obtain ⟨X, hX⟩ : ∃ X, X = w3.heap.size := ⟨_, rfl⟩
        have hX0 : w.heap.size ≤ X := by have := hB2.out.size; have := b3.out.size; omega
        obtain ⟨W4, hW4⟩ : ∃ W, W = w3.alloc (.cells #[.string N0, .string N1, .string N2, .slice a1 n1 c1, .slice a2 n2 c2] 27) := ⟨_, rfl⟩
        have hb4 : Below w3.heap.size w3 W4 := by rw [hW4]; exact (Below.refl _ _).alloc (Nat.le_refl _) _
        have hb04 : Below w.heap.size w W4 := bthen hB2.out (bthen b3.out hb4)
        have hx4 : Blk W4 X 27 #[.string N0, .string N1, .string N2, .slice a1 n1 c1, .slice a2 n2 c2] := by rw [hW4, hX]; exact Blk.new w3 27 _
        have hn4 : NdAt W4 (nestN ns) [.string N0, .string N1, .string N2, .slice a1 n1 c1, .slice a2 n2 c2] bl := hN.out.keep fun j hj => hb4.block j (hbl.out j hj).2
        have hl4 : ∀ j ∈ bl, j ≠ X ∧ j < W4.heap.size := fun j hj => by have := hbl.out j hj; have := hb4.size; omega
        rw [← hW4, ← hX]
        replace hX := Lib.hid hX
        replace hW4 := Lib.hid hW4
        replace hb4 := Lib.hid hb4
        replace hb04 := Lib.hid hb04
        replace hx4 := Lib.hid hx4
        replace hn4 := Lib.hid hn4
        replace hl4 := Lib.hid hl4
        go_loopw [9] (fun s9 wr2 => ∃ (j : Nat) (M0 M1 M2 : ByteArray) (b1 : Option Addr) (m1 d1 : Nat) (b2 : Option Addr) (m2 d2 : Nat) (bl2 : List Nat), j ≤ k ∧ s9 = .int .i64 j ∧ Blk wr2 X 27 #[.string M0, .string M1, .string M2, .slice b1 m1 d1, .slice b2 m2 d2] ∧ NdAt wr2 (nestN (ns.drop j)) [.string M0, .string M1, .string M2, .slice b1 m1 d1, .slice b2 m2 d2] bl2 ∧ (∀ i ∈ bl2, i ≠ X ∧ i < wr2.heap.size) ∧ Below w.heap.size w wr2) (fun s9 _ => k - (RowKit.intOf s9).toNat)
        case atStart => exact ⟨0, N0, N1, N2, a1, n1, c1, a2, n2, c2, bl, Nat.zero_le _, rfl, hx4.out, hn4.out, hl4.out, hb04.out⟩
        case round =>
          obtain ⟨j, M0, M1, M2, B1, m1, d1, B2, m2, d2, bl2, hj, rfl, hx5, hn5, hl5, hb5⟩ := hrel
          have hxlt : X < wr.heap.size := hx5.lt
          by_cases hjk : j < k
          · have hjl : j < l.length := by rw [← hme.out]; exact hjk
            have hjn : j < ns.length := by rw [hnl.out]; exact hjk
            obtain ⟨x, hx⟩ : ∃ x, x = l[j] := ⟨_, rfl⟩
            have hcx : wr.cell? ⟨b, o + j, none⟩ = some (.int .u8 (x.toNat : Int)) := by
              rw [hx]; exact (hb5.cell (cell_lt (hcell.out j hjl))).trans (hcell.out j hjl)
            have hnx : ns[j] = chU x := by
              have h0 := hns.out
              subst h0
              rw [List.getElem_map, hx]
            rw [List.drop_eq_getElem_cons hjn, hnx] at hn5
            obtain ⟨g, cap, us, bl', a1', n1', c1', hvs, hnk, hus, hglt, hgm, hblm⟩ := nest_cons hn5
            obtain ⟨P0, P1, P2, A1, p1, q1, A2, p2, q2, rfl⟩ := nest_shape hnk
            injection hvs with _ hvs
            injection hvs with hv1 hvs
            injection hvs with _ hvs
            injection hvs with _ hvs
            injection hvs with hv4 _
            injection hv1 with hv1
            injection hv4 with v4 v5 v6
            subst hv1 v4 v5 v6
            have hgX : g ≠ X := (hl5 g hgm).1
            have hXg : ¬ X = g := fun e => hgX e.symm
            have hg0 := hus 0 (by omega)
            have hg1 := hus 1 (by omega)
            have hg2 := hus 2 (by omega)
            have hg3 := hus 3 (by omega)
            have hg4 := hus 4 (by omega)
            have x0 := hx5.cell 0
            have x1 := hx5.cell 1
            have x2 := hx5.cell 2
            have x3 := hx5.cell 3
            have x4 := hx5.cell 4
            have y0 := hx5.frozen 0
            have y1 := hx5.frozen 1
            have y2 := hx5.frozen 2
            have y3 := hx5.frozen 3
            have y4 := hx5.frozen 4
            have hcw : (convert 22 9 (.slice (some ⟨wr.heap.size, 0, none⟩) 1 1)).run Tryd.prog ((wr.alloc (.cells #[.int .u8 (97 + (x.toNat : Int) % 26)] 5)).drew) = .ok (.string ⟨#[chU x]⟩) ((wr.alloc (.cells #[.int .u8 (97 + (x.toNat : Int) % 26)] 5)).drew) := by
              refine conv_at _ wr.heap.size 0 1 (chU x) ?_
              have e : ((chU x).toNat : Int) = 97 + (x.toNat : Int) % 26 := by rw [chU_nat]; omega
              rw [e]
              show (wr.alloc (.cells #[.int .u8 (97 + (x.toNat : Int) % 26)] 5)).cell? _ = _
              rw [World.cell?_alloc_new]; rfl
            have hx8 := x.toNat_lt
            replace hx5 := Lib.hid hx5
            replace hn5 := Lib.hid hn5
            replace hl5 := Lib.hid hl5
            replace hb5 := Lib.hid hb5
            replace hnk := Lib.hid hnk
            replace hus := Lib.hid hus
            replace hx := Lib.hid hx
            replace hnx := Lib.hid hnx
            go_wp2
            go_region
            go_wp2
            go_roundw
            case rel =>
              refine ⟨j + 1, P0, P1, P2, A1, p1, q1, A2, p2, q2, bl', by omega, by go_num, ?_, ?_, ?_, ?_⟩
              · exact (((((((hx5.out.set_ 0 _).set_ 1 _).set_ 2 _).set_ 3 _).set_ 4 _).alloc _).drew :)
              · refine hnk.out.keep fun i hi => ?_
                have := hl5.out i (hblm i hi)
                exact (Below.heap_alloc _ _ i (Nat.lt_of_lt_of_le this.2 (put5_save wr X (.string P0) (.string P1) (.string P2) (.slice A1 p1 q1) (.slice A2 p2 q2)).size)).trans ((put5_save wr X (.string P0) (.string P1) (.string P2) (.slice A1 p1 q1) (.slice A2 p2 q2)).block i this.2 this.1)
              · intro i hi
                have := hl5.out i (hblm i hi)
                exact ⟨this.1, Nat.lt_of_lt_of_le this.2 (by simp)⟩
              · exact (((hb5.out.trans ((put5_save wr X (.string P0) (.string P1) (.string P2) (.slice A1 p1 q1) (.slice A2 p2 q2)).below hX0 hb5.out.size)).alloc (Nat.le_trans hb5.out.size (put5_save wr X (.string P0) (.string P1) (.string P2) (.slice A1 p1 q1) (.slice A2 p2 q2)).size) _).drew :)
            case measure => simp [RowKit.intOf]; omega
          · obtain rfl : j = k := by omega
            have hd : ns.drop j = [] := by rw [← hnl.out]; exact List.drop_length
            rw [hd] at hn5
            have hvs := nest_nil hn5
            injection hvs with _ hvs
            injection hvs with hv1 hvs
            injection hvs with hv2 _
            injection hv1 with hv1
            injection hv2 with hv2
            subst hv1 hv2
            have x1 := hx5.cell 1
            have x2 := hx5.cell 2
            replace hx5 := Lib.hid hx5
            replace hn5 := Lib.hid hn5
            replace hl5 := Lib.hid hl5
            replace hb5 := Lib.hid hb5
            go_wp2
            go_ret
            exact ⟨rfl, hb5.out⟩
end Go.Proofs.YtgomlebemefdcaaDoor

/- Parse reads elements in one another, or finds them too deep. No condition. -/
import Derived.Test.YtgomlebemefdcaaDoorXeParse
import Derived.Test.YtgomlebemefdcaaDoorXeNest
import Derived.Test.YtgomlebemefdcaaDoorXeMark
import Derived.Lib.ConvBytes
import Derived.Laws.AppendOwn
import Derived.Laws.OwnMore
set_option linter.unusedVariables false
namespace Go.Proofs.YtgomlebemefdcaaDoor
open Go Go.RowKit Go.Wk Go.Xt Go.Xe
theorem conv_bytes (w : World) (s : ByteArray) (hs : s.size ≤ 100000) :
    ∃ c W', (convert 9 22 (.string s)).run Tryd.prog w = .ok (.slice (some ⟨w.heap.size, 0, none⟩) s.size c) W' ∧ Byt W' (some ⟨w.heap.size, 0, none⟩) s.data.toList ∧ Below w.heap.size w W' ∧ s.size ≤ c ∧ W'.heap.size = w.heap.size + 1 := by
  have hcv := Lib.run_convert_string_bytes (P := Tryd.prog) w 9 22 5 s (u := .string) Tryd.underlying9 Tryd.underlying22 Tryd.underlying5
  have hlen : s.data.toList.length = s.size := Array.length_toList
  refine ⟨_, _, hcv, ⟨?_, fun _ => ⟨_, 0, rfl, fun i hi => ?_⟩⟩, ⟨rfl, rfl, rfl, by rw [Lib.bytesWorld_size]; omega, fun k hk => Lib.bytesWorld_at_old _ _ _ _ hk⟩, ?_, Lib.bytesWorld_size _ _ _⟩
  · unfold maxLen; omega
  · have := Lib.bytesWorld_cell w 5 s i (by omega)
    rw [Nat.zero_add, this]
    rw [List.getD_eq_getElem?_getD, List.getElem?_eq_getElem hi]; rfl
  · exact grownCap_ge _ _ _ _
theorem parse_deep {w : World} {A : Option Addr} {c : Nat} {ns : List UInt8} (hb : Byt w A (nestS ns)) (hc : (nestS ns).length ≤ c) (hl : ∀ n ∈ ns, low n) (h1 : 32 < ns.length) (h60 : ns.length ≤ 60) (hT : Lib.Utf8Tabs 0 1 w) (h2 : 2 ≤ w.heap.size) :
    Calls Tryd.prog 9 #[.slice A (nestS ns).length c] w fun e w' => e = .returned (.tuple #[.agg z5, .int .i64 6]) ∧ Below w.heap.size w w' := by
  have hlen := nest_len ns
  have hne : nestS ns ≠ [] := by intro e; rw [e] at hlen; simp at hlen
  refine (xml_Parse (P := fun _ _ vs k => vs = z5 ∧ k = 6) hb hc (by omega) (signs_ascii _ (nest_ascii ns hl)) hT h2 hne fun W hW => ?_).mono ?_
  · have hd := deep_too ns 32 0 [] hl h1 (by omega)
    rw [List.append_nil] at hd
    obtain ⟨n, l, e⟩ : ∃ n l, ns = n :: l := by cases ns with | nil => simp at h1 | cons n l => exact ⟨n, l, rfl⟩
    have ha : Around (nestS ns) (nestS ns) := by
      rw [e]; exact misc_root n (hl n (by rw [e]; simp)) _
    refine (xml_all_deep hW ⟨by simp, Nat.zero_le _⟩ ha hd).mono ?_
    rintro e w' ⟨rfl, hF⟩
    exact ⟨⟨#[]⟩, ⟨#[]⟩, ⟨#[]⟩, none, 0, 0, none, 0, 0, 6, rfl, hF, ⟨rfl, rfl⟩, fun _ => rfl⟩
  · rintro e w' ⟨N0, N1, N2, a1, n1, c1, a2, n2, c2, k, W, W1, rfl, ⟨hv, rfl⟩, _, _, _, hB⟩
    rw [hv]
    exact ⟨rfl, hB⟩
theorem parse_nest {w : World} {A : Option Addr} {c : Nat} {ns : List UInt8} (hb : Byt w A (nestS ns)) (hc : (nestS ns).length ≤ c) (hl : ∀ n ∈ ns, low n) (h1 : 0 < ns.length) (h32 : ns.length ≤ 32) (hT : Lib.Utf8Tabs 0 1 w) (h2 : 2 ≤ w.heap.size) :
    Calls Tryd.prog 9 #[.slice A (nestS ns).length c] w fun e w' => ∃ (N0 N1 N2 : ByteArray) (a1 : Option Addr) (n1 c1 : Nat) (a2 : Option Addr) (n2 c2 : Nat) (bl : List Nat), e = .returned (.tuple #[.agg #[.string N0, .string N1, .string N2, .slice a1 n1 c1, .slice a2 n2 c2], .int .i64 0]) ∧
      NdAt w' (nestN ns) [.string N0, .string N1, .string N2, .slice a1 n1 c1, .slice a2 n2 c2] bl ∧ (∀ k ∈ bl, w.heap.size ≤ k ∧ k < w'.heap.size) ∧ Below w.heap.size w w' := by
  have hlen := nest_len ns
  have hne : nestS ns ≠ [] := by intro e; rw [e] at hlen; simp at hlen
  refine (xml_Parse (P := fun W W1 vs k => k = 0 ∧ ∃ bl, NdAt W1 (nestN ns) vs.toList bl ∧ (∀ j ∈ bl, W.heap.size ≤ j ∧ j < W1.heap.size)) hb hc (by omega) (signs_ascii _ (nest_ascii ns hl)) hT h2 hne fun W hW => ?_).mono ?_
  · have hn0 : ns ≠ [] := by intro e; rw [e] at h1; simp at h1
    have hd := deep_elem ns 32 0 [] hn0 hl h32 (by omega)
    rw [List.append_nil] at hd
    obtain ⟨n, l, e⟩ : ∃ n l, ns = n :: l := by cases ns with | nil => simp at h1 | cons n l => exact ⟨n, l, rfl⟩
    have ha : Around (nestS ns) (nestS ns) := by
      rw [e]; exact misc_root n (hl n (by rw [e]; simp)) _
    refine (xml_all hW ⟨by simp, Nat.zero_le _⟩ ha hd misc_out).mono ?_
    rintro e w' ⟨N, a1, n1, c1, a2, n2, c2, bl, rfl, hN, hbl, hF⟩
    exact ⟨⟨#[]⟩, N, ⟨#[]⟩, a1, n1, c1, a2, n2, c2, 0, rfl, hF, ⟨rfl, bl, hN, hbl⟩, fun h => absurd rfl h⟩
  · rintro e w' ⟨N0, N1, N2, a1, n1, c1, a2, n2, c2, k, W, W1, rfl, ⟨rfl, bl, hN, hbl⟩, h3, h4, h5, hB⟩
    exact ⟨N0, N1, N2, a1, n1, c1, a2, n2, c2, bl, rfl, hN.keep fun j hj => h4 j (hbl j hj).1 (hbl j hj).2, fun j hj => by have := hbl j hj; omega, hB⟩
/-- such an element in memory: its one kid lies in a row -/
theorem nest_cons {w : World} {n : UInt8} {l : List UInt8} {vs : List Value} {bl : List Nat} (h : NdAt w (nestN (n :: l)) vs bl) :
    ∃ g cap us bl' a1 n1 c1, vs = [str [], str [n], str [], .slice a1 n1 c1, .slice (some ⟨g, 0, none⟩) 1 cap] ∧ NdAt w (nestN l) us bl' ∧ (∀ j (hj : j < 5), w.cell? ⟨g, j, none⟩ = us[j]?) ∧ g < w.heap.size ∧ g ∈ bl ∧ (∀ j ∈ bl', j ∈ bl) := by
  have h : NdAt w (.el [n] [] [nestN l]) vs bl := h
  cases h with
  | el nm l' ks va vk ba bk ha hk =>
    have hva : ∃ a1 n1 c1, va = .slice a1 n1 c1 := by
      rcases ha with ⟨_, rfl, _⟩ | ⟨g, cap, rfl, _⟩
      · exact ⟨_, _, _, rfl⟩
      · exact ⟨_, _, _, rfl⟩
    obtain ⟨a1, n1, c1, rfl⟩ := hva
    cases hk with
    | row ks g cap vs b ho hr =>
      cases hr with
      | cons k ks us vss b bs hn hr =>
        cases hr with
        | nil =>
          have hl := ho.1
          rw [List.append_nil] at ho hl
          have hlt : g < w.heap.size := by
            have := ho.cellAt 0 (by simp)
            rw [List.getElem?_eq_getElem (by rw [hl]; simp)] at this
            exact cell_lt this
          exact ⟨g, cap, us, b, a1, n1, c1, rfl, hn, fun j hj => ho.cellAt j (by simpa using hj), hlt, by simp, fun j hj => by simp [hj]⟩
theorem nest_shape {w : World} : ∀ {l : List UInt8} {vs : List Value} {bl : List Nat}, NdAt w (nestN l) vs bl →
    ∃ (N0 N1 N2 : ByteArray) (a1 : Option Addr) (n1 c1 : Nat) (a2 : Option Addr) (n2 c2 : Nat), vs = [.string N0, .string N1, .string N2, .slice a1 n1 c1, .slice a2 n2 c2] := by
  intro l vs bl h
  cases l with
  | nil =>
    have h : NdAt w (.tx [116]) vs bl := h
    cases h with
    | tx t => exact ⟨_, _, _, _, _, _, _, _, _, rfl⟩
  | cons n l =>
    obtain ⟨g, cap, us, bl', a1, n1, c1, rfl, _⟩ := nest_cons h
    exact ⟨_, _, _, _, _, _, _, _, _, rfl⟩
theorem nest_nil {w : World} {vs : List Value} {bl : List Nat} (h : NdAt w (nestN []) vs bl) : vs = [str [], str [], str [116], .slice none 0 0, .slice none 0 0] := by
  have h : NdAt w (.tx [116]) vs bl := h
  cases h with
  | tx t => rfl
end Go.Proofs.YtgomlebemefdcaaDoor

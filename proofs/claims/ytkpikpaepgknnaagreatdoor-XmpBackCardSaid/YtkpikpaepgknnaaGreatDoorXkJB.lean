/- Walks and laws, joined: part B. No condition. -/
import Derived.Test.YtkpikpaepgknnaaGreatDoorXkJA
import Derived.Lib.Builder
import Derived.Lib.AppendStr
import Derived.Lib.UnsafeStr
import Derived.Laws.Externs
import Derived.RegionTactic
import Derived.BigRegion
import Derived.Maps.AppendAt
set_option linter.unusedSimpArgs false
set_option linter.unusedVariables false
/- The grammar of elements, as far as it is used: what is read, and where reading stands behind it. No condition. -/
namespace Go.Xe
abbrev Bs := List UInt8
def whiteB (c : UInt8) : Bool := c == 9 || c == 10 || c == 13 || c == 32
def beginsB (c : UInt8) : Bool := (decide (97 ≤ c.toNat) && decide (c.toNat ≤ 122)) || (decide (65 ≤ c.toNat) && decide (c.toNat ≤ 90)) || c == 95 || decide (128 ≤ c.toNat)
def goesB (c : UInt8) : Bool := beginsB c || (decide (48 ≤ c.toNat) && decide (c.toNat ≤ 57)) || c == 45 || c == 46
/-- white signs -/
def ws (r : Bs) : Nat := (r.takeWhile whiteB).length
/-- a name -/
def nameS (r : Bs) : Bs := match r with
  | c :: _ => if beginsB c then r.takeWhile goesB else []
  | [] => []
/-- behind the next place of a text -/
inductive Behind (s : Bs) : Bs → Bs → Prop
  | here (r : Bs) : Behind s (s ++ r) r
  | next (c : UInt8) (r r' : Bs) : ¬ s <+: c :: r → Behind s r r' → Behind s (c :: r) r'
/-- a comment, an instruction, or neither -/
inductive Misc : Bs → Bool → Bs → Prop
  | com (r r' : Bs) : Behind [45, 45] r (62 :: r') → Misc ([60, 33, 45, 45] ++ r) true r'
  | ins (r r' : Bs) : ¬ [60, 33, 45, 45] <+: [60, 63] ++ r → Behind [63, 62] r r' → Misc ([60, 63] ++ r) true r'
  | no (r : Bs) : ¬ [60, 33, 45, 45] <+: r → ¬ [60, 63] <+: r → Misc r false r
/-- around the root -/
inductive Around : Bs → Bs → Prop
  | stop (r : Bs) : Misc (r.drop (ws r)) false (r.drop (ws r)) → Around r (r.drop (ws r))
  | more (r r1 r' : Bs) : Misc (r.drop (ws r)) true r1 → Around r1 r' → Around r r'
/-- behind an & -/
inductive Ent : Bs → Bs → Bs → Prop
  | lt (r : Bs) : Ent ([108, 116, 59] ++ r) [60] r
  | gt (r : Bs) : Ent ([103, 116, 59] ++ r) [62] r
  | amp (r : Bs) : Ent ([97, 109, 112, 59] ++ r) [38] r
  | quot (r : Bs) : Ent ([113, 117, 111, 116, 59] ++ r) [34] r
  | apos (r : Bs) : Ent ([97, 112, 111, 115, 59] ++ r) [39] r
  | cr (r : Bs) : Ent ([35, 49, 51, 59] ++ r) [13] r
/-- signs up to one that ends them (-1: none but the mark) -/
inductive Txt (fin : Int) : Bs → Bs → Bs → Prop
  | nil : Txt fin [] [] []
  | stop (c : UInt8) (r : Bs) : (c = 60 ∨ (c.toNat : Int) = fin) → Txt fin (c :: r) [] (c :: r)
  | byte (c : UInt8) (r o r' : Bs) : c ≠ 60 → (c.toNat : Int) ≠ fin → c ≠ 38 → Txt fin r o r' → Txt fin (c :: r) (c :: o) r'
  | ent (r e r1 o r' : Bs) : fin ≠ 38 → Ent r e r1 → Txt fin r1 o r' → Txt fin (38 :: r) (e ++ o) r'
/-- an attribute: its name, its value -/
inductive Att : Bs → Bs × Bs → Bs → Prop
  | mk (r nm r1 v : Bs) (q : UInt8) (r2 r3 : Bs) : nameS r = nm → nm ≠ [] → nm ≠ [120, 109, 108, 110, 115] → r.drop nm.length = r1 → ¬ [58] <+: r1 → r1.drop (ws r1) = 61 :: r2 → r2.drop (ws r2) = q :: r3 → (q = 34 ∨ q = 39) →
      (r4 : Bs) → Txt (q.toNat : Int) r3 v (q :: r4) → Att r (nm, v) r4
/-- attributes, one at most -/
inductive Atts : Bs → List (Bs × Bs) → Bs → Prop
  | nil (r r' : Bs) (c : UInt8) : r.drop (ws r) = c :: r' → (c = 47 ∨ c = 62) → Atts r [] (c :: r')
  | one (r r1 r2 r' : Bs) (a : Bs × Bs) (c c1 : UInt8) (rc : Bs) : 0 < ws r → r.drop (ws r) = c1 :: rc → c1 ≠ 47 → c1 ≠ 62 → Att (c1 :: rc) a r2 → r2.drop (ws r2) = c :: r' → (c = 47 ∨ c = 62) → Atts r [a] (c :: r')
/-- a node -/
inductive Nd where
  | el (name : Bs) (atts : List (Bs × Bs)) (kids : List Nd)
  | tx (t : Bs)
/-- the beginning's mark: name, attributes, closed -/
inductive Mark : Bs → Bs → List (Bs × Bs) → Bool → Bs → Prop
  | open (r nm : Bs) (l : List (Bs × Bs)) (r1 r2 : Bs) : nameS r = nm → nm ≠ [] → r.drop nm.length = r1 → ¬ [58] <+: r1 → Atts r1 l (62 :: r2) → Mark (60 :: r) nm l false r2
  | shut (r nm : Bs) (l : List (Bs × Bs)) (r1 r2 : Bs) : nameS r = nm → nm ≠ [] → r.drop nm.length = r1 → ¬ [58] <+: r1 → Atts r1 l (47 :: 62 :: r2) → Mark (60 :: r) nm l true r2
mutual
/-- an element: so many in one another, so many marks met -/
inductive Elem : Nat → Nat → Bs → Nd → Nat → Bs → Prop
  | shut (d m : Nat) (r nm : Bs) (l : List (Bs × Bs)) (r1 : Bs) : m < 4000 → Mark r nm l true r1 → Elem (d + 1) m r (.el nm l []) (m + 1) r1
  | open (d m m2 : Nat) (r nm : Bs) (l : List (Bs × Bs)) (r1 : Bs) (ks : List Nd) (r2 r3 r4 : Bs) : m < 4000 → Mark r nm l false r1 → Cont (d + 1) (m + 1) [] r1 ks m2 r2 → nameS r2 = nm → r2.drop nm.length = r3 → ¬ [58] <+: r3 → r3.drop (ws r3) = 62 :: r4 →
      Elem (d + 1) m r (.el nm l ks) m2 r4
/-- a content: the text that is kept, what is read, behind its end's beginning -/
inductive Cont : Nat → Nat → Bs → Bs → List Nd → Nat → Bs → Prop
  | skip (d m m2 : Nat) (t r o r1 r2 : Bs) (ks : List Nd) (r' : Bs) : Txt (-1) r o r1 → Misc r1 true r2 → Cont d m (t ++ o) r2 ks m2 r' → Cont d m t r ks m2 r'
  | done (d m : Nat) (t r o r1 r2 : Bs) : Txt (-1) r o r1 → Misc r1 false r1 → r1 = [60, 47] ++ r2 → Cont d m t r (if t ++ o = [] then [] else [.tx (t ++ o)]) m r2
  | elem (d m m1 m2 : Nat) (t r o r1 r2 : Bs) (k : Nd) (ks : List Nd) (r' : Bs) : Txt (-1) r o r1 → Misc r1 false r1 → ¬ [60, 47] <+: r1 → Elem d m r1 k m1 r2 → Cont (d + 1) m1 [] r2 ks m2 r' →
      Cont (d + 1) m t r ((if t ++ o = [] then [] else [.tx (t ++ o)]) ++ k :: ks) m2 r'
end
end Go.Xe

/- The reader's state; its small functions. No condition. -/
namespace Go.Proofs.YtkpikpaepgknnaaGreatDoor
open Go Go.RowKit Go.Wk Go.Xt Go.Xe
theorem u8_eq (c n : UInt8) : (c == n) = ((c.toNat : Int) == (n.toNat : Int)) := by
  rw [Bool.eq_iff_iff]; simp only [beq_iff_eq]
  exact ⟨fun h => by rw [h], fun h => UInt8.toNat_inj.1 (by omega)⟩
def whiteI (x : Int) : Bool := (x == 9) || (x == 10) || (x == 13) || (x == 32)
def beginsI (x : Int) : Bool := (decide (97 ≤ x) && decide (x ≤ 122)) || (decide (65 ≤ x) && decide (x ≤ 90)) || (x == 95) || decide (128 ≤ x)
def goesI (x : Int) : Bool := beginsI x || (decide (48 ≤ x) && decide (x ≤ 57)) || (x == 45) || (x == 46)
theorem white_u8 (c : UInt8) : whiteI (c.toNat : Int) = whiteB c := by
  unfold whiteI whiteB; rw [u8_eq c 9, u8_eq c 10, u8_eq c 13, u8_eq c 32]; rfl
theorem cast_le (n k : Nat) : decide ((n : Int) ≤ (k : Int)) = decide (n ≤ k) := by rw [Bool.eq_iff_iff]; simp
theorem begins_u8 (c : UInt8) : beginsI (c.toNat : Int) = beginsB c := by
  unfold beginsI beginsB
  rw [u8_eq c 95, ← cast_le, ← cast_le, ← cast_le, ← cast_le, ← cast_le]; rfl
theorem goes_u8 (c : UInt8) : goesI (c.toNat : Int) = goesB c := by
  unfold goesI goesB
  rw [begins_u8, u8_eq c 45, u8_eq c 46, ← cast_le, ← cast_le]; rfl
set_option maxHeartbeats 1000000 in
set_option maxRecDepth 100000 in
theorem xml_white {w : World} (x : Int) : Calls Tryz.prog 161 #[.int .i64 x] w fun e w' => e = .returned (.bool (whiteI x)) ∧ w = w' := by
  have h : whiteI x = ((x == 9) || (x == 10) || (x == 13) || (x == 32)) := rfl
  replace h := Lib.hid h
  generalize whiteI x = B at *
  go_enter Tryz.func161, Tryz.ntmps161
  go_wp2
  all_goals go_ret
  all_goals (refine ⟨congrArg (fun b => Ending.returned (.bool b)) ?_, rfl⟩; first | (rw [h.out, Bool.eq_iff_iff]; done) | (rw [h.out, Bool.eq_iff_iff]; simp; done) | (rw [h.out, Bool.eq_iff_iff]; simp; omega))
set_option maxHeartbeats 1000000 in
set_option maxRecDepth 100000 in
theorem xml_begins {w : World} (x : Int) : Calls Tryz.prog 82 #[.int .i64 x] w fun e w' => e = .returned (.bool (beginsI x)) ∧ w = w' := by
  have h : beginsI x = ((decide (97 ≤ x) && decide (x ≤ 122)) || (decide (65 ≤ x) && decide (x ≤ 90)) || (x == 95) || decide (128 ≤ x)) := rfl
  replace h := Lib.hid h
  generalize beginsI x = B at *
  go_enter Tryz.func82, Tryz.ntmps82
  go_wp2
  all_goals go_ret
  all_goals (refine ⟨congrArg (fun b => Ending.returned (.bool b)) ?_, rfl⟩; first | (rw [h.out, Bool.eq_iff_iff]; done) | (rw [h.out, Bool.eq_iff_iff]; simp; done) | (rw [h.out, Bool.eq_iff_iff]; simp; omega))
set_option maxHeartbeats 1000000 in
set_option maxRecDepth 100000 in
theorem xml_goes {w : World} (x : Int) : Calls Tryz.prog 81 #[.int .i64 x] w fun e w' => e = .returned (.bool (goesI x)) ∧ w = w' := by
  have h : goesI x = (beginsI x || (decide (48 ≤ x) && decide (x ≤ 57)) || (x == 45) || (x == 46)) := rfl
  have cb := xml_begins (w := w) x
  replace h := Lib.hid h
  generalize goesI x = B at *
  generalize beginsI x = V at *
  go_enter Tryz.func81, Tryz.ntmps81
  go_wp2_with (go_at_call 82; (with_reducible refine cb.mono ?_); rintro e w1 ⟨rfl, rfl⟩)
  all_goals go_ret
  all_goals (refine ⟨congrArg (fun b => Ending.returned (.bool b)) ?_, rfl⟩; rw [h.out]; cases V <;> first | (exfalso; simp_all; done) | (rw [Bool.eq_iff_iff]; simp; done) | (rw [Bool.eq_iff_iff]; simp; omega))
set_option maxHeartbeats 1000000 in
theorem xml_passed {w : World} (b : Bool) : Calls Tryz.prog 119 #[.bool b] w fun e w' => e = .returned (.int .i64 (if b then 0 else 4)) ∧ w = w' := by
  cases b
  all_goals
    go_enter Tryz.func119, Tryz.ntmps119
    go_wp2
    go_ret
    exact ⟨rfl, rfl⟩
/-- all lies as it lay, but for two blocks -/
structure Fr (L R : Nat) (w w' : World) : Prop where
  os : w'.os = w.os
  tape : w'.tape = w.tape
  output : w'.output = w.output
  size : w.heap.size ≤ w'.heap.size
  block : ∀ k, k < w.heap.size → k ≠ L → k ≠ R → w'.heap[k]? = w.heap[k]?
theorem Fr.refl (L R : Nat) (w : World) : Fr L R w w := ⟨rfl, rfl, rfl, Nat.le_refl _, fun _ _ _ _ => rfl⟩
theorem Fr.trans {L R : Nat} {a b c : World} (h : Fr L R a b) (k : Fr L R b c) : Fr L R a c :=
  ⟨k.os.trans h.os, k.tape.trans h.tape, k.output.trans h.output, Nat.le_trans h.size k.size, fun j hj h1 h2 => (k.block j (Nat.lt_of_lt_of_le hj h.size) h1 h2).trans (h.block j hj h1 h2)⟩
theorem Fr.of_save {L R : Nat} {a b : World} (h : Save L a b) : Fr L R a b := ⟨h.os, h.tape, h.output, h.size, fun k hk h1 _ => h.block k hk h1⟩
theorem Fr.of_below {L R : Nat} {a b : World} (h : Below a.heap.size a b) : Fr L R a b := ⟨h.os, h.tape, h.output, h.size, fun k hk _ _ => h.block k hk⟩
theorem Fr.below {L R B : Nat} {a b : World} (h : Fr L R a b) (hL : B ≤ L) (hR : B ≤ R) (hB : B ≤ a.heap.size) : Below B a b := ⟨h.os, h.tape, h.output, h.size, fun k hk => h.block k (by omega) (by omega) (by omega)⟩
theorem Fr.store {L R : Nat} {a b : World} (h : Fr L R a b) (o : Nat) (u : Value) : Fr L R a (b.setCell ⟨R, o, none⟩ u) :=
  h.trans ⟨rfl, rfl, rfl, by simp [World.setCell], fun k _ _ hn => Below.heap_setCell _ _ _ _ hn⟩
structure RS (w : World) (L R : Nat) (bv : Value) (A : Option Addr) (c : Nat) (bs : List UInt8) (p many : Nat) : Prop where
  cur : Cur w w L A c bs p
  rdr : Blk w R 134 #[.pointer (some ⟨L, 0, none⟩), .int .i64 (many : Nat), bv]
  ne : L ≠ R
  neA : 0 < bs.length → ∀ x, A = some x → x.block ≠ R
  cap : bs.length ≤ c
section
variable {w w' : World} {L R c p p' many : Nat} {bv : Value} {A : Option Addr} {bs : List UInt8}
theorem Cur.L_lt (h : Cur w w L A c bs p) : L < w.heap.size := cell_lt h.cb
theorem RS.cur_to (h : RS w L R bv A c bs p many) (k : Cur w w' L A c bs p') : RS w' L R bv A c bs p' many ∧ Fr L R w w' :=
  ⟨⟨k.here, (k.bel.block R h.rdr.lt h.ne.symm).trans h.rdr, h.ne, h.neA, h.cap⟩, Fr.of_save k.bel⟩
theorem RS.below (h : RS w L R bv A c bs p many) (hb : Below w.heap.size w w') : RS w' L R bv A c bs p many := by
  have hc := h.cur
  have hL := hc.L_lt
  refine ⟨⟨hc.ne, Save.refl _ _, (hb.cell (p := ⟨L, 0, none⟩) hL).trans hc.cb, (hb.cell (p := ⟨L, 1, none⟩) hL).trans hc.ca, (hb.frozen (p := ⟨L, 1, none⟩) hL).trans hc.fr, hc.byt.below hb, hc.le, hc.small⟩, h.rdr.below hb h.rdr.lt, h.ne, h.neA, h.cap⟩
end
end Go.Proofs.YtkpikpaepgknnaaGreatDoor

/- The reader passes white signs, and what stands behind a text. No condition. -/
namespace Go.Proofs.YtkpikpaepgknnaaGreatDoor
open Go Go.RowKit Go.Wk Go.Xt Go.Xe
section
variable {w : World} {L R c p many : Nat} {bv : Value} {A : Option Addr} {bs : List UInt8}
theorem peek_cons {x : UInt8} {r : List UInt8} (h : bs.drop p = x :: r) : peekS bs p = (x.toNat : Int) := by
  unfold peekS
  have : bs[p]? = some x := by have := congrArg List.head? h; simpa [List.head?_drop] using this
  rw [this]
theorem peek_nil (h : bs.drop p = []) : peekS bs p = -1 := by
  unfold peekS
  have : bs[p]? = none := by have := congrArg List.head? h; simpa [List.head?_drop] using this
  rw [this]
theorem drop_one {x : UInt8} {r : List UInt8} (h : bs.drop p = x :: r) : bs.drop (p + 1) = r ∧ p < bs.length := by
  refine ⟨by rw [← List.tail_drop, h]; rfl, ?_⟩
  rcases Nat.lt_or_ge p bs.length with h1 | h1
  · exact h1
  · rw [List.drop_eq_nil_of_le h1] at h; cases h
theorem drop_app {s r : List UInt8} (h : bs.drop p = s ++ r) (hp : p ≤ bs.length) : bs.drop (p + s.length) = r ∧ p + s.length ≤ bs.length := by
  refine ⟨by rw [← List.drop_drop, h, List.drop_left], ?_⟩
  have := congrArg List.length h
  simp at this; omega
theorem stands_pre {s : List UInt8} (hs : s ≠ []) : stands bs p s = decide (s <+: bs.drop p) := by
  rw [Bool.eq_iff_iff]
  unfold stands
  simp only [Bool.and_eq_true, decide_eq_true_eq, beq_iff_eq]
  constructor
  · rintro ⟨h1, h2⟩; exact ⟨_, by rw [← h2]; exact List.take_append_drop _ _⟩
  · rintro ⟨r, hr⟩
    refine ⟨?_, by rw [← hr]; simp⟩
    have h3 := congrArg List.length hr
    have : 0 < s.length := List.length_pos_iff.2 hs
    simp at h3; omega
theorem rs_peek (h : RS w L R bv A c bs p many) : Calls Tryz.prog 107 #[.pointer (some ⟨L, 0, none⟩), .int .i64 0] w fun e w' => e = .returned (.int .i64 (peekS bs p)) ∧ RS w' L R bv A c bs p many ∧ Fr L R w w' :=
  (cur_peek h.cur).mono fun e w' k => ⟨k.1, h.cur_to k.2⟩
theorem rs_next (h : RS w L R bv A c bs p many) : Calls Tryz.prog 77 #[.pointer (some ⟨L, 0, none⟩)] w fun e w' => e = .returned (.int .i64 (peekS bs p)) ∧ RS w' L R bv A c bs (if p < bs.length then p + 1 else p) many ∧ Fr L R w w' :=
  (cur_next h.cur).mono fun e w' k => ⟨k.1, h.cur_to k.2⟩
theorem rs_left (h : RS w L R bv A c bs p many) : Calls Tryz.prog 75 #[.pointer (some ⟨L, 0, none⟩)] w fun e w' => e = .returned (.int .i64 ((bs.length : Int) - p)) ∧ w = w' :=
  (cur_left h.cur).mono fun e w' k => ⟨k.1, k.2.symm⟩
theorem rs_match (h : RS w L R bv A c bs p many) (s : ByteArray) (hs : 1 ≤ s.size) (hs2 : s.size ≤ 10000000) :
    Calls Tryz.prog 42 #[.pointer (some ⟨L, 0, none⟩), .string s] w fun e w' => e = .returned (.bool (decide (s.data.toList <+: bs.drop p))) ∧ RS w' L R bv A c bs (if s.data.toList <+: bs.drop p then p + s.size else p) many ∧ Fr L R w w' := by
  have hne : s.data.toList ≠ [] := by
    intro e
    have : s.data.toList.length = s.size := Array.length_toList
    rw [e] at this; simp at this; omega
  refine (cur_match s h.cur h.cap hs hs2).mono ?_
  rintro e w' ⟨rfl, k⟩
  have e1 := stands_pre (bs := bs) (p := p) hne
  rw [e1] at k ⊢
  have := h.cur_to k
  simp only [decide_eq_true_eq] at this
  exact ⟨rfl, this⟩
theorem rs_yes (h : RS w L R bv A c bs p many) (s : ByteArray) (r : List UInt8) (hs : 1 ≤ s.size) (hs2 : s.size ≤ 10000000) (hr : bs.drop p = s.data.toList ++ r) :
    Calls Tryz.prog 42 #[.pointer (some ⟨L, 0, none⟩), .string s] w fun e w' => e = .returned (.bool true) ∧ RS w' L R bv A c bs (p + s.size) many ∧ Fr L R w w' := by
  have hp : s.data.toList <+: bs.drop p := ⟨r, hr.symm⟩
  have := rs_match h s hs hs2
  rw [if_pos hp, decide_eq_true hp] at this
  exact this
theorem rs_no (h : RS w L R bv A c bs p many) (s : ByteArray) (hs : 1 ≤ s.size) (hs2 : s.size ≤ 10000000) (hr : ¬ s.data.toList <+: bs.drop p) :
    Calls Tryz.prog 42 #[.pointer (some ⟨L, 0, none⟩), .string s] w fun e w' => e = .returned (.bool false) ∧ RS w' L R bv A c bs p many ∧ Fr L R w w' := by
  have := rs_match h s hs hs2
  rw [if_neg hr, decide_eq_false hr] at this
  exact this
end
theorem ws_cons (x : UInt8) (r : List UInt8) : ws (x :: r) = if whiteB x then ws r + 1 else 0 := by
  unfold ws
  rw [List.takeWhile_cons]
  cases whiteB x <;> simp
theorem ws_le (r : List UInt8) : ws r ≤ r.length := by unfold ws; exact (List.takeWhile_prefix _).length_le
theorem ws_at : ∀ (r : List UInt8) (k : Nat), k < ws r → ∃ x r', r.drop k = x :: r' ∧ whiteB x = true := by
  intro r
  induction r with
  | nil => intro k h; simp [ws] at h
  | cons x r ih =>
    intro k h
    rw [ws_cons] at h
    cases hx : whiteB x with
    | false => rw [hx] at h; simp at h
    | true =>
      rw [hx] at h
      cases k with
      | zero => exact ⟨x, r, rfl, hx⟩
      | succ k => exact ih k (by simp at h; omega)
theorem ws_end : ∀ r : List UInt8, r.drop (ws r) = [] ∨ ∃ x r', r.drop (ws r) = x :: r' ∧ whiteB x = false := by
  intro r
  induction r with
  | nil => left; simp
  | cons x r ih =>
    rw [ws_cons]
    cases hx : whiteB x with
    | false => right; exact ⟨x, r, by simp, hx⟩
    | true => simpa using ih
set_option maxHeartbeats 2000000 in
set_option maxRecDepth 100000 in
theorem xml_blank {w : World} {L R c p many : Nat} {bv : Value} {A : Option Addr} {bs r : List UInt8} (h : RS w L R bv A c bs p many) (hr : bs.drop p = r) :
    Calls Tryz.prog 144 #[.pointer (some ⟨R, 0, none⟩)] w fun e w' => e = .returned (.int .i64 (ws r : Nat)) ∧ RS w' L R bv A c bs (p + ws r) many ∧ Fr L R w w' := by
  have hle := ws_le r
  have hpl := h.cur.le
  have hsm := h.cur.small
  have hrl : r.length = bs.length - p := by rw [← hr]; simp
  have hat := Lib.hid (fun k (hk : k < ws r) => ws_at r k hk)
  have hend := Lib.hid (ws_end r)
  have hdk : Hid (∀ k, bs.drop (p + k) = r.drop k) := Lib.hid fun k => by rw [← hr, List.drop_drop]
  generalize hn : ws r = n at *
  replace hn := Lib.hid hn
  have hn2 : n ≤ 10000000 := by omega
  have hpn : p + n ≤ bs.length := by omega
  replace h := Lib.hid h
  replace hr := Lib.hid hr
  clear hle hrl
  go_enter Tryz.func144, Tryz.ntmps144
  go_wp2
  go_loopw [3] (fun s wr => ∃ k : Nat, k ≤ n ∧ s = .int .i64 k ∧ RS wr L R bv A c bs (p + k) many ∧ Fr L R w wr) (fun s _ => n + 1 - (RowKit.intOf s).toNat)
  case atStart => exact ⟨0, Nat.zero_le _, rfl, h.out, Fr.refl _ _ _⟩
  case round =>
    obtain ⟨k, hk, rfl, hS, hF⟩ := hrel
    have c0 := hS.rdr.cell 0
    have cp := rs_peek hS
    by_cases hlt : k < n
    · obtain ⟨x, r', hx, hw⟩ := hat.out k hlt
      have hx2 : bs.drop (p + k) = x :: r' := (hdk.out k).trans hx
      rw [peek_cons hx2] at cp
      have cw := fun (w : World) => Proofs.YtkpikpaepgknnaaGreatDoor.xml_white (w := w) (x.toNat : Int)
      rw [white_u8, hw] at cw
      have hlt2 := (drop_one hx2).2
      generalize (x.toNat : Int) = X at *
      replace hF := Lib.hid hF
      replace hS := Lib.hid hS
      clear hx hw hx2
      go_wp2_with (first
        | (go_at_call 107; (with_reducible refine cp.mono ?_); rintro e w1 ⟨rfl, h1, f1⟩; have c1 := h1.rdr.cell 0; have cn := rs_next h1; rw [if_pos hlt2] at cn; replace f1 := Lib.hid f1; replace h1 := Lib.hid h1)
        | (go_at_call 161; (with_reducible refine (cw _).mono ?_); rintro e w2 ⟨rfl, rfl⟩)
        | (go_at_call 77; (with_reducible refine cn.mono ?_); rintro e w3 ⟨rfl, h3, f3⟩; replace f3 := Lib.hid f3; replace h3 := Lib.hid h3))
      go_roundw
      case rel => exact ⟨k + 1, by omega, by go_num, h3.out, (hF.out.trans f1.out).trans f3.out⟩
      case measure => simp [RowKit.intOf]; omega
    · obtain rfl : k = n := by omega
      have hz : whiteI (peekS bs (p + k)) = false := by
        rcases hend.out with h0 | ⟨x, r', hx, hw⟩
        · rw [peek_nil ((hdk.out k).trans h0)]; decide
        · rw [peek_cons ((hdk.out k).trans hx), white_u8, hw]
      have cw := fun (w : World) => Proofs.YtkpikpaepgknnaaGreatDoor.xml_white (w := w) (peekS bs (p + k))
      rw [hz] at cw
      generalize peekS bs (p + k) = X at *
      replace hF := Lib.hid hF
      replace hS := Lib.hid hS
      clear hz
      go_wp2_with (first
        | (go_at_call 107; (with_reducible refine cp.mono ?_); rintro e w1 ⟨rfl, h1, f1⟩; replace f1 := Lib.hid f1; replace h1 := Lib.hid h1)
        | (go_at_call 161; (with_reducible refine (cw _).mono ?_); rintro e w2 ⟨rfl, rfl⟩))
      go_ret
      exact ⟨rfl, h1.out, hF.out.trans f1.out⟩
end Go.Proofs.YtkpikpaepgknnaaGreatDoor

/- The reader passes comments, instructions, what stands around the root. No condition. -/
namespace Go.Proofs.YtkpikpaepgknnaaGreatDoor
open Go Go.RowKit Go.Wk Go.Xt Go.Xe
def posOf (L : Nat) (w : World) : Nat := match w.cell? ⟨L, 1, none⟩ with
  | some (.int _ n) => n.toNat
  | _ => 0
theorem RS.pos {w : World} {L R c p many : Nat} {bv : Value} {A : Option Addr} {bs : List UInt8} (h : RS w L R bv A c bs p many) : posOf L w = p := by
  unfold posOf; rw [h.cur.ca]; simp
/-- what is left: where the reader stands -/
structure Rest (bs : List UInt8) (p : Nat) (r : List UInt8) : Prop where
  eq : bs.drop p = r
  le : p ≤ bs.length
set_option maxHeartbeats 2000000 in
set_option maxRecDepth 100000 in
theorem xml_behind {w : World} {L R c p many : Nat} {bv : Value} {A : Option Addr} {bs r r' : List UInt8} (S : ByteArray) (hs : 1 ≤ S.size) (hs2 : S.size ≤ 10000000) (h : RS w L R bv A c bs p many) (hr : Rest bs p r) (hB : Behind S.data.toList r r') :
    Calls Tryz.prog 162 #[.pointer (some ⟨R, 0, none⟩), .string S] w fun e w' => e = .returned (.int .i64 0) ∧ (∃ q, RS w' L R bv A c bs q many ∧ Rest bs q r') ∧ Fr L R w w' := by
  have hsl : S.data.toList.length = S.size := Array.length_toList
  replace h := Lib.hid h
  replace hr := Lib.hid hr
  replace hB := Lib.hid hB
  replace hsl := Lib.hid hsl
  go_enter Tryz.func162, Tryz.ntmps162
  go_wp2
  go_loopw [4] (fun _ wr => ∃ q r1, Rest bs q r1 ∧ Behind S.data.toList r1 r' ∧ RS wr L R bv A c bs q many ∧ Fr L R w wr) (fun _ wr => bs.length + 1 - posOf L wr)
  case atStart => exact ⟨p, r, hr.out, hB.out, h.out, Fr.refl _ _ _⟩
  case round =>
    obtain ⟨q, r1, hq, hB1, hS, hF⟩ := hrel
    have c0 := hS.rdr.cell 0
    have cl := rs_left hS
    have hpos := Lib.hid hS.pos
    replace hF := Lib.hid hF
    clear h hr hB
    cases hB1 with
    | here =>
      have cm := rs_yes hS S r' hs hs2 hq.eq
      have hgt : (0 : Int) < (bs.length : Int) - (q : Int) := by
        have := drop_app hq.eq hq.le
        have := hsl.out
        omega
      have hq2 : Rest bs (q + S.size) r' := by
        have := drop_app hq.eq hq.le
        rw [hsl.out] at this
        exact ⟨this.1, this.2⟩
      replace hS := Lib.hid hS
      replace hq := Lib.hid hq
      replace hq2 := Lib.hid hq2
      generalize (bs.length : Int) - (q : Int) = X at *
      go_wp2_with (first
        | (go_at_call 75; (with_reducible refine cl.mono ?_); rintro e w1 ⟨rfl, rfl⟩)
        | (go_at_call 42; (with_reducible refine cm.mono ?_); rintro e w2 ⟨rfl, h2, f2⟩; replace f2 := Lib.hid f2; replace h2 := Lib.hid h2))
      go_ret
      exact ⟨rfl, ⟨_, h2.out, hq2.out⟩, hF.out.trans f2.out⟩
    | next x r2 _ hno hB2 =>
      have cm := rs_no hS S hs hs2 (by rw [hq.eq]; exact hno)
      obtain ⟨hd, hlt⟩ := drop_one hq.eq
      have hgt : (0 : Int) < (bs.length : Int) - (q : Int) := by omega
      have hq2 : Rest bs (q + 1) r2 := ⟨hd, hlt⟩
      replace hS := Lib.hid hS
      replace hq := Lib.hid hq
      replace hq2 := Lib.hid hq2
      replace hB2 := Lib.hid hB2
      replace hno := Lib.hid hno
      replace hd := Lib.hid hd
      generalize (bs.length : Int) - (q : Int) = X at *
      go_wp2_with (first
        | (go_at_call 75; (with_reducible refine cl.mono ?_); rintro e w1 ⟨rfl, rfl⟩)
        | (go_at_call 42; (with_reducible refine cm.mono ?_); rintro e w2 ⟨rfl, h2, f2⟩; have c2 := h2.rdr.cell 0; have cn := rs_next h2; rw [if_pos hlt] at cn; replace f2 := Lib.hid f2; replace h2 := Lib.hid h2)
        | (go_at_call 77; (with_reducible refine cn.mono ?_); rintro e w3 ⟨rfl, h3, f3⟩; replace f3 := Lib.hid f3; replace h3 := Lib.hid h3))
      go_roundw
      case rel => exact ⟨q + 1, r2, hq2.out, hB2.out, h3.out, (hF.out.trans f2.out).trans f3.out⟩
      case measure =>
        rw [h3.out.pos, hpos.out]; omega
def End (w : World) (L R : Nat) (bv : Value) (A : Option Addr) (c : Nat) (bs : List UInt8) (many : Nat) (r : List UInt8) (w' : World) : Prop := (∃ q, RS w' L R bv A c bs q many ∧ Rest bs q r) ∧ Fr L R w w'
theorem Rest.app {bs s r : List UInt8} {p : Nat} (h : Rest bs p (s ++ r)) : Rest bs (p + s.length) r := by
  have := drop_app h.eq h.le
  exact ⟨this.1, this.2⟩
set_option maxHeartbeats 2000000 in
set_option maxRecDepth 100000 in
theorem xml_misc {w : World} {L R c p many : Nat} {bv : Value} {A : Option Addr} {bs r r' : List UInt8} {more : Bool} (h : RS w L R bv A c bs p many) (hr : Rest bs p r) (hM : Misc r more r') :
    Calls Tryz.prog 145 #[.pointer (some ⟨R, 0, none⟩)] w fun e w' => e = .returned (.tuple #[.bool more, .int .i64 0]) ∧ End w L R bv A c bs many r' w' := by
  have c0 := h.rdr.cell 0
  cases hM with
  | com r0 _ hB =>
    have m1 : Calls Tryz.prog 42 #[.pointer (some ⟨L, 0, none⟩), .string ⟨#[60, 33, 45, 45]⟩] w fun e w' => e = .returned (.bool true) ∧ RS w' L R bv A c bs (p + 4) many ∧ Fr L R w w' := rs_yes h ⟨#[60, 33, 45, 45]⟩ r0 (by decide) (by decide) hr.eq
    have hr1 : Rest bs (p + 4) r0 := hr.app
    have m2 : ∀ w1, RS w1 L R bv A c bs (p + 4) many → Calls Tryz.prog 162 #[.pointer (some ⟨R, 0, none⟩), .string ⟨#[45, 45]⟩] w1 fun e w' => e = .returned (.int .i64 0) ∧ (∃ q, RS w' L R bv A c bs q many ∧ Rest bs q (62 :: r')) ∧ Fr L R w1 w' := fun w1 h1 => xml_behind ⟨#[45, 45]⟩ (by decide) (by decide) h1 hr1 hB
    have m3 : ∀ w2 q, RS w2 L R bv A c bs q many → Rest bs q (62 :: r') → Calls Tryz.prog 42 #[.pointer (some ⟨L, 0, none⟩), .string ⟨#[62]⟩] w2 fun e w' => e = .returned (.bool true) ∧ RS w' L R bv A c bs (q + 1) many ∧ Fr L R w2 w' := fun w2 q h2 hq => rs_yes h2 ⟨#[62]⟩ r' (by decide) (by decide) hq.eq
    have cps := fun (w : World) => xml_passed (w := w) true
    simp only [if_true] at cps
    replace m2 := Lib.hid m2
    replace m3 := Lib.hid m3
    clear hr h hr1 hB
    go_enter Tryz.func145, Tryz.ntmps145
    go_wp2_with (first
      | (go_at_call 42; (with_reducible refine m1.mono ?_); rintro e w1 ⟨rfl, h1, f1⟩; have k2 := m2.out w1 h1; replace f1 := Lib.hid f1; replace h1 := Lib.hid h1; clear m1)
      | (go_at_call 162; (with_reducible refine k2.mono ?_); rintro e w2 ⟨rfl, ⟨q, h2, hq⟩, f2⟩; have k3 := m3.out w2 q h2 hq; have c2 := h2.rdr.cell 0; replace f2 := Lib.hid f2; replace h2 := Lib.hid h2; replace hq := Lib.hid hq)
      | (go_at_call 42; (with_reducible refine k3.mono ?_); rintro e w3 ⟨rfl, h3, f3⟩; replace f3 := Lib.hid f3; replace h3 := Lib.hid h3)
      | (go_at_call 119; (with_reducible refine (cps _).mono ?_); rintro e w4 ⟨rfl, rfl⟩))
    go_ret2
    exact ⟨rfl, ⟨_, h3.out, hq.out.app (s := [62])⟩, (f1.out.trans f2.out).trans f3.out⟩
  | ins r0 _ hno hB =>
    have m1 : Calls Tryz.prog 42 #[.pointer (some ⟨L, 0, none⟩), .string ⟨#[60, 33, 45, 45]⟩] w fun e w' => e = .returned (.bool false) ∧ RS w' L R bv A c bs p many ∧ Fr L R w w' := rs_no h ⟨#[60, 33, 45, 45]⟩ (by decide) (by decide) (by rw [hr.eq]; exact hno)
    have m2 : ∀ w1, RS w1 L R bv A c bs p many → Calls Tryz.prog 42 #[.pointer (some ⟨L, 0, none⟩), .string ⟨#[60, 63]⟩] w1 fun e w' => e = .returned (.bool true) ∧ RS w' L R bv A c bs (p + 2) many ∧ Fr L R w1 w' := fun w1 h1 => rs_yes h1 ⟨#[60, 63]⟩ r0 (by decide) (by decide) hr.eq
    have hr1 : Rest bs (p + 2) r0 := hr.app
    have m3 : ∀ w1, RS w1 L R bv A c bs (p + 2) many → Calls Tryz.prog 162 #[.pointer (some ⟨R, 0, none⟩), .string ⟨#[63, 62]⟩] w1 fun e w' => e = .returned (.int .i64 0) ∧ (∃ q, RS w' L R bv A c bs q many ∧ Rest bs q r') ∧ Fr L R w1 w' := fun w1 h1 => xml_behind ⟨#[63, 62]⟩ (by decide) (by decide) h1 hr1 hB
    replace m2 := Lib.hid m2
    replace m3 := Lib.hid m3
    clear hr h hr1 hB hno
    go_enter Tryz.func145, Tryz.ntmps145
    go_wp2_with (first
      | (go_at_call 42; (with_reducible refine m1.mono ?_); rintro e w1 ⟨rfl, h1, f1⟩; have k2 := m2.out w1 h1; have c1 := h1.rdr.cell 0; replace f1 := Lib.hid f1; replace h1 := Lib.hid h1; clear m1)
      | (go_at_call 42; (with_reducible refine k2.mono ?_); rintro e w2 ⟨rfl, h2, f2⟩; have k3 := m3.out w2 h2; replace f2 := Lib.hid f2; replace h2 := Lib.hid h2)
      | (go_at_call 162; (with_reducible refine k3.mono ?_); rintro e w3 ⟨rfl, hq, f3⟩; replace f3 := Lib.hid f3; replace hq := Lib.hid hq))
    go_ret2
    exact ⟨rfl, hq.out, (f1.out.trans f2.out).trans f3.out⟩
  | no _ h1' h2' =>
    have m1 : Calls Tryz.prog 42 #[.pointer (some ⟨L, 0, none⟩), .string ⟨#[60, 33, 45, 45]⟩] w fun e w' => e = .returned (.bool false) ∧ RS w' L R bv A c bs p many ∧ Fr L R w w' := rs_no h ⟨#[60, 33, 45, 45]⟩ (by decide) (by decide) (by rw [hr.eq]; exact h1')
    have m2 : ∀ w1, RS w1 L R bv A c bs p many → Calls Tryz.prog 42 #[.pointer (some ⟨L, 0, none⟩), .string ⟨#[60, 63]⟩] w1 fun e w' => e = .returned (.bool false) ∧ RS w' L R bv A c bs p many ∧ Fr L R w1 w' := fun w1 h1 => rs_no h1 ⟨#[60, 63]⟩ (by decide) (by decide) (by rw [hr.eq]; exact h2')
    replace m2 := Lib.hid m2
    replace hr := Lib.hid hr
    clear h h1' h2'
    go_enter Tryz.func145, Tryz.ntmps145
    go_wp2_with (first
      | (go_at_call 42; (with_reducible refine m1.mono ?_); rintro e w1 ⟨rfl, h1, f1⟩; have k2 := m2.out w1 h1; have c1 := h1.rdr.cell 0; replace f1 := Lib.hid f1; replace h1 := Lib.hid h1; clear m1)
      | (go_at_call 42; (with_reducible refine k2.mono ?_); rintro e w2 ⟨rfl, h2, f2⟩; replace f2 := Lib.hid f2; replace h2 := Lib.hid h2))
    go_ret2
    exact ⟨rfl, ⟨_, h2.out, hr.out⟩, f1.out.trans f2.out⟩
end Go.Proofs.YtkpikpaepgknnaaGreatDoor

/- The reader passes what stands around the root; it reads names. No condition. -/
namespace Go.Proofs.YtkpikpaepgknnaaGreatDoor
open Go Go.RowKit Go.Wk Go.Xt Go.Xe
theorem behind_len {s r r' : List UInt8} (h : Behind s r r') : r'.length ≤ r.length := by
  induction h with
  | here r => simp
  | next c r r' _ _ ih => simp; omega
theorem misc_len {r r' : List UInt8} (h : Misc r true r') : r'.length < r.length := by
  cases h with
  | com r0 _ hB => have := behind_len hB; simp at this ⊢; omega
  | ins r0 _ _ hB => have := behind_len hB; simp at this ⊢; omega
theorem Rest.len {bs r : List UInt8} {p : Nat} (h : Rest bs p r) : p + r.length = bs.length := by
  have := congrArg List.length h.eq; have := h.le; simp at *; omega
theorem Rest.ws_ {bs r : List UInt8} {p : Nat} (h : Rest bs p r) : Rest bs (p + ws r) (r.drop (ws r)) := by
  have h1 := h.len
  have h2 := ws_le r
  exact ⟨by rw [← h.eq, List.drop_drop], by omega⟩
set_option maxHeartbeats 2000000 in
set_option maxRecDepth 100000 in
theorem xml_around {w : World} {L R c p many : Nat} {bv : Value} {A : Option Addr} {bs r r' : List UInt8} (h : RS w L R bv A c bs p many) (hr : Rest bs p r) (hA : Around r r') :
    Calls Tryz.prog 117 #[.pointer (some ⟨R, 0, none⟩)] w fun e w' => e = .returned (.int .i64 0) ∧ End w L R bv A c bs many r' w' := by
  replace h := Lib.hid h
  replace hr := Lib.hid hr
  replace hA := Lib.hid hA
  go_enter Tryz.func117, Tryz.ntmps117
  go_wp2
  go_loopw [3] (fun _ wr => ∃ q r1, Rest bs q r1 ∧ Around r1 r' ∧ RS wr L R bv A c bs q many ∧ Fr L R w wr) (fun _ wr => bs.length + 1 - posOf L wr)
  case atStart => exact ⟨p, r, hr.out, hA.out, h.out, Fr.refl _ _ _⟩
  case round =>
    obtain ⟨q, r1, hq, hA1, hS, hF⟩ := hrel
    have cb := xml_blank hS hq.eq
    have hq1 := hq.ws_
    have hpos := Lib.hid hS.pos
    replace hF := Lib.hid hF
    replace hS := Lib.hid hS
    clear h hr hA
    cases hA1 with
    | stop _ hM =>
      have cm : ∀ w1, RS w1 L R bv A c bs (q + ws r1) many → Calls Tryz.prog 145 #[.pointer (some ⟨R, 0, none⟩)] w1 fun e w' => e = .returned (.tuple #[.bool false, .int .i64 0]) ∧ End w1 L R bv A c bs many (r1.drop (ws r1)) w' := fun w1 h1 => xml_misc h1 hq1 hM
      replace cm := Lib.hid cm
      clear hq hq1 hM
      generalize hn : ws r1 = n at *
      replace hn := Lib.hid hn
      go_wp2_with (first
        | (go_at_call 144; (with_reducible refine cb.mono ?_); rintro e w1 ⟨rfl, h1, f1⟩; have k1 := cm.out w1 h1; replace f1 := Lib.hid f1; replace h1 := Lib.hid h1)
        | (go_at_call 145; (with_reducible refine k1.mono ?_); rintro e w2 ⟨rfl, h2⟩; replace h2 := Lib.hid h2))
      go_ret
      have h3 := h2.out
      rw [← hn.out] at h3
      exact ⟨rfl, h3.1, (hF.out.trans f1.out).trans h3.2⟩
    | more _ r2 _ hM hA2 =>
      have cm : ∀ w1, RS w1 L R bv A c bs (q + ws r1) many → Calls Tryz.prog 145 #[.pointer (some ⟨R, 0, none⟩)] w1 fun e w' => e = .returned (.tuple #[.bool true, .int .i64 0]) ∧ End w1 L R bv A c bs many r2 w' := fun w1 h1 => xml_misc h1 hq1 hM
      have hl1 := misc_len hM
      have hl2 := hq1.len
      have hl3 := hq.len
      have hl4 := ws_le r1
      replace cm := Lib.hid cm
      replace hA2 := Lib.hid hA2
      replace hl1 := Lib.hid hl1
      replace hl2 := Lib.hid hl2
      replace hl3 := Lib.hid hl3
      replace hl4 := Lib.hid hl4
      clear hq hq1 hM
      generalize hn : ws r1 = n at *
      replace hn := Lib.hid hn
      go_wp2_with (first
        | (go_at_call 144; (with_reducible refine cb.mono ?_); rintro e w1 ⟨rfl, h1, f1⟩; have k1 := cm.out w1 h1; replace f1 := Lib.hid f1; replace h1 := Lib.hid h1)
        | (go_at_call 145; (with_reducible refine k1.mono ?_); rintro e w2 ⟨rfl, h2⟩; replace h2 := Lib.hid h2))
      obtain ⟨⟨q2, hS2, hq2⟩, f2⟩ := h2.out
      go_roundw
      case rel => exact ⟨q2, r2, hq2, hA2.out, hS2, (hF.out.trans f1.out).trans f2⟩
      case measure =>
        rw [hS2.pos, hpos.out]
        have a1 := hl1.out
        have a2 := hl2.out
        have a3 := hl3.out
        have a4 := hl4.out
        have a5 := hq2.len
        simp at a1 a2
        omega
set_option maxHeartbeats 1000000 in
set_option maxRecDepth 100000 in
theorem cur_peekN {w0 w : World} {L : Nat} {A : Option Addr} {c : Nat} {bs : List UInt8} {p : Nat} (n : Nat) (hn : n ≤ 10000000) (h : Cur w0 w L A c bs p) :
    Calls Tryz.prog 107 #[.pointer (some ⟨L, 0, none⟩), .int .i64 n] w fun e w' => e = .returned (.int .i64 (peekS bs (p + n))) ∧ Cur w0 w' L A c bs p := by
  have H := Lib.hid h
  obtain ⟨h1, h2, h3, h4, h5, h6, h7, h8⟩ := h
  have hS := Lib.hid (show peekS bs (p + n) = match bs[p + n]? with | some b => (b.toNat : Int) | none => -1 from rfl)
  generalize peekS bs (p + n) = S at *
  have hneg : ¬ (n : Int) < -(p : Int) := by omega
  by_cases hlt : p + n < bs.length
  · obtain ⟨b, o, rfl, hc⟩ := h6.2 (by omega)
    have hck := (h2.cell (p := ⟨b, o + (p + n), none⟩) (show b ≠ L from h1 (by omega) ⟨b, o, none⟩ rfl) (cell_lt (hc (p + n) hlt))).trans (hc (p + n) hlt)
    have hS2 := Lib.hid (show S = (bs[p + n].toNat : Int) by rw [hS.out, List.getElem?_eq_getElem hlt])
    generalize bs[p + n] = x at *
    have hg : ¬ (bs.length : Int) - (p : Int) ≤ (n : Int) := by omega
    clear hc h6 h2 h1
    go_enter Tryz.func107, Tryz.ntmps107
    go_wp2
    · go_quiet (fail)
      go_wp2
      go_ret
      have hxw : wrap64 (x.toNat : Int) = (x.toNat : Int) := by have := u8_lt x; unfold wrap64; omega
      exact ⟨by rw [hS2.out]; exact congrArg (fun z => Ending.returned (.int .i64 z)) hxw, H.out.drawn _⟩
  · have hS2 := Lib.hid (show S = -1 by rw [hS.out, List.getElem?_eq_none (by omega)])
    have hg : (bs.length : Int) - (p : Int) ≤ (n : Int) := by omega
    clear h6 h2 h1
    go_enter Tryz.func107, Tryz.ntmps107
    go_wp2
    go_ret
    exact ⟨by rw [hS2.out]; rfl, H.out⟩
theorem rs_peekN {w : World} {L R c p many : Nat} {bv : Value} {A : Option Addr} {bs : List UInt8} (n : Nat) (hn : n ≤ 10000000) (h : RS w L R bv A c bs p many) : Calls Tryz.prog 107 #[.pointer (some ⟨L, 0, none⟩), .int .i64 n] w fun e w' => e = .returned (.int .i64 (peekS bs (p + n))) ∧ RS w' L R bv A c bs p many ∧ Fr L R w w' :=
  (cur_peekN n hn h.cur).mono fun e w' k => ⟨k.1, h.cur_to k.2⟩
end Go.Proofs.YtkpikpaepgknnaaGreatDoor

/- The reader reads a name. No condition. -/
namespace Go.Proofs.YtkpikpaepgknnaaGreatDoor
open Go Go.RowKit Go.Wk Go.Xt Go.Xe
theorem tw_at (f : UInt8 → Bool) : ∀ (r : List UInt8) (k : Nat), k < (r.takeWhile f).length → ∃ x r', r.drop k = x :: r' ∧ f x = true := by
  intro r
  induction r with
  | nil => intro k h; simp at h
  | cons x r ih =>
    intro k h
    rw [List.takeWhile_cons] at h
    cases hx : f x with
    | false => rw [hx] at h; simp at h
    | true =>
      rw [hx] at h
      cases k with
      | zero => exact ⟨x, r, rfl, hx⟩
      | succ k => exact ih k (by simp at h; omega)
theorem tw_end (f : UInt8 → Bool) : ∀ r : List UInt8, r.drop (r.takeWhile f).length = [] ∨ ∃ x r', r.drop (r.takeWhile f).length = x :: r' ∧ f x = false := by
  intro r
  induction r with
  | nil => left; simp
  | cons x r ih =>
    rw [List.takeWhile_cons]
    cases hx : f x with
    | false => right; exact ⟨x, r, by simp, hx⟩
    | true => simpa using ih
theorem name_tw {r nm : List UInt8} (h : nameS r = nm) (hne : nm ≠ []) : nm = r.takeWhile goesB ∧ ∃ x r', r = x :: r' ∧ beginsB x = true := by
  unfold nameS at h
  cases r with
  | nil => exact absurd h.symm hne
  | cons x r =>
    simp only at h
    cases hb : beginsB x with
    | false => rw [hb] at h; exact absurd h.symm (by simpa using hne)
    | true => rw [hb] at h; exact ⟨by simpa using h.symm, x, r, rfl, hb⟩
set_option maxHeartbeats 2000000 in
set_option maxRecDepth 100000 in
theorem xml_one {w : World} {L R c p many : Nat} {bv : Value} {A : Option Addr} {bs r nm : List UInt8} (h : RS w L R bv A c bs p many) (hr : Rest bs p r) (hn : nameS r = nm) (hne : nm ≠ []) :
    Calls Tryz.prog 166 #[.pointer (some ⟨R, 0, none⟩)] w fun e w' => e = .returned (.tuple #[str nm, .int .i64 0]) ∧ End w L R bv A c bs many (r.drop nm.length) w' := by
  obtain ⟨htw, x0, rr, hx0, hb0⟩ := name_tw hn hne
  have hpos : 0 < nm.length := List.length_pos_iff.2 hne
  have hpre : nm <+: r := by rw [htw]; exact List.takeWhile_prefix _
  have hlen := hr.len
  have hle := hpre.length_le
  have hsm := h.cur.small
  have hat : Hid (∀ k, k < nm.length → ∃ x r', bs.drop (p + k) = x :: r' ∧ goesB x = true) := Lib.hid fun k hk => by
    obtain ⟨x, r', h1, h2⟩ := tw_at goesB r k (by rw [← htw]; exact hk)
    exact ⟨x, r', by rw [← List.drop_drop, hr.eq]; exact h1, h2⟩
  have hend : Hid (goesI (peekS bs (p + nm.length)) = false) := Lib.hid (by
    have := tw_end goesB r
    rw [← htw] at this
    rcases this with h0 | ⟨x, r', h1, h2⟩
    · rw [peek_nil (by rw [← List.drop_drop, hr.eq]; exact h0)]; decide
    · rw [peek_cons (by rw [← List.drop_drop, hr.eq]; exact h1), goes_u8, h2])
  have hrest : Hid (Rest bs (p + nm.length) (r.drop nm.length)) := Lib.hid ⟨by rw [← List.drop_drop, hr.eq], by omega⟩
  have htake : Hid (takeS bs p nm.length = nm ∧ takeB bs p nm.length = true) := Lib.hid (by
    have hok : p + nm.length ≤ bs.length := by omega
    unfold takeS takeB
    rw [if_pos hok, hr.eq]
    exact ⟨(List.prefix_iff_eq_take.1 hpre).symm, by simp [hok]⟩)
  have hp0 : bs.drop p = x0 :: rr := by rw [hr.eq, hx0]
  have cp0 := rs_peek h
  rw [peek_cons hp0] at cp0
  have cb := fun (w : World) => xml_begins (w := w) (x0.toNat : Int)
  rw [begins_u8, hb0] at cb
  generalize (x0.toNat : Int) = X0 at *
  have c0 := h.rdr.cell 0
  obtain ⟨n, hnn⟩ : ∃ n, n = nm.length := ⟨_, rfl⟩
  rw [← hnn] at hat hend hrest htake hpos hle
  replace hnn := Lib.hid hnn
  replace h := Lib.hid h
  have hn5 : n ≤ 10000000 := by omega
  replace hlen := Lib.hid hlen
  replace hle := Lib.hid hle
  clear hp0 hx0 hpre htw hn hb0
  have cps : ∀ w : World, Calls Tryz.prog 119 #[.bool true] w fun e w' => e = .returned (.int .i64 0) ∧ w' = w := fun w => (xml_passed (w := w) true).mono fun e w' k => ⟨k.1, k.2.symm⟩
  go_enter Tryz.func166, Tryz.ntmps166
  go_wp2_with (first
    | (go_at_call 107; (with_reducible refine cp0.mono ?_); rintro e w1 ⟨rfl, h1, f1⟩; replace f1 := Lib.hid f1; replace h1 := Lib.hid h1)
    | (go_at_call 82; (with_reducible refine (cb _).mono ?_); rintro e w2 ⟨rfl, rfl⟩))
  clear cp0 cb c0
  go_loopw [4] (fun s wr => ∃ k : Nat, k ≤ n ∧ s = .int .i64 k ∧ RS wr L R bv A c bs p many ∧ Fr L R w wr) (fun s _ => n + 1 - (RowKit.intOf s).toNat)
  case atStart => exact ⟨0, Nat.zero_le _, rfl, h1.out, f1.out⟩
  case round =>
    obtain ⟨k, hk, rfl, hS, hF⟩ := hrel
    have c0 := hS.rdr.cell 0
    have cp := rs_peekN k (by omega) hS
    by_cases hlt : k < n
    · obtain ⟨x, r', hx, hg⟩ := hat.out k hlt
      rw [peek_cons hx] at cp
      have cg := fun (w : World) => xml_goes (w := w) (x.toNat : Int)
      rw [goes_u8, hg] at cg
      generalize (x.toNat : Int) = X at *
      replace hF := Lib.hid hF
      replace hS := Lib.hid hS
      clear hx hg
      go_wp2_with (first
        | (go_at_call 107; (with_reducible refine cp.mono ?_); rintro e w2 ⟨rfl, h2, f2⟩; replace f2 := Lib.hid f2; replace h2 := Lib.hid h2)
        | (go_at_call 81; (with_reducible refine (cg _).mono ?_); rintro e w3 ⟨rfl, rfl⟩))
      go_roundw
      case rel => exact ⟨k + 1, by omega, by go_num, h2.out, hF.out.trans f2.out⟩
      case measure => simp [RowKit.intOf]; omega
    · obtain rfl : k = n := by omega
      have cg := fun (w : World) => xml_goes (w := w) (peekS bs (p + k))
      rw [hend.out] at cg
      generalize peekS bs (p + k) = X at *
      replace hF := Lib.hid hF
      replace hS := Lib.hid hS
      go_wp2_with (first
        | (go_at_call 107; (with_reducible refine cp.mono ?_); rintro e w2 ⟨rfl, h2, f2⟩; have c2 := h2.rdr.cell 0; have ct := cur_take k h2.cur h2.cap hpos hn5; replace f2 := Lib.hid f2; replace h2 := Lib.hid h2)
        | (go_at_call 81; (with_reducible refine (cg _).mono ?_); rintro e w3 ⟨rfl, rfl⟩)
        | (go_at_call 76; (with_reducible refine ct.mono ?_); rintro e w4 ⟨A4, c4, rfl, hby, hc4⟩; rw [htake.out.1, htake.out.2] at *; have hcv := fun n => conv_byt (c := c4) (hby.below (below_drawn w4 n)); have e4 := h2.out.cur_to hc4; simp only [if_true] at e4; replace e4 := Lib.hid e4; replace hby := Lib.hid hby; clear hc4))
      go_quiet ((go_at_call 119; exact Calls.quiet_of_same (cps _)))
      go_wp2
      go_ret2
      have hz := hrest.out
      have e5 := e4.out.1.below (below_drawn w4 nq)
      rw [hnn.out] at hz e5
      exact ⟨rfl, ⟨_, e5, hz⟩, ((hF.out.trans f2.out).trans e4.out.2).trans (Fr.of_below (below_drawn w4 nq))⟩
end Go.Proofs.YtkpikpaepgknnaaGreatDoor

/- The builder's writes, at this program's numbers. No condition. -/
namespace Go.Proofs.YtkpikpaepgknnaaGreatDoor
open Go Go.RowKit Go.Wk Go.Xt Go.Xe Go.Lib
set_option maxRecDepth 100000 in
theorem byte_info : ∃ i, Tryz.prog.info? 5 = some i ∧ i.zero = some (.int .u8 0) ∧ i.size = 1 ∧ i.bytes = 1 := ⟨_, rfl, by kernel_rfl, by kernel_rfl, by kernel_rfl⟩
set_option maxRecDepth 100000 in
theorem bld_info : ∃ i, Tryz.prog.info? 154 = some i ∧ i.size = 2 := ⟨_, rfl, by kernel_rfl⟩
set_option maxHeartbeats 1000000 in
set_option maxRecDepth 100000 in
theorem bld_check_used (b : Nat) (w : World) (h0 : w.cell? ⟨b, 0, none⟩ = some (.pointer (some ⟨b, 0, none⟩))) :
    Calls Tryz.prog 143 #[.pointer (some ⟨b, 0, none⟩)] w fun e w' => e = .returned (.tuple #[]) ∧ w' = w := by
  obtain ⟨j, hj, _⟩ := bld_info
  go_enter Tryz.func143, Tryz.ntmps143
  go_wp2
  rw [Lib.run_neq_ptr_same w _ Tryz.underlying152 hj]
  go_wp2
  go_end0
  exact ⟨rfl, rfl⟩
set_option maxHeartbeats 1000000 in
set_option maxRecDepth 100000 in
theorem bld_check_fresh (b : Nat) (w : World) (h0 : w.cell? ⟨b, 0, none⟩ = some (.pointer none)) (hsh : w.shape? b = some (154, 2)) (hfz : w.frozen? ⟨b, 0, none⟩ = false) :
    Calls Tryz.prog 143 #[.pointer (some ⟨b, 0, none⟩)] w fun e w' => e = .returned (.tuple #[]) ∧ w' = w.setCell ⟨b, 0, none⟩ (.pointer (some ⟨b, 0, none⟩)) := by
  obtain ⟨j, hj, hjs⟩ := bld_info
  go_enter Tryz.func143, Tryz.ntmps143
  go_wp2
  rw [Lib.run_to_unsafe w ⟨b, 0, none⟩ Tryz.underlying152 Tryz.underlying196 hj (by rw [hjs]; decide) hsh (Nat.zero_lt_succ 1)]
  simp only [Result.andThen]
  rw [Oper.upon_value]
  go_wp2
  rw [run_callFunc_extern Tryz.func160 (by kernel_rfl) (by kernel_rfl) (by kernel_rfl) (e := Extern.AbiNoEscape.same) (by kernel_rfl)]
  rw [Lib.run_noEscape]
  simp only [Result.andThen]
  rw [Oper.upon_value]
  go_wp2
  rw [Lib.run_from_unsafe w ⟨b, 0, none⟩ Tryz.underlying196 Tryz.underlying152 hj hsh (by kernel_rfl)]
  simp only [Result.andThen]
  rw [Oper.upon_value]
  go_wp2
  go_end0
  exact ⟨rfl, rfl⟩
theorem bld_check (B b : Nat) (bs : List Value) (w : World) (h : Lib.IsBuilder 154 5 B b bs w) :
    Calls Tryz.prog 143 #[.pointer (some ⟨b, 0, none⟩)] w fun e w' => e = .returned (.tuple #[]) ∧ (Lib.BuilderAt 154 5 B b (.pointer (some ⟨b, 0, none⟩)) bs w' ∧ Below B w w') := by
  rcases h with h | h
  · refine (bld_check_fresh b w h.cell0 h.shape h.frozen0).mono ?_
    rintro e w' ⟨rfl, rfl⟩
    exact ⟨rfl, h.used _, (Below.refl B w).setCell (p := ⟨b, 0, none⟩) h.1 _⟩
  · refine (bld_check_used b w h.cell0).mono ?_
    rintro e w' ⟨rfl, rfl⟩
    exact ⟨rfl, h, Below.refl B _⟩
set_option maxHeartbeats 2000000 in
set_option maxRecDepth 100000 in
theorem bld_byte (B b : Nat) (bs : List Value) (c : Int) (w : World) (h : Lib.IsBuilder 154 5 B b bs w) (hlen : bs.length + 1 ≤ 140737488355328) (hBw : B ≤ w.heap.size) :
    Calls Tryz.prog 176 #[.pointer (some ⟨b, 0, none⟩), .int .u8 c] w fun e w' => e = .returned .nilIface ∧ (Lib.IsBuilder 154 5 B b (bs ++ [.int .u8 c]) w' ∧ Below B w w') := by
  obtain ⟨i0, hi, hz0, hz1, hz2⟩ := byte_info
  go_enter Tryz.func176, Tryz.ntmps176
  go_wp2_with (go_at_call 143; refine (bld_check B b bs _ h).mono ?_)
  rintro e w1 ⟨rfl, h1, hb1⟩
  obtain ⟨hB, v, hbk, hown, hne⟩ := h1
  have c0 : w1.cell? ⟨b, 0, none⟩ = some (.pointer (some ⟨b, 0, none⟩)) := by rw [Lib.cell_of_heap hbk]; rfl
  have c1 : w1.cell? ⟨b, 1, none⟩ = some v := by rw [Lib.cell_of_heap hbk]; rfl
  go_wp2_with (at_builtin; refine wpList_append_own _ rfl _ _ 25 rfl B 5 i0 (.int .u8 0) 1 1 Tryz.underlying25 hi hz0 hz1 hz2 rfl (by decide) _ _ _ rfl (hown.alloc _) ⟨w1.heap.size, 0, none⟩ 1 1 [.int .u8 c] rfl rfl ?c1 ?c2 ?c3 ?c4 ?c5 ?_)
  case c1 =>
    intro j u hj
    match j, hj with
    | 0, hj => simp at hj; subst hj; simp [Addr.add]
  case c2 => intro u hu; simp at hu; subst hu; rfl
  case c3 => unfold maxLen; omega
  case c4 => omega
  case c5 => have := hb1.size; simp; omega
  intro v' w2 hown' hgrow _
  have hlt : b < w1.heap.size := by
    rcases Nat.lt_or_ge b w1.heap.size with h' | h'
    · exact h'
    · simp [Array.getElem?_eq_none h'] at hbk
  have hb2 : w2.heap[b]? = some (.cells #[.pointer (some ⟨b, 0, none⟩), v] 154 (0, 0)) := by
    rw [hgrow.block b (by simp; omega) (fun e => hne e.symm), Lib.alloc_old w1 _ b hlt]
    exact hbk
  have d0 : w2.cell? ⟨b, 0, none⟩ = some (.pointer (some ⟨b, 0, none⟩)) := by rw [Lib.cell_of_heap hb2]; rfl
  have d1 : w2.cell? ⟨b, 1, none⟩ = some v := by rw [Lib.cell_of_heap hb2]; rfl
  have f1 : w2.frozen? ⟨b, 1, none⟩ = false := Lib.frozen_of_heap hb2 1
  obtain ⟨g, cap, rfl⟩ : ∃ g cap, v' = .slice (some ⟨g, 0, none⟩) (bs.length + 1) cap := by
    rcases hown'.2 with ⟨_, h0⟩ | ⟨g, cap, cur, hv, _⟩
    · omega
    · exact ⟨g, cap, hv⟩
  go_wp2
  go_ret
  refine ⟨rfl, .inr ?_, ?_⟩
  · exact Lib.BuilderAt.put (T := 154) (e := 5) hB hb2 (bs' := bs ++ [.int .u8 c]) (by simpa using hown') (by decide)
  · exact ((hb1.alloc (by have := hb1.size; omega) _).grown hgrow (by have := hb1.size; simp; omega) (fun k hk => (hown.lt k hk).1)).setCell (p := ⟨b, 1, none⟩) hB _
set_option maxHeartbeats 2000000 in
set_option maxRecDepth 100000 in
theorem bld_str (B b : Nat) (bs : List Value) (s : ByteArray) (w : World) (h : Lib.IsBuilder 154 5 B b bs w) (hlen : bs.length + s.size ≤ 140737488355328) (hBw : B ≤ w.heap.size) :
    Calls Tryz.prog 114 #[.pointer (some ⟨b, 0, none⟩), .string s] w fun e w' => e = .returned (.tuple #[.int .i64 s.size, .nilIface]) ∧ (Lib.IsBuilder 154 5 B b (bs ++ Lib.strCells s) w' ∧ Below B w w') := by
  obtain ⟨i0, hi, hz0, hz1, hz2⟩ := byte_info
  go_enter Tryz.func114, Tryz.ntmps114
  go_wp2_with (go_at_call 143; refine (bld_check B b bs _ h).mono ?_)
  rintro e w1 ⟨rfl, h1, hb1⟩
  obtain ⟨hB, v, hbk, hown, hne⟩ := h1
  have c0 : w1.cell? ⟨b, 0, none⟩ = some (.pointer (some ⟨b, 0, none⟩)) := by rw [Lib.cell_of_heap hbk]; rfl
  have c1 : w1.cell? ⟨b, 1, none⟩ = some v := by rw [Lib.cell_of_heap hbk]; rfl
  go_wp2_with (at_builtin; refine Lib.wpList_append_own_string _ rfl _ _ 25 9 rfl B 5 i0 Tryz.underlying25 Tryz.underlying9 hi hz0 hz1 hz2 _ _ _ rfl hown s rfl ?c3 ?c4 ?c5 ?_)
  case c3 => unfold maxLen; omega
  case c4 => omega
  case c5 => have := hb1.size; omega
  intro v' w2 hown' hgrow _
  have hlt : b < w1.heap.size := by
    rcases Nat.lt_or_ge b w1.heap.size with h' | h'
    · exact h'
    · simp [Array.getElem?_eq_none h'] at hbk
  have hb2 : w2.heap[b]? = some (.cells #[.pointer (some ⟨b, 0, none⟩), v] 154 (0, 0)) := by
    rw [hgrow.block b hlt (fun e => hne e.symm)]
    exact hbk
  have d0 : w2.cell? ⟨b, 0, none⟩ = some (.pointer (some ⟨b, 0, none⟩)) := by rw [Lib.cell_of_heap hb2]; rfl
  have d1 : w2.cell? ⟨b, 1, none⟩ = some v := by rw [Lib.cell_of_heap hb2]; rfl
  have f1 : w2.frozen? ⟨b, 1, none⟩ = false := Lib.frozen_of_heap hb2 1
  obtain ⟨ao, n', cap, rfl⟩ : ∃ ao n' cap, v' = .slice ao n' cap := by
    rcases hown'.2 with ⟨hv, _⟩ | ⟨g, cap, cur, hv, _⟩
    · exact ⟨_, _, _, hv⟩
    · exact ⟨_, _, _, hv⟩
  go_wp2
  go_ret2
  refine ⟨rfl, .inr ?_, ?_⟩
  · exact Lib.BuilderAt.put (T := 154) (e := 5) hB hb2 (bs' := bs ++ Lib.strCells s) (by simpa [Lib.strCells_length] using hown') (by decide)
  · exact (hb1.grown hgrow (by have := hb1.size; omega) (fun k hk => (hown.lt k hk).1)).setCell (p := ⟨b, 1, none⟩) hB _
theorem own_fr {w w' : World} {L R B e s n : Nat} {v : Value} {xs : List Value} (h : w.ownsRow B e s v n xs) (f : Fr L R w w') (hL : L < B) (hR : R < B) : w'.ownsRow B e s v n xs := by
  refine ⟨h.1, ?_⟩
  rcases h.2 with h2 | ⟨g, cap, cur, rfl, hB, hh, rest⟩
  · exact .inl h2
  · exact .inr ⟨g, cap, cur, rfl, hB, (f.block g (Array.getElem?_eq_some_iff.1 hh).1 (by omega) (by omega)).trans hh, rest⟩
theorem bld_fr {w w' : World} {L R B b : Nat} {bs : List Value} (h : Lib.IsBuilder 154 5 B b bs w) (f : Fr L R w w') (hL : L < B) (hR : R < B) : Lib.IsBuilder 154 5 B b bs w' := by
  have key : ∀ p, Lib.BuilderAt 154 5 B b p bs w → Lib.BuilderAt 154 5 B b p bs w' := by
    rintro p ⟨hB, v, hb, hown, hne⟩
    exact ⟨hB, v, (f.block b (Array.getElem?_eq_some_iff.1 hb).1 (by omega) (by omega)).trans hb, own_fr hown f hL hR, hne⟩
  rcases h with h | h
  · exact .inl (key _ h)
  · exact .inr (key _ h)
theorem bld_new (w : World) : Lib.IsBuilder 154 5 w.heap.size w.heap.size [] (w.alloc (.cells #[.pointer none, .slice none 0 0] 154)) :=
  .inl ⟨Nat.le_refl _, .slice none 0 0, Blk.new w 154 _, World.ownsRow_nil _ _ _ _, by simp [Value.ownBlock]⟩
end Go.Proofs.YtkpikpaepgknnaaGreatDoor

/- The reader reads a full name that has no prefix. No condition. -/
namespace Go.Proofs.YtkpikpaepgknnaaGreatDoor
open Go Go.RowKit Go.Wk Go.Xt Go.Xe
set_option maxHeartbeats 2000000 in
set_option maxRecDepth 100000 in
theorem xml_full {w : World} {L R c p many : Nat} {bv : Value} {A : Option Addr} {bs r nm : List UInt8} (h : RS w L R bv A c bs p many) (hr : Rest bs p r) (hn : nameS r = nm) (hne : nm ≠ []) (hno : ¬ [58] <+: r.drop nm.length) :
    Calls Tryz.prog 148 #[.pointer (some ⟨R, 0, none⟩)] w fun e w' => e = .returned (.tuple #[.string ⟨#[]⟩, str nm, .int .i64 0]) ∧ End w L R bv A c bs many (r.drop nm.length) w' := by
  have c1 := xml_one h hr hn hne
  have m1 : ∀ w1 q, RS w1 L R bv A c bs q many → Rest bs q (r.drop nm.length) → Calls Tryz.prog 42 #[.pointer (some ⟨L, 0, none⟩), .string ⟨#[58]⟩] w1 fun e w' => e = .returned (.bool false) ∧ RS w' L R bv A c bs q many ∧ Fr L R w1 w' := fun w1 q h1 hq => rs_no h1 ⟨#[58]⟩ (by decide) (by decide) (by rw [hq.eq]; exact hno)
  replace m1 := Lib.hid m1
  clear hn hne hno h hr
  generalize r.drop nm.length = r1 at *
  go_enter Tryz.func148, Tryz.ntmps148
  go_wp2_with (first
    | (go_at_call 166; (with_reducible refine c1.mono ?_); rintro e w1 ⟨rfl, ⟨⟨q, h1, hq⟩, f1⟩⟩; have k1 := m1.out w1 q h1 hq; have c0 := h1.rdr.cell 0; replace f1 := Lib.hid f1; replace h1 := Lib.hid h1; replace hq := Lib.hid hq)
    | (go_at_call 42; (with_reducible refine k1.mono ?_); rintro e w2 ⟨rfl, h2, f2⟩; replace f2 := Lib.hid f2; replace h2 := Lib.hid h2))
  go_ret3
  exact ⟨rfl, ⟨_, h2.out, hq.out⟩, f1.out.trans f2.out⟩
end Go.Proofs.YtkpikpaepgknnaaGreatDoor

/- The reader reads what stands behind an &. No condition. -/
namespace Go.Proofs.YtkpikpaepgknnaaGreatDoor
open Go Go.RowKit Go.Wk Go.Xt Go.Xe
theorem ent_len {r s r' : List UInt8} (h : Ent r s r') : r'.length < r.length := by
  cases h <;> (simp; omega)
theorem ent_out {r s r' : List UInt8} (h : Ent r s r') : s.length = 1 := by
  cases h <;> rfl
set_option maxHeartbeats 1000000 in
theorem digit_at {w : World} (x y : Int) (h : (x = 49 ∧ y = 1) ∨ (x = 51 ∧ y = 3) ∨ (x = 59 ∧ y = -1)) : Calls Tryz.prog 184 #[.int .i64 x] w fun e w' => e = .returned (.int .i64 y) ∧ w = w' := by
  rcases h with ⟨rfl, rfl⟩ | ⟨rfl, rfl⟩ | ⟨rfl, rfl⟩
  all_goals
    go_enter Tryz.func184, Tryz.ntmps184
    go_wp2
    go_ret
    exact ⟨rfl, rfl⟩
def vN : Nat → Int | 0 => 0 | 1 => 1 | _ => 13
def dN : Nat → Int | 0 => 1 | 1 => 3 | _ => -1
def cN : Nat → Int | 0 => 49 | 1 => 51 | _ => 59
set_option maxHeartbeats 2000000 in
set_option maxRecDepth 100000 in
theorem xml_num13 {w : World} {L R c p many : Nat} {bv : Value} {A : Option Addr} {bs r' : List UInt8} (h : RS w L R bv A c bs p many) (hr : Rest bs p ([49, 51, 59] ++ r')) :
    Calls Tryz.prog 182 #[.pointer (some ⟨R, 0, none⟩)] w fun e w' => e = .returned (.tuple #[.int .i32 13, .int .i64 0]) ∧ End w L R bv A c bs many r' w' := by
  have c0 := h.rdr.cell 0
  have n1 := rs_no h ⟨#[120]⟩ (by decide) (by decide) (by rw [hr.eq]; simp [List.cons_prefix_cons])
  have hp1 : Rest bs (p + 1) (51 :: 59 :: r') := hr.app (s := [49])
  have hp2 : Rest bs (p + 2) (59 :: r') := hr.app (s := [49, 51])
  have hp3 : Rest bs (p + 3) r' := hr.app (s := [49, 51, 59])
  have hpk : ∀ k, k ≤ 2 → peekS bs (p + k) = cN k ∧ p + k < bs.length := fun k hk => by
    match k, hk with
    | 0, _ => exact ⟨peek_cons hr.eq, (drop_one hr.eq).2⟩
    | 1, _ => exact ⟨peek_cons hp1.eq, (drop_one hp1.eq).2⟩
    | 2, _ => exact ⟨peek_cons hp2.eq, (drop_one hp2.eq).2⟩
  have pk : ∀ W k, k ≤ 2 → RS W L R bv A c bs (p + k) many → Calls Tryz.prog 107 #[.pointer (some ⟨L, 0, none⟩), .int .i64 0] W fun e w' => e = .returned (.int .i64 (cN k)) ∧ RS w' L R bv A c bs (p + k) many ∧ Fr L R W w' := fun W k hk hW => by
    have := rs_peek hW
    rw [(hpk k hk).1] at this
    exact this
  have nx : ∀ W k, k ≤ 2 → RS W L R bv A c bs (p + k) many → Calls Tryz.prog 77 #[.pointer (some ⟨L, 0, none⟩)] W fun e w' => e = .returned (.int .i64 (cN k)) ∧ RS w' L R bv A c bs (p + (k + 1)) many ∧ Fr L R W w' := fun W k hk hW => by
    have := rs_next hW
    rw [(hpk k hk).1, if_pos (hpk k hk).2] at this
    exact this
  have dg : ∀ (W : World) (k : Nat), k ≤ 2 → Calls Tryz.prog 184 #[.int .i64 (cN k)] W fun e w' => e = .returned (.int .i64 (dN k)) ∧ W = w' := fun W k hk => by
    match k, hk with
    | 0, _ => exact digit_at _ _ (.inl ⟨rfl, rfl⟩)
    | 1, _ => exact digit_at _ _ (.inr (.inl ⟨rfl, rfl⟩))
    | 2, _ => exact digit_at _ _ (.inr (.inr ⟨rfl, rfl⟩))
  have ms : ∀ W, RS W L R bv A c bs (p + 2) many → Calls Tryz.prog 42 #[.pointer (some ⟨L, 0, none⟩), .string ⟨#[59]⟩] W fun e w' => e = .returned (.bool true) ∧ RS w' L R bv A c bs (p + 2 + 1) many ∧ Fr L R W w' := fun W hW => rs_yes hW ⟨#[59]⟩ r' (by decide) (by decide) hp2.eq
  have sg := fun (w : World) => xml_sign (w := w) (13 : Int)
  rw [show signV 13 = true by decide] at sg
  have cps := fun (w : World) => xml_passed (w := w) true
  simp only [if_true] at cps
  replace pk := Lib.hid pk
  replace nx := Lib.hid nx
  replace dg := Lib.hid dg
  replace ms := Lib.hid ms
  replace hp3 := Lib.hid hp3
  replace h := Lib.hid h
  clear hpk hp1 hp2 hr
  go_enter Tryz.func182, Tryz.ntmps182
  go_wp2_with (first
    | (go_at_call 42; (with_reducible refine n1.mono ?_); rintro e w1 ⟨rfl, h1, f1⟩; have k2 := pk.out w1 0 (by omega) h1; have c1 := h1.rdr.cell 0; replace f1 := Lib.hid f1; replace h1 := Lib.hid h1)
    | (go_at_call 107; (with_reducible refine k2.mono ?_); rintro e w2 ⟨rfl, h2, f2⟩; have k3 := dg.out w2 0 (by omega); replace f2 := Lib.hid f2; replace h2 := Lib.hid h2)
    | (go_at_call 184; (with_reducible refine k3.mono ?_); rintro e w3 ⟨rfl, rfl⟩))
  go_loopw [5, 6, 7] (fun s5 s6 s7 wr => ∃ k : Nat, k ≤ 2 ∧ s5 = .int .i64 (vN k) ∧ s6 = .int .i64 k ∧ s7 = .int .i64 (dN k) ∧ RS wr L R bv A c bs (p + k) many ∧ Fr L R w wr) (fun _ s6 _ _ => 3 - (RowKit.intOf s6).toNat)
  case atStart => exact ⟨0, by omega, rfl, rfl, rfl, h2.out, f1.out.trans f2.out⟩
  case round =>
    obtain ⟨k, hk, rfl, rfl, rfl, hS, hF⟩ := hrel
    have c4 := hS.rdr.cell 0
    by_cases hk2 : k < 2
    · have q1 := nx.out _ k hk hS
      have q2 := fun W hW => pk.out W (k + 1) (by omega) hW
      have q3 := fun W => dg.out W (k + 1) (by omega)
      replace q2 := Lib.hid q2
      replace q3 := Lib.hid q3
      have hkk : k = 0 ∨ k = 1 := by omega
      have hv : vN (k + 1) = vN k * 10 + dN k ∧ 0 ≤ dN k ∧ dN k < 10 ∧ 0 ≤ vN k ∧ vN k < 10 := by rcases hkk with rfl | rfl <;> decide
      obtain ⟨hv1, hv2, hv3, hv4, hv5⟩ := hv
      generalize vN k = V at *
      generalize dN k = D at *
      generalize cN k = C at *
      generalize cN (k + 1) = C1 at *
      replace hS := Lib.hid hS
      replace hF := Lib.hid hF
      replace hv1 := Lib.hid hv1
      go_wp2_with (first
        | (go_at_call 77; (with_reducible refine q1.mono ?_); rintro e w4 ⟨rfl, h4, f4⟩; have k5 := q2.out w4 h4; have c5 := h4.rdr.cell 0; replace f4 := Lib.hid f4; replace h4 := Lib.hid h4)
        | (go_at_call 107; (with_reducible refine k5.mono ?_); rintro e w5 ⟨rfl, h5, f5⟩; have k6 := q3.out w5; replace f5 := Lib.hid f5; replace h5 := Lib.hid h5)
        | (go_at_call 184; (with_reducible refine k6.mono ?_); rintro e w6 ⟨rfl, rfl⟩))
      go_roundw
      case rel => exact ⟨k + 1, by omega, congrArg (Value.int .i64) hv1.out.symm, by go_num, rfl, h5.out, (hF.out.trans f4.out).trans f5.out⟩
      case measure => simp [RowKit.intOf]; omega
    · obtain rfl : k = 2 := by omega
      have q1 := ms.out _ hS
      have e1 : vN 2 = 13 := rfl
      have e2 : dN 2 = -1 := rfl
      simp only [e1, e2]
      clear e1 e2
      replace hS := Lib.hid hS
      replace hF := Lib.hid hF
      go_wp2_with (first
        | (go_at_call 137; (with_reducible refine (sg _).mono ?_); rintro e w4 ⟨rfl, rfl⟩)
        | (go_at_call 42; (with_reducible refine q1.mono ?_); rintro e w5 ⟨rfl, h5, f5⟩; replace f5 := Lib.hid f5; replace h5 := Lib.hid h5)
        | (go_at_call 119; (with_reducible refine (cps _).mono ?_); rintro e w6 ⟨rfl, rfl⟩))
      go_ret2
      exact ⟨rfl, ⟨_, h5.out, hp3.out⟩, hF.out.trans f5.out⟩
set_option maxHeartbeats 2000000 in
set_option maxRecDepth 100000 in
theorem xml_entity {w : World} {L R c p many : Nat} {bv : Value} {A : Option Addr} {bs r s r' : List UInt8} (h : RS w L R bv A c bs p many) (hr : Rest bs p r) (hE : Ent r s r') :
    Calls Tryz.prog 177 #[.pointer (some ⟨R, 0, none⟩)] w fun e w' => e = .returned (.tuple #[str s, .int .i64 0]) ∧ End w L R bv A c bs many r' w' := by
  have c0 := h.rdr.cell 0
  cases hE
  case lt =>
    have y : ∀ W, RS W L R bv A c bs p many → Calls Tryz.prog 42 #[.pointer (some ⟨L, 0, none⟩), .string ⟨#[108, 116, 59]⟩] W fun e w' => e = .returned (.bool true) ∧ RS w' L R bv A c bs (p + 3) many ∧ Fr L R W w' := fun W hW => rs_yes hW ⟨#[108, 116, 59]⟩ r' (by decide) (by decide) hr.eq
    have hq : Rest bs (p + 3) r' := hr.app (s := [108, 116, 59])
    have k0 := y _ h
    replace y := Lib.hid y
    replace h := Lib.hid h
    replace hq := Lib.hid hq
    clear hr
    go_enter Tryz.func177, Tryz.ntmps177
    go_wp2_with (first
      | (go_at_call 42; (with_reducible refine k0.mono ?_); rintro e w1 ⟨rfl, h0, f0⟩; have c1 := h0.rdr.cell 0; replace f0 := Lib.hid f0; replace h0 := Lib.hid h0))
    go_ret2
    exact ⟨rfl, ⟨_, h0.out, hq.out⟩, f0.out⟩
  case gt =>
    have n0 : ∀ W, RS W L R bv A c bs p many → Calls Tryz.prog 42 #[.pointer (some ⟨L, 0, none⟩), .string ⟨#[108, 116, 59]⟩] W fun e w' => e = .returned (.bool false) ∧ RS w' L R bv A c bs p many ∧ Fr L R W w' := fun W hW => rs_no hW ⟨#[108, 116, 59]⟩ (by decide) (by decide) (by rw [hr.eq]; simp [List.cons_prefix_cons])
    have y : ∀ W, RS W L R bv A c bs p many → Calls Tryz.prog 42 #[.pointer (some ⟨L, 0, none⟩), .string ⟨#[103, 116, 59]⟩] W fun e w' => e = .returned (.bool true) ∧ RS w' L R bv A c bs (p + 3) many ∧ Fr L R W w' := fun W hW => rs_yes hW ⟨#[103, 116, 59]⟩ r' (by decide) (by decide) hr.eq
    have hq : Rest bs (p + 3) r' := hr.app (s := [103, 116, 59])
    have k0 := n0 _ h
    replace n0 := Lib.hid n0
    replace y := Lib.hid y
    replace h := Lib.hid h
    replace hq := Lib.hid hq
    clear hr
    go_enter Tryz.func177, Tryz.ntmps177
    go_wp2_with (first
      | (go_at_call 42; (with_reducible refine k0.mono ?_); rintro e w1 ⟨rfl, h0, f0⟩; have k1 := y.out _ h0; have c1 := h0.rdr.cell 0; replace f0 := Lib.hid f0; replace h0 := Lib.hid h0)
      | (go_at_call 42; (with_reducible refine k1.mono ?_); rintro e w2 ⟨rfl, h1, f1⟩; have c2 := h1.rdr.cell 0; replace f1 := Lib.hid f1; replace h1 := Lib.hid h1))
    go_ret2
    exact ⟨rfl, ⟨_, h1.out, hq.out⟩, (f0.out.trans f1.out)⟩
  case amp =>
    have n0 : ∀ W, RS W L R bv A c bs p many → Calls Tryz.prog 42 #[.pointer (some ⟨L, 0, none⟩), .string ⟨#[108, 116, 59]⟩] W fun e w' => e = .returned (.bool false) ∧ RS w' L R bv A c bs p many ∧ Fr L R W w' := fun W hW => rs_no hW ⟨#[108, 116, 59]⟩ (by decide) (by decide) (by rw [hr.eq]; simp [List.cons_prefix_cons])
    have n1 : ∀ W, RS W L R bv A c bs p many → Calls Tryz.prog 42 #[.pointer (some ⟨L, 0, none⟩), .string ⟨#[103, 116, 59]⟩] W fun e w' => e = .returned (.bool false) ∧ RS w' L R bv A c bs p many ∧ Fr L R W w' := fun W hW => rs_no hW ⟨#[103, 116, 59]⟩ (by decide) (by decide) (by rw [hr.eq]; simp [List.cons_prefix_cons])
    have y : ∀ W, RS W L R bv A c bs p many → Calls Tryz.prog 42 #[.pointer (some ⟨L, 0, none⟩), .string ⟨#[97, 109, 112, 59]⟩] W fun e w' => e = .returned (.bool true) ∧ RS w' L R bv A c bs (p + 4) many ∧ Fr L R W w' := fun W hW => rs_yes hW ⟨#[97, 109, 112, 59]⟩ r' (by decide) (by decide) hr.eq
    have hq : Rest bs (p + 4) r' := hr.app (s := [97, 109, 112, 59])
    have k0 := n0 _ h
    replace n0 := Lib.hid n0
    replace n1 := Lib.hid n1
    replace y := Lib.hid y
    replace h := Lib.hid h
    replace hq := Lib.hid hq
    clear hr
    go_enter Tryz.func177, Tryz.ntmps177
    go_wp2_with (first
      | (go_at_call 42; (with_reducible refine k0.mono ?_); rintro e w1 ⟨rfl, h0, f0⟩; have k1 := n1.out _ h0; have c1 := h0.rdr.cell 0; replace f0 := Lib.hid f0; replace h0 := Lib.hid h0)
      | (go_at_call 42; (with_reducible refine k1.mono ?_); rintro e w2 ⟨rfl, h1, f1⟩; have k2 := y.out _ h1; have c2 := h1.rdr.cell 0; replace f1 := Lib.hid f1; replace h1 := Lib.hid h1)
      | (go_at_call 42; (with_reducible refine k2.mono ?_); rintro e w3 ⟨rfl, h2, f2⟩; have c3 := h2.rdr.cell 0; replace f2 := Lib.hid f2; replace h2 := Lib.hid h2))
    go_ret2
    exact ⟨rfl, ⟨_, h2.out, hq.out⟩, ((f0.out.trans f1.out).trans f2.out)⟩
  case quot =>
    have n0 : ∀ W, RS W L R bv A c bs p many → Calls Tryz.prog 42 #[.pointer (some ⟨L, 0, none⟩), .string ⟨#[108, 116, 59]⟩] W fun e w' => e = .returned (.bool false) ∧ RS w' L R bv A c bs p many ∧ Fr L R W w' := fun W hW => rs_no hW ⟨#[108, 116, 59]⟩ (by decide) (by decide) (by rw [hr.eq]; simp [List.cons_prefix_cons])
    have n1 : ∀ W, RS W L R bv A c bs p many → Calls Tryz.prog 42 #[.pointer (some ⟨L, 0, none⟩), .string ⟨#[103, 116, 59]⟩] W fun e w' => e = .returned (.bool false) ∧ RS w' L R bv A c bs p many ∧ Fr L R W w' := fun W hW => rs_no hW ⟨#[103, 116, 59]⟩ (by decide) (by decide) (by rw [hr.eq]; simp [List.cons_prefix_cons])
    have n2 : ∀ W, RS W L R bv A c bs p many → Calls Tryz.prog 42 #[.pointer (some ⟨L, 0, none⟩), .string ⟨#[97, 109, 112, 59]⟩] W fun e w' => e = .returned (.bool false) ∧ RS w' L R bv A c bs p many ∧ Fr L R W w' := fun W hW => rs_no hW ⟨#[97, 109, 112, 59]⟩ (by decide) (by decide) (by rw [hr.eq]; simp [List.cons_prefix_cons])
    have y : ∀ W, RS W L R bv A c bs p many → Calls Tryz.prog 42 #[.pointer (some ⟨L, 0, none⟩), .string ⟨#[113, 117, 111, 116, 59]⟩] W fun e w' => e = .returned (.bool true) ∧ RS w' L R bv A c bs (p + 5) many ∧ Fr L R W w' := fun W hW => rs_yes hW ⟨#[113, 117, 111, 116, 59]⟩ r' (by decide) (by decide) hr.eq
    have hq : Rest bs (p + 5) r' := hr.app (s := [113, 117, 111, 116, 59])
    have k0 := n0 _ h
    replace n0 := Lib.hid n0
    replace n1 := Lib.hid n1
    replace n2 := Lib.hid n2
    replace y := Lib.hid y
    replace h := Lib.hid h
    replace hq := Lib.hid hq
    clear hr
    go_enter Tryz.func177, Tryz.ntmps177
    go_wp2_with (first
      | (go_at_call 42; (with_reducible refine k0.mono ?_); rintro e w1 ⟨rfl, h0, f0⟩; have k1 := n1.out _ h0; have c1 := h0.rdr.cell 0; replace f0 := Lib.hid f0; replace h0 := Lib.hid h0)
      | (go_at_call 42; (with_reducible refine k1.mono ?_); rintro e w2 ⟨rfl, h1, f1⟩; have k2 := n2.out _ h1; have c2 := h1.rdr.cell 0; replace f1 := Lib.hid f1; replace h1 := Lib.hid h1)
      | (go_at_call 42; (with_reducible refine k2.mono ?_); rintro e w3 ⟨rfl, h2, f2⟩; have k3 := y.out _ h2; have c3 := h2.rdr.cell 0; replace f2 := Lib.hid f2; replace h2 := Lib.hid h2)
      | (go_at_call 42; (with_reducible refine k3.mono ?_); rintro e w4 ⟨rfl, h3, f3⟩; have c4 := h3.rdr.cell 0; replace f3 := Lib.hid f3; replace h3 := Lib.hid h3))
    go_ret2
    exact ⟨rfl, ⟨_, h3.out, hq.out⟩, (((f0.out.trans f1.out).trans f2.out).trans f3.out)⟩
  case apos =>
    have n0 : ∀ W, RS W L R bv A c bs p many → Calls Tryz.prog 42 #[.pointer (some ⟨L, 0, none⟩), .string ⟨#[108, 116, 59]⟩] W fun e w' => e = .returned (.bool false) ∧ RS w' L R bv A c bs p many ∧ Fr L R W w' := fun W hW => rs_no hW ⟨#[108, 116, 59]⟩ (by decide) (by decide) (by rw [hr.eq]; simp [List.cons_prefix_cons])
    have n1 : ∀ W, RS W L R bv A c bs p many → Calls Tryz.prog 42 #[.pointer (some ⟨L, 0, none⟩), .string ⟨#[103, 116, 59]⟩] W fun e w' => e = .returned (.bool false) ∧ RS w' L R bv A c bs p many ∧ Fr L R W w' := fun W hW => rs_no hW ⟨#[103, 116, 59]⟩ (by decide) (by decide) (by rw [hr.eq]; simp [List.cons_prefix_cons])
    have n2 : ∀ W, RS W L R bv A c bs p many → Calls Tryz.prog 42 #[.pointer (some ⟨L, 0, none⟩), .string ⟨#[97, 109, 112, 59]⟩] W fun e w' => e = .returned (.bool false) ∧ RS w' L R bv A c bs p many ∧ Fr L R W w' := fun W hW => rs_no hW ⟨#[97, 109, 112, 59]⟩ (by decide) (by decide) (by rw [hr.eq]; simp [List.cons_prefix_cons])
    have n3 : ∀ W, RS W L R bv A c bs p many → Calls Tryz.prog 42 #[.pointer (some ⟨L, 0, none⟩), .string ⟨#[113, 117, 111, 116, 59]⟩] W fun e w' => e = .returned (.bool false) ∧ RS w' L R bv A c bs p many ∧ Fr L R W w' := fun W hW => rs_no hW ⟨#[113, 117, 111, 116, 59]⟩ (by decide) (by decide) (by rw [hr.eq]; simp [List.cons_prefix_cons])
    have y : ∀ W, RS W L R bv A c bs p many → Calls Tryz.prog 42 #[.pointer (some ⟨L, 0, none⟩), .string ⟨#[97, 112, 111, 115, 59]⟩] W fun e w' => e = .returned (.bool true) ∧ RS w' L R bv A c bs (p + 5) many ∧ Fr L R W w' := fun W hW => rs_yes hW ⟨#[97, 112, 111, 115, 59]⟩ r' (by decide) (by decide) hr.eq
    have hq : Rest bs (p + 5) r' := hr.app (s := [97, 112, 111, 115, 59])
    have k0 := n0 _ h
    replace n0 := Lib.hid n0
    replace n1 := Lib.hid n1
    replace n2 := Lib.hid n2
    replace n3 := Lib.hid n3
    replace y := Lib.hid y
    replace h := Lib.hid h
    replace hq := Lib.hid hq
    clear hr
    go_enter Tryz.func177, Tryz.ntmps177
    go_wp2_with (first
      | (go_at_call 42; (with_reducible refine k0.mono ?_); rintro e w1 ⟨rfl, h0, f0⟩; have k1 := n1.out _ h0; have c1 := h0.rdr.cell 0; replace f0 := Lib.hid f0; replace h0 := Lib.hid h0)
      | (go_at_call 42; (with_reducible refine k1.mono ?_); rintro e w2 ⟨rfl, h1, f1⟩; have k2 := n2.out _ h1; have c2 := h1.rdr.cell 0; replace f1 := Lib.hid f1; replace h1 := Lib.hid h1)
      | (go_at_call 42; (with_reducible refine k2.mono ?_); rintro e w3 ⟨rfl, h2, f2⟩; have k3 := n3.out _ h2; have c3 := h2.rdr.cell 0; replace f2 := Lib.hid f2; replace h2 := Lib.hid h2)
      | (go_at_call 42; (with_reducible refine k3.mono ?_); rintro e w4 ⟨rfl, h3, f3⟩; have k4 := y.out _ h3; have c4 := h3.rdr.cell 0; replace f3 := Lib.hid f3; replace h3 := Lib.hid h3)
      | (go_at_call 42; (with_reducible refine k4.mono ?_); rintro e w5 ⟨rfl, h4, f4⟩; have c5 := h4.rdr.cell 0; replace f4 := Lib.hid f4; replace h4 := Lib.hid h4))
    go_ret2
    exact ⟨rfl, ⟨_, h4.out, hq.out⟩, ((((f0.out.trans f1.out).trans f2.out).trans f3.out).trans f4.out)⟩
  case cr =>
    have n0 : ∀ W, RS W L R bv A c bs p many → Calls Tryz.prog 42 #[.pointer (some ⟨L, 0, none⟩), .string ⟨#[108, 116, 59]⟩] W fun e w' => e = .returned (.bool false) ∧ RS w' L R bv A c bs p many ∧ Fr L R W w' := fun W hW => rs_no hW ⟨#[108, 116, 59]⟩ (by decide) (by decide) (by rw [hr.eq]; simp [List.cons_prefix_cons])
    have n1 : ∀ W, RS W L R bv A c bs p many → Calls Tryz.prog 42 #[.pointer (some ⟨L, 0, none⟩), .string ⟨#[103, 116, 59]⟩] W fun e w' => e = .returned (.bool false) ∧ RS w' L R bv A c bs p many ∧ Fr L R W w' := fun W hW => rs_no hW ⟨#[103, 116, 59]⟩ (by decide) (by decide) (by rw [hr.eq]; simp [List.cons_prefix_cons])
    have n2 : ∀ W, RS W L R bv A c bs p many → Calls Tryz.prog 42 #[.pointer (some ⟨L, 0, none⟩), .string ⟨#[97, 109, 112, 59]⟩] W fun e w' => e = .returned (.bool false) ∧ RS w' L R bv A c bs p many ∧ Fr L R W w' := fun W hW => rs_no hW ⟨#[97, 109, 112, 59]⟩ (by decide) (by decide) (by rw [hr.eq]; simp [List.cons_prefix_cons])
    have n3 : ∀ W, RS W L R bv A c bs p many → Calls Tryz.prog 42 #[.pointer (some ⟨L, 0, none⟩), .string ⟨#[113, 117, 111, 116, 59]⟩] W fun e w' => e = .returned (.bool false) ∧ RS w' L R bv A c bs p many ∧ Fr L R W w' := fun W hW => rs_no hW ⟨#[113, 117, 111, 116, 59]⟩ (by decide) (by decide) (by rw [hr.eq]; simp [List.cons_prefix_cons])
    have n4 : ∀ W, RS W L R bv A c bs p many → Calls Tryz.prog 42 #[.pointer (some ⟨L, 0, none⟩), .string ⟨#[97, 112, 111, 115, 59]⟩] W fun e w' => e = .returned (.bool false) ∧ RS w' L R bv A c bs p many ∧ Fr L R W w' := fun W hW => rs_no hW ⟨#[97, 112, 111, 115, 59]⟩ (by decide) (by decide) (by rw [hr.eq]; simp [List.cons_prefix_cons])
    have y : ∀ W, RS W L R bv A c bs p many → Calls Tryz.prog 42 #[.pointer (some ⟨L, 0, none⟩), .string ⟨#[35]⟩] W fun e w' => e = .returned (.bool true) ∧ RS w' L R bv A c bs (p + 1) many ∧ Fr L R W w' := fun W hW => rs_yes hW ⟨#[35]⟩ ([49, 51, 59] ++ r') (by decide) (by decide) hr.eq
    have hq : Rest bs (p + 1) ([49, 51, 59] ++ r') := hr.app (s := [35])
    have cn := fun W hW => xml_num13 (w := W) (L := L) (R := R) (bv := bv) (A := A) (c := c) (many := many) (r' := r') hW hq
    replace cn := Lib.hid cn
    have k0 := n0 _ h
    replace n0 := Lib.hid n0
    replace n1 := Lib.hid n1
    replace n2 := Lib.hid n2
    replace n3 := Lib.hid n3
    replace n4 := Lib.hid n4
    replace y := Lib.hid y
    replace h := Lib.hid h
    replace hq := Lib.hid hq
    clear hr
    go_enter Tryz.func177, Tryz.ntmps177
    go_wp2_with (first
      | (go_at_call 42; (with_reducible refine k0.mono ?_); rintro e w1 ⟨rfl, h0, f0⟩; have k1 := n1.out _ h0; have c1 := h0.rdr.cell 0; replace f0 := Lib.hid f0; replace h0 := Lib.hid h0)
      | (go_at_call 42; (with_reducible refine k1.mono ?_); rintro e w2 ⟨rfl, h1, f1⟩; have k2 := n2.out _ h1; have c2 := h1.rdr.cell 0; replace f1 := Lib.hid f1; replace h1 := Lib.hid h1)
      | (go_at_call 42; (with_reducible refine k2.mono ?_); rintro e w3 ⟨rfl, h2, f2⟩; have k3 := n3.out _ h2; have c3 := h2.rdr.cell 0; replace f2 := Lib.hid f2; replace h2 := Lib.hid h2)
      | (go_at_call 42; (with_reducible refine k3.mono ?_); rintro e w4 ⟨rfl, h3, f3⟩; have k4 := n4.out _ h3; have c4 := h3.rdr.cell 0; replace f3 := Lib.hid f3; replace h3 := Lib.hid h3)
      | (go_at_call 42; (with_reducible refine k4.mono ?_); rintro e w5 ⟨rfl, h4, f4⟩; have k5 := y.out _ h4; have c5 := h4.rdr.cell 0; replace f4 := Lib.hid f4; replace h4 := Lib.hid h4)
      | (go_at_call 42; (with_reducible refine k5.mono ?_); rintro e w6 ⟨rfl, h5, f5⟩; have k9 := cn.out _ h5; have c6 := h5.rdr.cell 0; replace f5 := Lib.hid f5; replace h5 := Lib.hid h5)
      | (go_at_call 182; (with_reducible refine k9.mono ?_); rintro e w9 ⟨rfl, ⟨q9, h9, r9⟩, f9⟩; replace f9 := Lib.hid f9; replace h9 := Lib.hid h9; replace r9 := Lib.hid r9))
    go_ret2
    exact ⟨rfl, ⟨_, h9.out, r9.out⟩, (((((f0.out.trans f1.out).trans f2.out).trans f3.out).trans f4.out).trans f5.out).trans f9.out⟩
end Go.Proofs.YtkpikpaepgknnaaGreatDoor

/- The reader reads a text. No condition. -/
namespace Go.Proofs.YtkpikpaepgknnaaGreatDoor
open Go Go.RowKit Go.Wk Go.Xt Go.Xe Go.Lib
theorem RS.belowB {w w' : World} {L R c p many B : Nat} {bv : Value} {A : Option Addr} {bs : List UInt8} (h : RS w L R bv A c bs p many) (hb : Below B w w') (hL : L < B) (hR : R < B) (hA : 0 < bs.length → ∀ x, A = some x → x.block < B) : RS w' L R bv A c bs p many := by
  have hc := h.cur
  refine ⟨⟨hc.ne, Save.refl _ _, (hb.cell (p := ⟨L, 0, none⟩) hL).trans hc.cb, (hb.cell (p := ⟨L, 1, none⟩) hL).trans hc.ca, (hb.frozen (p := ⟨L, 1, none⟩) hL).trans hc.fr, ⟨hc.byt.1, fun h0 => ?_⟩, hc.le, hc.small⟩, h.rdr.below hb hR, h.ne, h.neA, h.cap⟩
  obtain ⟨b, o, rfl, hcell⟩ := hc.byt.2 h0
  refine ⟨b, o, rfl, fun i hi => ?_⟩
  rw [hb.cell (p := ⟨b, o + i, none⟩) (show b < B from hA h0 ⟨b, o, none⟩ rfl)]
  exact hcell i hi
theorem RS.A_lt {w : World} {L R c p many : Nat} {bv : Value} {A : Option Addr} {bs : List UInt8} (h : RS w L R bv A c bs p many) : 0 < bs.length → ∀ x, A = some x → x.block < w.heap.size := by
  rintro h0 x rfl
  obtain ⟨b, o, e, hcell⟩ := h.cur.byt.2 h0
  cases e
  exact cell_lt (hcell 0 h0)
theorem Fr.tail {L R : Nat} {a b c : World} (h : Fr L R a b) (k : Below a.heap.size b c) : Fr L R a c :=
  ⟨k.os.trans h.os, k.tape.trans h.tape, k.output.trans h.output, Nat.le_trans h.size k.size, fun j hj h1 h2 => (k.block j hj).trans (h.block j hj h1 h2)⟩
theorem bcells_app (a b : List UInt8) : byteCells (a ++ b) = byteCells a ++ byteCells b := by simp [byteCells]
theorem bcells_len (a : List UInt8) : (byteCells a).length = a.length := by simp [byteCells]
theorem txt_len {fin : Int} {r o r' : List UInt8} (h : Txt fin r o r') : o.length + r'.length ≤ r.length := by
  induction h with
  | nil => simp
  | stop => simp
  | byte => simp; omega
  | ent r e r1 o r' _ hE _ ih => have := ent_len hE; have := ent_out hE; simp; omega
set_option maxHeartbeats 4000000 in
set_option maxRecDepth 100000 in
theorem xml_text {w : World} {L R c p many : Nat} {bv : Value} {A : Option Addr} {bs r o r' : List UInt8} (fin : Int) (hf : -1 ≤ fin ∧ fin ≤ 255) (h : RS w L R bv A c bs p many) (hr : Rest bs p r) (hT : Txt fin r o r') :
    Calls Tryz.prog 165 #[.pointer (some ⟨R, 0, none⟩), .int .i64 fin] w fun e w' => e = .returned (.tuple #[str o, .int .i64 0]) ∧ End w L R bv A c bs many r' w' := by
  obtain ⟨hf1, hf2⟩ := hf
  have hLB := h.cur.L_lt
  have hRB := h.rdr.lt
  have hAB := Lib.hid h.A_lt
  obtain ⟨B, hB⟩ : ∃ B, B = w.heap.size := ⟨_, rfl⟩
  have hnew := bld_new w
  have h0 := h.below ((Below.refl w.heap.size w).alloc (Nat.le_refl _) (.cells #[.pointer none, .slice none 0 0] 154))
  have f0 : Fr L R w (w.alloc (.cells #[.pointer none, .slice none 0 0] 154)) := Fr.of_below ((Below.refl w.heap.size w).alloc (Nat.le_refl _) _)
  have hlenT := txt_len hT
  have hrl := hr.len
  have hsm := h.cur.small
  replace hlenT := Lib.hid hlenT
  replace hnew := Lib.hid hnew
  replace h0 := Lib.hid h0
  replace f0 := Lib.hid f0
  replace hr := Lib.hid hr
  replace hT := Lib.hid hT
  clear h
  go_enter Tryz.func165, Tryz.ntmps165
  go_wp2
  go_loopw [7] (fun _ wr => ∃ q r1 o1 o2, Rest bs q r1 ∧ Txt fin r1 o2 r' ∧ o1 ++ o2 = o ∧ RS wr L R bv A c bs q many ∧ Lib.IsBuilder 154 5 w.heap.size w.heap.size (byteCells o1) wr ∧ Fr L R w wr) (fun _ wr => bs.length + 1 - posOf L wr)
  case atStart => exact ⟨p, r, [], o, hr.out, hT.out, rfl, h0.out, hnew.out, f0.out⟩
  case round =>
    obtain ⟨q, r1, o1, o2, hq, hT1, ho, hS, hb, hF⟩ := hrel
    have c0 := hS.rdr.cell 0
    have cp := rs_peek hS
    have hpos := Lib.hid hS.pos
    have hFz := hF.size
    have hol : o1.length + o2.length = o.length := by rw [← ho]; simp
    have hq2 := hq.len
    clear hr hT h0 hnew f0
    cases hT1 with
    | nil =>
      rw [peek_nil hq.eq] at cp
      have hst : ∀ w1, RS w1 L R bv A c bs q many → Fr L R wr w1 → Calls Tryz.prog 115 #[.pointer (some ⟨w.heap.size, 0, none⟩)] w1 fun e w' => e = .returned (.string ⟨o1.toArray⟩) ∧ Below w.heap.size w1 w' := fun w1 h1 f1 => Tryz.Builder_String_any w.heap.size w.heap.size o1 w1 (bld_fr hb f1 hLB hRB) (by have := f1.size; omega)
      have hoo : o1 = o := by rw [← ho]; simp
      replace hst := Lib.hid hst
      replace hF := Lib.hid hF
      replace hS := Lib.hid hS
      replace hb := Lib.hid hb
      replace hq := Lib.hid hq
      replace hoo := Lib.hid hoo
      replace ho := Lib.hid ho
      go_wp2_with (first
        | (go_at_call 107; (with_reducible refine cp.mono ?_); rintro e w1 ⟨rfl, h1, f1⟩; have k1 := hst.out w1 h1 f1; replace f1 := Lib.hid f1; replace h1 := Lib.hid h1)
        | (go_at_call 115; (with_reducible refine k1.mono ?_); rintro e w2 ⟨rfl, b2⟩; replace b2 := Lib.hid b2))
      go_ret2
      exact ⟨by rw [← hoo.out]; rfl, ⟨q, h1.out.belowB b2.out hLB hRB hAB.out, hq.out⟩, (hF.out.trans f1.out).tail b2.out⟩
    | stop x r2 hx =>
      rw [peek_cons hq.eq] at cp
      have hst : ∀ w1, RS w1 L R bv A c bs q many → Fr L R wr w1 → Calls Tryz.prog 115 #[.pointer (some ⟨w.heap.size, 0, none⟩)] w1 fun e w' => e = .returned (.string ⟨o1.toArray⟩) ∧ Below w.heap.size w1 w' := fun w1 h1 f1 => Tryz.Builder_String_any w.heap.size w.heap.size o1 w1 (bld_fr hb f1 hLB hRB) (by have := f1.size; omega)
      have hoo : o1 = o := by rw [← ho]; simp
      have hx0 : (0 : Int) ≤ (x.toNat : Int) := Int.natCast_nonneg _
      have hx2 : (x.toNat : Int) = 60 ∨ (¬ (x.toNat : Int) = 60 ∧ (x.toNat : Int) = fin) := by
        by_cases h60 : (x.toNat : Int) = 60
        · exact .inl h60
        · refine .inr ⟨h60, ?_⟩
          rcases hx with rfl | hx
          · exact absurd rfl h60
          · exact hx
      replace hst := Lib.hid hst
      replace hF := Lib.hid hF
      replace hS := Lib.hid hS
      replace hb := Lib.hid hb
      replace hq := Lib.hid hq
      replace hoo := Lib.hid hoo
      replace ho := Lib.hid ho
      clear hx
      rcases hx2 with hx3 | ⟨hx3, hx4⟩
      · rw [hx3] at cp
        clear hx3 hx0
        go_wp2_with (first
          | (go_at_call 107; (with_reducible refine cp.mono ?_); rintro e w1 ⟨rfl, h1, f1⟩; have k1 := hst.out w1 h1 f1; replace f1 := Lib.hid f1; replace h1 := Lib.hid h1)
          | (go_at_call 115; (with_reducible refine k1.mono ?_); rintro e w2 ⟨rfl, b2⟩; replace b2 := Lib.hid b2))
        go_ret2
        exact ⟨by rw [← hoo.out]; rfl, ⟨q, h1.out.belowB b2.out hLB hRB hAB.out, hq.out⟩, (hF.out.trans f1.out).tail b2.out⟩
      · rw [hx4] at cp hx3 hx0
        replace hx4 := Lib.hid hx4
        go_wp2_with (first
          | (go_at_call 107; (with_reducible refine cp.mono ?_); rintro e w1 ⟨rfl, h1, f1⟩; have k1 := hst.out w1 h1 f1; replace f1 := Lib.hid f1; replace h1 := Lib.hid h1)
          | (go_at_call 115; (with_reducible refine k1.mono ?_); rintro e w2 ⟨rfl, b2⟩; replace b2 := Lib.hid b2))
        go_ret2
        exact ⟨by rw [← hoo.out]; rfl, ⟨q, h1.out.belowB b2.out hLB hRB hAB.out, hq.out⟩, (hF.out.trans f1.out).tail b2.out⟩
    | byte x r2 o3 _ hx1 hx2 hx3 hT2 =>
      rw [peek_cons hq.eq] at cp
      obtain ⟨hd, hlt⟩ := drop_one hq.eq
      have hq3 : Rest bs (q + 1) r2 := ⟨hd, hlt⟩
      have hwb : ∀ w1, RS w1 L R bv A c bs (q + 1) many → Fr L R wr w1 → Calls Tryz.prog 176 #[.pointer (some ⟨w.heap.size, 0, none⟩), .int .u8 (x.toNat : Int)] w1 fun e w' => e = .returned .nilIface ∧ (Lib.IsBuilder 154 5 w.heap.size w.heap.size (byteCells o1 ++ [.int .u8 (x.toNat : Int)]) w' ∧ Below w.heap.size w1 w') := fun w1 h1 f1 => bld_byte w.heap.size w.heap.size (byteCells o1) (x.toNat : Int) w1 (bld_fr hb f1 hLB hRB) (by rw [bcells_len]; have := hlenT.out; omega) (by have := f1.size; omega)
      have hcc : Hid (byteCells o1 ++ [.int .u8 (x.toNat : Int)] = byteCells (o1 ++ [x])) := Lib.hid (by rw [bcells_app]; rfl)
      have hne : ∀ n : UInt8, x ≠ n → ¬ (x.toNat : Int) = (n.toNat : Int) := fun n h e => h (UInt8.toNat_inj.1 (by omega))
      have g1 : ((x.toNat : Int) == 60) = false := by rw [beq_eq_false_iff_ne]; exact hne 60 hx1
      have g2 : ((x.toNat : Int) == 38) = false := by rw [beq_eq_false_iff_ne]; exact hne 38 hx3
      have g5 : ((x.toNat : Int) == fin) = false := by rw [beq_eq_false_iff_ne]; exact hx2
      have g3 : (0 : Int) ≤ (x.toNat : Int) := Int.natCast_nonneg _
      have g4 := u8_lt x
      have hoo : Hid ((o1 ++ [x]) ++ o3 = o) := Lib.hid (by rw [← ho]; simp)
      clear hne hx1 hx2 hx3 hd
      generalize (x.toNat : Int) = X at *
      replace hwb := Lib.hid hwb
      replace hF := Lib.hid hF
      replace hS := Lib.hid hS
      replace hb := Lib.hid hb
      replace hq := Lib.hid hq
      replace hq3 := Lib.hid hq3
      replace ho := Lib.hid ho
      replace hT2 := Lib.hid hT2
      replace hol := Lib.hid hol
      replace hq2 := Lib.hid hq2
      go_wp2_with (first
        | (go_at_call 107; (with_reducible refine cp.mono ?_); rintro e w1 ⟨rfl, h1, f1⟩; have c1 := h1.rdr.cell 0; have cn := rs_next h1; rw [if_pos hlt] at cn; replace f1 := Lib.hid f1; replace h1 := Lib.hid h1)
        | (go_at_call 77; (with_reducible refine cn.mono ?_); rintro e w2 ⟨rfl, h2, f2⟩; have f12 := f1.out.trans f2; have k2 := hwb.out w2 h2 f12; replace f2 := Lib.hid f2; replace f12 := Lib.hid f12; replace h2 := Lib.hid h2)
        | (go_at_call 176; (with_reducible refine k2.mono ?_); rintro e w3 ⟨rfl, hb3, b3⟩; replace b3 := Lib.hid b3; replace hb3 := Lib.hid hb3))
      have hb4 := hb3.out
      rw [hcc.out] at hb4
      have h3 := h2.out.belowB b3.out hLB hRB hAB.out
      go_roundw
      case rel => exact ⟨q + 1, r2, o1 ++ [x], o3, hq3.out, hT2.out, hoo.out, h3, hb4, (hF.out.trans f12.out).tail b3.out⟩
      case measure => rw [h3.pos, hpos.out]; omega
    | ent r2 e r3 o3 _ hx2 hE hT2 =>
      rw [peek_cons hq.eq] at cp
      obtain ⟨hd, hlt⟩ := drop_one hq.eq
      have hq3 : Rest bs (q + 1) r2 := ⟨hd, hlt⟩
      have ce : ∀ w1, RS w1 L R bv A c bs (q + 1) many → Calls Tryz.prog 177 #[.pointer (some ⟨R, 0, none⟩)] w1 fun e' w' => e' = .returned (.tuple #[.string ⟨e.toArray⟩, .int .i64 0]) ∧ End w1 L R bv A c bs many r3 w' := fun w1 h1 => xml_entity h1 hq3 hE
      have hws : ∀ w1, Fr L R wr w1 → Calls Tryz.prog 114 #[.pointer (some ⟨w.heap.size, 0, none⟩), .string ⟨e.toArray⟩] w1 fun e' w' => e' = .returned (.tuple #[.int .i64 (⟨e.toArray⟩ : ByteArray).size, .nilIface]) ∧ (Lib.IsBuilder 154 5 w.heap.size w.heap.size (byteCells o1 ++ Lib.strCells ⟨e.toArray⟩) w' ∧ Below w.heap.size w1 w') := fun w1 f1 => bld_str w.heap.size w.heap.size (byteCells o1) ⟨e.toArray⟩ w1 (bld_fr hb f1 hLB hRB) (by rw [bcells_len]; have := hlenT.out; have := ent_out hE; simp [ByteArray.size]; omega) (by have := f1.size; omega)
      have hcc : Hid (byteCells o1 ++ Lib.strCells ⟨e.toArray⟩ = byteCells (o1 ++ e)) := Lib.hid (by rw [bcells_app]; rfl)
      have hoo : Hid ((o1 ++ e) ++ o3 = o) := Lib.hid (by rw [← ho]; simp)
      have hel := Lib.hid (ent_len hE)
      have cp : Calls Tryz.prog 107 #[.pointer (some ⟨L, 0, none⟩), .int .i64 0] wr fun e w' => e = .returned (.int .i64 38) ∧ RS w' L R bv A c bs q many ∧ Fr L R wr w' := cp
      have g2 : ¬ (38 : Int) = fin := fun e => hx2 e.symm
      clear hx2 hE hd
      generalize (⟨e.toArray⟩ : ByteArray) = E at *
      replace hws := Lib.hid hws
      replace ce := Lib.hid ce
      replace hF := Lib.hid hF
      replace hS := Lib.hid hS
      replace hb := Lib.hid hb
      replace hq := Lib.hid hq
      replace hq3 := Lib.hid hq3
      replace ho := Lib.hid ho
      replace hT2 := Lib.hid hT2
      replace hol := Lib.hid hol
      replace hq2 := Lib.hid hq2
      go_wp2_with (first
        | (go_at_call 107; (with_reducible refine cp.mono ?_); rintro e w1 ⟨rfl, h1, f1⟩; have c1 := h1.rdr.cell 0; have cn := rs_next h1; rw [if_pos hlt] at cn; replace f1 := Lib.hid f1; replace h1 := Lib.hid h1)
        | (go_at_call 77; (with_reducible refine cn.mono ?_); rintro e w2 ⟨rfl, h2, f2⟩; have f12 := f1.out.trans f2; have k2 := ce.out w2 h2; replace f2 := Lib.hid f2; replace f12 := Lib.hid f12; replace h2 := Lib.hid h2)
        | (go_at_call 177; (with_reducible refine k2.mono ?_); rintro e w3 ⟨rfl, ⟨⟨q4, h3, hq4⟩, f3⟩⟩; have f13 := f12.out.trans f3; have k3 := hws.out w3 f13; replace f3 := Lib.hid f3; replace f13 := Lib.hid f13; replace h3 := Lib.hid h3; replace hq4 := Lib.hid hq4)
        | (go_at_call 114; (with_reducible refine k3.mono ?_); rintro e w4 ⟨rfl, hb4, b4⟩; replace b4 := Lib.hid b4; replace hb4 := Lib.hid hb4))
      have hb5 := hb4.out
      rw [hcc.out] at hb5
      have h4 := h3.out.belowB b4.out hLB hRB hAB.out
      go_roundw
      case rel => exact ⟨q4, r3, o1 ++ e, o3, hq4.out, hT2.out, hoo.out, h4, hb5, (hF.out.trans f13.out).tail b4.out⟩
      case measure =>
        rw [h4.pos, hpos.out]
        have a1 := hq4.out.len
        have a2 := hq3.out.len
        have a3 := hel.out
        omega
end Go.Proofs.YtkpikpaepgknnaaGreatDoor

/- The reader reads a full name, with what stands in front or without. No condition. -/
namespace Go.Proofs.YtkpikpaepgknnaaGreatDoor
open Go Go.RowKit Go.Wk Go.Xt Go.Xe
/-- a full name -/
inductive FullN : List UInt8 → List UInt8 → List UInt8 → List UInt8 → Prop
  | one (r nm : List UInt8) : nameS r = nm → nm ≠ [] → ¬ [58] <+: r.drop nm.length → FullN r [] nm (r.drop nm.length)
  | two (r pre r1 nm : List UInt8) : nameS r = pre → pre ≠ [] → r.drop pre.length = 58 :: r1 → nameS r1 = nm → nm ≠ [] → FullN r pre nm (r1.drop nm.length)
set_option maxHeartbeats 2000000 in
set_option maxRecDepth 100000 in
theorem xml_fullN {w : World} {L R c p many : Nat} {bv : Value} {A : Option Addr} {bs r pre nm r' : List UInt8} (h : RS w L R bv A c bs p many) (hr : Rest bs p r) (hF : FullN r pre nm r') :
    Calls Tryz.prog 148 #[.pointer (some ⟨R, 0, none⟩)] w fun e w' => e = .returned (.tuple #[str pre, str nm, .int .i64 0]) ∧ End w L R bv A c bs many r' w' := by
  cases hF with
  | one _ hn hne hno =>
    exact xml_full h hr hn hne hno
  | two _ r1 _ hn hne hd hn2 hne2 =>
    have c1 := xml_one h hr hn hne
    rw [hd] at c1
    have m1 : ∀ w1 q, RS w1 L R bv A c bs q many → Rest bs q (58 :: r1) → Calls Tryz.prog 42 #[.pointer (some ⟨L, 0, none⟩), .string ⟨#[58]⟩] w1 fun e w' => e = .returned (.bool true) ∧ (RS w' L R bv A c bs (q + 1) many ∧ Rest bs (q + 1) r1) ∧ Fr L R w1 w' := fun w1 q h1 hq =>
      (rs_yes h1 ⟨#[58]⟩ r1 (by decide) (by decide) hq.eq).mono fun e w' k => ⟨k.1, ⟨k.2.1, hq.app (s := [58])⟩, k.2.2⟩
    have c2 := fun w1 q (h1 : RS w1 L R bv A c bs q many) (hq : Rest bs q r1) => xml_one h1 hq hn2 hne2
    replace m1 := Lib.hid m1
    replace c2 := Lib.hid c2
    clear hn hne hd hn2 hne2 h hr
    generalize r1.drop nm.length = r2 at *
    obtain ⟨P, hP⟩ : ∃ P : ByteArray, str pre = .string P := ⟨_, rfl⟩
    obtain ⟨N, hN⟩ : ∃ P : ByteArray, str nm = .string P := ⟨_, rfl⟩
    rw [hP] at c1
    simp only [hN] at c2
    rw [hP, hN]
    go_enter Tryz.func148, Tryz.ntmps148
    go_wp2_with (first
      | (go_at_call 166; (with_reducible refine c1.mono ?_); rintro e w1 ⟨rfl, ⟨⟨q, h1, hq⟩, f1⟩⟩; have k1 := m1.out w1 q h1 hq; have c0 := h1.rdr.cell 0; replace f1 := Lib.hid f1; replace h1 := Lib.hid h1; replace hq := Lib.hid hq; clear c1)
      | (go_at_call 42; (with_reducible refine k1.mono ?_); rintro e w2 ⟨rfl, ⟨h2, hq2⟩, f2⟩; have k2 := c2.out w2 _ h2 hq2; replace f2 := Lib.hid f2; replace h2 := Lib.hid h2; replace hq2 := Lib.hid hq2)
      | (go_at_call 166; (with_reducible refine k2.mono ?_); rintro e w3 ⟨rfl, ⟨⟨q3, h3, hq3⟩, f3⟩⟩; replace f3 := Lib.hid f3; replace h3 := Lib.hid h3; replace hq3 := Lib.hid hq3))
    go_ret3
    exact ⟨rfl, ⟨_, h3.out, hq3.out⟩, (f1.out.trans f2.out).trans f3.out⟩
end Go.Proofs.YtkpikpaepgknnaaGreatDoor

/- The reader reads an attribute, with what stands in front of its name or without. No condition. -/
namespace Go.Proofs.YtkpikpaepgknnaaGreatDoor
open Go Go.RowKit Go.Wk Go.Xt Go.Xe
/-- an attribute: what stands in front, its name, its value -/
inductive AttP : List UInt8 → List UInt8 × List UInt8 × List UInt8 → List UInt8 → Prop
  | mk (r pre nm r1 v : List UInt8) (q : UInt8) (r2 r3 : List UInt8) : FullN r pre nm r1 → r1.drop (ws r1) = 61 :: r2 → r2.drop (ws r2) = q :: r3 → (q = 34 ∨ q = 39) → (r4 : List UInt8) → Txt (q.toNat : Int) r3 v (q :: r4) → AttP r (pre, nm, v) r4
def put3 (W : World) (g : Nat) (v0 v1 v2 : Value) : World := ((W.setCell ⟨g, 0, none⟩ v0).setCell ⟨g, 1, none⟩ v1).setCell ⟨g, 2, none⟩ v2
theorem put3_save (W : World) (g : Nat) (v0 v1 v2 : Value) : Save g W (put3 W g v0 v1 v2) := (((Save.refl g W).store 0 v0).store 1 v1).store 2 v2
theorem put3_blk {W : World} {g : Nat} {t : TypeId} {u0 u1 u2 : Value} (h : Blk W g t #[u0, u1, u2]) (v0 v1 v2 : Value) : Blk (put3 W g v0 v1 v2) g t #[v0, v1, v2] := ((h.set_ 0 v0).set_ 1 v1).set_ 2 v2
set_option maxHeartbeats 4000000 in
set_option maxRecDepth 100000 in
theorem xml_attrP {w : World} {L R c p many : Nat} {bv : Value} {A : Option Addr} {bs r r' : List UInt8} {a : List UInt8 × List UInt8 × List UInt8} (h : RS w L R bv A c bs p many) (hr : Rest bs p r) (hA : AttP r a r') :
    Calls Tryz.prog 170 #[.pointer (some ⟨R, 0, none⟩)] w fun e w' => e = .returned (.tuple #[.agg #[str a.1, str a.2.1, str a.2.2], .int .i64 0]) ∧ End w L R bv A c bs many r' w' := by
  have hb0 : Below w.heap.size w (w.alloc (.cells #[.string ⟨#[]⟩, .string ⟨#[]⟩, .string ⟨#[]⟩] 209)) := (Below.refl _ _).alloc (Nat.le_refl _) _
  have h0 := h.below hb0
  have hnew := Blk.new w 209 #[.string ⟨#[]⟩, .string ⟨#[]⟩, .string ⟨#[]⟩]
  have hRlt := h.rdr.lt
  have hLlt := h.cur.L_lt
  have hAlt := Lib.hid h.A_lt
  cases hA with
  | mk pre nm r1 v q r2 r3 hF hw1 hw2 hqq r4 hT =>
    obtain ⟨PR, hPR⟩ : ∃ N : ByteArray, (⟨pre.toArray⟩ : ByteArray) = N := ⟨_, rfl⟩
    have hPR2 : str pre = .string PR := by rw [← hPR]; rfl
    obtain ⟨N, hN⟩ : ∃ N : ByteArray, (⟨nm.toArray⟩ : ByteArray) = N := ⟨_, rfl⟩
    have hN2 : str nm = .string N := by rw [← hN]; rfl
    obtain ⟨V, hV⟩ : ∃ N : ByteArray, (⟨v.toArray⟩ : ByteArray) = N := ⟨_, rfl⟩
    have hV2 : str v = .string V := by rw [← hV]; rfl
    have cf := xml_fullN h0 hr hF
    simp only [hN2, hPR2] at cf
    have k1 : ∀ W p1, RS W L R bv A c bs p1 many → Rest bs p1 r1 → Calls Tryz.prog 144 #[.pointer (some ⟨R, 0, none⟩)] W fun e w' => e = .returned (.int .i64 (ws r1 : Nat)) ∧ (RS w' L R bv A c bs (p1 + ws r1) many ∧ Rest bs (p1 + ws r1) (61 :: r2)) ∧ Fr L R W w' := fun W p1 hW hq => by
      have hq2 := hq.ws_
      rw [hw1] at hq2
      exact (xml_blank hW hq.eq).mono fun e w' k => ⟨k.1, ⟨k.2.1, hq2⟩, k.2.2⟩
    have k2 : ∀ W p1, RS W L R bv A c bs p1 many → Rest bs p1 (61 :: r2) → Calls Tryz.prog 42 #[.pointer (some ⟨L, 0, none⟩), .string ⟨#[61]⟩] W fun e w' => e = .returned (.bool true) ∧ (RS w' L R bv A c bs (p1 + 1) many ∧ Rest bs (p1 + 1) r2) ∧ Fr L R W w' := fun W p1 hW hq =>
      (rs_yes hW ⟨#[61]⟩ r2 (by decide) (by decide) hq.eq).mono fun e w' k => ⟨k.1, ⟨k.2.1, hq.app (s := [61])⟩, k.2.2⟩
    have k3 : ∀ W p1, RS W L R bv A c bs p1 many → Rest bs p1 r2 → Calls Tryz.prog 144 #[.pointer (some ⟨R, 0, none⟩)] W fun e w' => e = .returned (.int .i64 (ws r2 : Nat)) ∧ (RS w' L R bv A c bs (p1 + ws r2) many ∧ Rest bs (p1 + ws r2) (q :: r3)) ∧ Fr L R W w' := fun W p1 hW hq => by
      have hq2 := hq.ws_
      rw [hw2] at hq2
      exact (xml_blank hW hq.eq).mono fun e w' k => ⟨k.1, ⟨k.2.1, hq2⟩, k.2.2⟩
    have k4 : ∀ (r5 : List UInt8) W p1, RS W L R bv A c bs p1 many → Rest bs p1 (q :: r5) → Calls Tryz.prog 77 #[.pointer (some ⟨L, 0, none⟩)] W fun e w' => e = .returned (.int .i64 (q.toNat : Int)) ∧ (RS w' L R bv A c bs (p1 + 1) many ∧ Rest bs (p1 + 1) r5) ∧ Fr L R W w' := fun r5 W p1 hW hq => by
      have := rs_next hW
      rw [peek_cons hq.eq, if_pos (drop_one hq.eq).2] at this
      exact this.mono fun e w' k => ⟨k.1, ⟨k.2.1, hq.app (s := [q])⟩, k.2.2⟩
    have k4a := k4 r3
    have k4b := k4 r'
    have k5 := fun W p1 (hW : RS W L R bv A c bs p1 many) (hq : Rest bs p1 r3) => xml_text (q.toNat : Int) ⟨by omega, by have := q.toNat_lt; omega⟩ hW hq hT
    simp only [hV2] at k5
    have hx3 : (q.toNat : Int) = 34 ∨ (q.toNat : Int) = 39 := by rcases hqq with rfl | rfl; exact .inl rfl; exact .inr rfl
    have cps := fun (w : World) => xml_passed (w := w) true
    simp only [if_true] at cps
    show Calls Tryz.prog 170 #[.pointer (some ⟨R, 0, none⟩)] w fun e w' => e = .returned (.tuple #[.agg #[str pre, str nm, str v], .int .i64 0]) ∧ End w L R bv A c bs many r' w'
    rw [hPR2, hN2, hV2]
    replace k1 := Lib.hid k1
    replace k2 := Lib.hid k2
    replace k3 := Lib.hid k3
    replace k4a := Lib.hid k4a
    replace k4b := Lib.hid k4b
    replace k5 := Lib.hid k5
    replace h0 := Lib.hid h0
    replace hnew := Lib.hid hnew
    replace hb0 := Lib.hid hb0
    clear hF hw1 hw2 hqq hT h hr hN hN2 hV hV2 hPR hPR2 k4
    generalize hX : (q.toNat : Int) = X at *
    generalize ws r1 = m1 at *
    generalize ws r2 = m2 at *
    clear hX
    rcases hx3 with rfl | rfl
    all_goals
      go_enter Tryz.func170, Tryz.ntmps170
      go_wp2_with (first
        | (go_at_call 148; (with_reducible refine cf.mono ?_); rintro e w1 ⟨rfl, ⟨⟨p1, h1, q1⟩, f1⟩⟩; have g1 := k1.out w1 p1 h1 q1; replace f1 := Lib.hid f1; replace h1 := Lib.hid h1; replace q1 := Lib.hid q1)
        | (go_at_call 144; (with_reducible refine g1.mono ?_); rintro e w2 ⟨rfl, ⟨h2, q2⟩, f2⟩; have g2 := k2.out w2 _ h2 q2; have c2 := h2.rdr.cell 0; replace f2 := Lib.hid f2; replace h2 := Lib.hid h2; replace q2 := Lib.hid q2)
        | (go_at_call 42; (with_reducible refine g2.mono ?_); rintro e w3 ⟨rfl, ⟨h3, q3⟩, f3⟩; have g3 := k3.out w3 _ h3 q3; replace f3 := Lib.hid f3; replace h3 := Lib.hid h3; replace q3 := Lib.hid q3)
        | (go_at_call 144; (with_reducible refine g3.mono ?_); rintro e w4 ⟨rfl, ⟨h4, q4⟩, f4⟩; have g4 := k4a.out w4 _ h4 q4; have c4 := h4.rdr.cell 0; replace f4 := Lib.hid f4; replace h4 := Lib.hid h4; replace q4 := Lib.hid q4)
        | (go_at_call 77; (with_reducible refine g4.mono ?_); rintro e w5 ⟨rfl, ⟨h5, q5⟩, f5⟩; have g5 := k5.out w5 _ h5 q5; replace f5 := Lib.hid f5; replace h5 := Lib.hid h5; replace q5 := Lib.hid q5)
        | (go_at_call 165; (with_reducible refine g5.mono ?_); rintro e w6 ⟨rfl, ⟨⟨p6, h6, q6⟩, f6⟩⟩; have g6 := k4b.out w6 _ h6 q6; have c6 := h6.rdr.cell 0; replace f6 := Lib.hid f6; replace h6 := Lib.hid h6; replace q6 := Lib.hid q6)
        | (go_at_call 77; (with_reducible refine g6.mono ?_); rintro e w7 ⟨rfl, ⟨h7, q7⟩, f7⟩; have F := ((((((f1.out.trans f2.out).trans f3.out).trans f4.out).trans f5.out).trans f6.out).trans f7); have hz : Blk w7 w.heap.size 209 #[.string ⟨#[]⟩, .string ⟨#[]⟩, .string ⟨#[]⟩] := (F.block w.heap.size (by simp) (by omega) (by omega)).trans hnew.out; have a0 := hz.cell 0; have a1 := hz.cell 1; have a2 := hz.cell 2; have y0 := hz.frozen 0; have y1 := hz.frozen 1; have y2 := hz.frozen 2; replace hz := Lib.hid hz; replace F := Lib.hid F; replace f7 := Lib.hid f7; replace h7 := Lib.hid h7; replace q7 := Lib.hid q7)
        | (go_at_call 119; (with_reducible refine (cps _).mono ?_); rintro e w8 ⟨rfl, rfl⟩))
      have hV := put3_blk hz.out (.string PR) (.string N) (.string V)
      have hSV := put3_save w7 w.heap.size (.string PR) (.string N) (.string V)
      unfold put3 at hV hSV
      obtain ⟨U, hU⟩ : ∃ U, U = ((w7.setCell ⟨w.heap.size, 0, none⟩ (.string PR)).setCell ⟨w.heap.size, 1, none⟩ (.string N)).setCell ⟨w.heap.size, 2, none⟩ (.string V) := ⟨_, rfl⟩
      rw [← hU] at hV hSV ⊢
      have r0 := hV.cell 0
      have r1 := hV.cell 1
      have r2 := hV.cell 2
      have hF0 := (Fr.of_below hb0.out).trans F.out
      have hBU : Below w.heap.size w7 U := hSV.below (Nat.le_refl _) hF0.size
      refine bodyPost_ret (v := .tuple #[.agg #[.string PR, .string N, .string V], .int .i64 0]) (by simp [results, Tryz.results65, go_sem, r0, r1, r2]) rfl ⟨rfl, ⟨_, h7.out.belowB hBU hLlt hRlt hAlt.out, q7.out⟩, hF0.tail hBU⟩
end Go.Proofs.YtkpikpaepgknnaaGreatDoor

/- The reader reads attributes, however many. No condition. -/
namespace Go.Proofs.YtkpikpaepgknnaaGreatDoor
open Go Go.RowKit Go.Wk Go.Xt Go.Xe
/-- attributes -/
inductive AttsP : List UInt8 → List (List UInt8 × List UInt8 × List UInt8) → List UInt8 → Prop
  | nil (r r' : List UInt8) (c : UInt8) : r.drop (ws r) = c :: r' → (c = 47 ∨ c = 62) → AttsP r [] (c :: r')
  | cons (r r2 r' : List UInt8) (a : List UInt8 × List UInt8 × List UInt8) (l : List (List UInt8 × List UInt8 × List UInt8)) (c1 : UInt8) (rc : List UInt8) : 0 < ws r → r.drop (ws r) = c1 :: rc → c1 ≠ 47 → c1 ≠ 62 → AttP (c1 :: rc) a r2 → AttsP r2 l r' → AttsP r (a :: l) r'
def apV (l : List (List UInt8 × List UInt8 × List UInt8)) : List Value := l.flatMap fun a => [str a.1, str a.2.1, str a.2.2]
theorem apV_len (l : List (List UInt8 × List UInt8 × List UInt8)) : (apV l).length = 3 * l.length := by
  induction l with
  | nil => rfl
  | cons a l ih => simp [apV] at ih ⊢; omega
theorem apV_snoc (l : List (List UInt8 × List UInt8 × List UInt8)) (a : List UInt8 × List UInt8 × List UInt8) : apV (l ++ [a]) = apV l ++ [str a.1, str a.2.1, str a.2.2] := by simp [apV]
theorem fullN_len {r pre nm r' : List UInt8} (h : FullN r pre nm r') : r'.length ≤ r.length := by
  cases h with
  | one _ _ _ _ => simp
  | two _ r1 _ _ _ hd _ _ => have := congrArg List.length hd; simp at this ⊢; omega
theorem attP_len {r r' : List UInt8} {a : List UInt8 × List UInt8 × List UInt8} (h : AttP r a r') : r'.length < r.length := by
  cases h with
  | mk pre nm r1 v q r2 r3 hF h1 h2 _ r4 hT =>
    have a1 := fullN_len hF
    have a2 := congrArg List.length h1
    have a3 := congrArg List.length h2
    have a4 := txt_len hT
    simp at a2 a3 a4
    omega
set_option maxRecDepth 100000 in
theorem at_info : ∃ i, Tryz.prog.info? 209 = some i ∧ i.zero = some (.agg #[.string ⟨#[]⟩, .string ⟨#[]⟩, .string ⟨#[]⟩]) ∧ i.size = 3 ∧ i.bytes = 48 := ⟨_, rfl, by kernel_rfl, by kernel_rfl, by kernel_rfl⟩
theorem sl_of {w : World} {B e s n : Nat} {v : Value} {xs : List Value} (h : w.ownsRow B e s v n xs) : ∃ a c, v = .slice a n c := by
  rcases h.2 with ⟨rfl, rfl⟩ | ⟨g, cap, cur, rfl, _⟩
  · exact ⟨none, 0, rfl⟩
  · exact ⟨_, _, rfl⟩
theorem three_one (a0 a1 a2 : ByteArray) : ∀ u ∈ [Value.string a0, .string a1, .string a2], u.oneCell' = true := by
  intro u hu
  simp at hu
  rcases hu with rfl | rfl | rfl <;> rfl
theorem three_at {w : World} {h t : Nat} {v0 v1 v2 : Value} (hb : Blk w h t #[v0, v1, v2]) : ∀ j u, [v0, v1, v2][j]? = some u → w.cell? ((⟨h, 0, none⟩ : Addr).add j) = some u := by
  intro j u hj
  rw [Lib.add_plain, Nat.zero_add, hb.cell j, ← hj]
  match j with
  | 0 => rfl
  | 1 => rfl
  | 2 => rfl
  | _ + 3 => rfl
theorem own_frB {L R B e s n : Nat} {w w' : World} {v : Value} {xs : List Value} (h : w.ownsRow B e s v n xs) (f : Fr L R w w') (hL : L < B) (hR : R < B) : w'.ownsRow B e s v n xs := by
  refine ⟨h.1, ?_⟩
  rcases h.2 with h2 | ⟨g, cap, cur, e1, hB, hh, rest⟩
  · exact .inl h2
  · exact .inr ⟨g, cap, cur, e1, hB, (f.block g (by
      rcases Nat.lt_or_ge g w.heap.size with h' | h'
      · exact h'
      · rw [Array.getElem?_eq_none h'] at hh; cases hh) (by omega) (by omega)).trans hh, rest⟩
theorem own_belowB {B e s n : Nat} {w w' : World} {v : Value} {xs : List Value} (h : w.ownsRow B e s v n xs) (hb : Below w.heap.size w w') : w'.ownsRow B e s v n xs := by
  refine ⟨h.1, ?_⟩
  rcases h.2 with h2 | ⟨g, cap, cur, e1, hB, hh, rest⟩
  · exact .inl h2
  · exact .inr ⟨g, cap, cur, e1, hB, (hb.block g (by
      rcases Nat.lt_or_ge g w.heap.size with h' | h'
      · exact h'
      · rw [Array.getElem?_eq_none h'] at hh; cases hh)).trans hh, rest⟩
set_option maxHeartbeats 4000000 in
set_option maxRecDepth 100000 in
theorem xml_attrsP {w : World} {L R c p many : Nat} {bv : Value} {A : Option Addr} {bs r r' : List UInt8} {l : List (List UInt8 × List UInt8 × List UInt8)} (h : RS w L R bv A c bs p many) (hr : Rest bs p r) (hA : AttsP r l r') :
    Calls Tryz.prog 163 #[.pointer (some ⟨R, 0, none⟩)] w fun e w' => ∃ a cap, e = .returned (.tuple #[.slice a l.length cap, .int .i64 0]) ∧ w'.ownsRow w.heap.size 209 3 (.slice a l.length cap) l.length (apV l) ∧ End w L R bv A c bs many r' w' := by
  have hLlt := h.cur.L_lt
  have hRlt := h.rdr.lt
  have hAlt := Lib.hid h.A_lt
  have hsm := h.cur.small
  obtain ⟨i0, hi0, hq0, hqs, hqb⟩ := at_info
  replace h := Lib.hid h
  replace hr := Lib.hid hr
  replace hA := Lib.hid hA
  replace hi0 := Lib.hid hi0
  replace hq0 := Lib.hid hq0
  replace hqs := Lib.hid hqs
  replace hqb := Lib.hid hqb
  go_enter Tryz.func163, Tryz.ntmps163
  go_wp2
  go_loopw [4] (fun s4 wr => ∃ (q : Nat) (r1 : List UInt8) (done rest : List (List UInt8 × List UInt8 × List UInt8)), done ++ rest = l ∧ AttsP r1 rest r' ∧ Rest bs q r1 ∧ RS wr L R bv A c bs q many ∧ Fr L R w wr ∧ wr.ownsRow w.heap.size 209 3 s4 done.length (apV done) ∧ done.length + r1.length ≤ bs.length) (fun _ wr => bs.length + 1 - posOf L wr)
  case atStart => exact ⟨p, r, [], l, rfl, hA.out, hr.out, h.out, Fr.refl _ _ _, World.ownsRow_nil _ _ _ _, by have := hr.out.len; simp; omega⟩
  case round =>
    obtain ⟨q, r1, done, rest, hl, hA1, hq, hS, hF, hown, hlen⟩ := hrel
    have hpos := Lib.hid hS.pos
    have hFz := hF.size
    clear h hr hA
    obtain ⟨a4, c4, rfl⟩ := sl_of hown
    have k1 := xml_blank hS hq.eq
    have hq1 := hq.ws_
    cases hA1 with
    | nil _ r3 x hx hx2 =>
      rw [hx] at hq1
      have k2 : ∀ W, RS W L R bv A c bs (q + ws r1) many → Calls Tryz.prog 107 #[.pointer (some ⟨L, 0, none⟩), .int .i64 0] W fun e w' => e = .returned (.int .i64 (x.toNat : Int)) ∧ RS w' L R bv A c bs (q + ws r1) many ∧ Fr L R W w' := fun W hW => by
        have := rs_peek hW
        rw [peek_cons hq1.eq] at this
        exact this
      have hx3 : (x.toNat : Int) = 47 ∨ (x.toNat : Int) = 62 := by rcases hx2 with rfl | rfl; exact .inl rfl; exact .inr rfl
      rw [List.append_nil] at hl
      subst hl
      replace k2 := Lib.hid k2
      replace hq1 := Lib.hid hq1
      replace hown := Lib.hid hown
      replace hF := Lib.hid hF
      replace hS := Lib.hid hS
      clear hq hx hx2 hlen
      generalize hX : (x.toNat : Int) = X at *
      generalize ((ws r1 : Nat) : Int) = Z1 at *
      clear hX
      rcases hx3 with rfl | rfl
      all_goals
        go_wp2_with (first
          | (go_at_call 144; (with_reducible refine k1.mono ?_); rintro e w1 ⟨rfl, h1, f1⟩; have g2 := k2.out w1 h1; have c1 := h1.rdr.cell 0; replace f1 := Lib.hid f1; replace h1 := Lib.hid h1)
          | (go_at_call 107; (with_reducible refine g2.mono ?_); rintro e w2 ⟨rfl, h2, f2⟩; replace f2 := Lib.hid f2; replace h2 := Lib.hid h2))
        go_ret2
        exact ⟨_, _, rfl, own_frB hown.out (f1.out.trans f2.out) hLlt hRlt, ⟨_, h2.out, hq1.out⟩, (hF.out.trans f1.out).trans f2.out⟩
    | cons _ r2 _ a rest x1 rc h1 h2 h3 h4 h5 h6 =>
      rw [h2] at hq1
      have hdl := attP_len h5
      have hql := hq1.len
      have hql0 := hq.len
      obtain ⟨pre, nm, v⟩ := a
      obtain ⟨PR, hPR⟩ : ∃ N : ByteArray, str pre = .string N := ⟨_, rfl⟩
      obtain ⟨N, hN⟩ : ∃ N : ByteArray, str nm = .string N := ⟨_, rfl⟩
      obtain ⟨V, hV⟩ : ∃ N : ByteArray, str v = .string N := ⟨_, rfl⟩
      have k2 : ∀ W, RS W L R bv A c bs (q + ws r1) many → Calls Tryz.prog 107 #[.pointer (some ⟨L, 0, none⟩), .int .i64 0] W fun e w' => e = .returned (.int .i64 (x1.toNat : Int)) ∧ RS w' L R bv A c bs (q + ws r1) many ∧ Fr L R W w' := fun W hW => by
        have := rs_peek hW
        rw [peek_cons hq1.eq] at this
        exact this
      have k3 : ∀ W, RS W L R bv A c bs (q + ws r1) many → Calls Tryz.prog 170 #[.pointer (some ⟨R, 0, none⟩)] W fun e w' => e = .returned (.tuple #[.agg #[.string PR, .string N, .string V], .int .i64 0]) ∧ End W L R bv A c bs many r2 w' := fun W hW => by
        have := xml_attrP hW hq1 h5
        simp only [hPR, hN, hV] at this
        exact this
      have t1 : ((x1.toNat : Int) == 47) = false := by have := u8_eq x1 47; rw [show (((47 : UInt8).toNat : Int)) = 47 from rfl] at this; rw [← this]; simp [h3]
      have t2 : ((x1.toNat : Int) == 62) = false := by have := u8_eq x1 62; rw [show (((62 : UInt8).toNat : Int)) = 62 from rfl] at this; rw [← this]; simp [h4]
      have t3 : (((ws r1 : Nat) : Int) == 0) = false := by simp; omega
      have hsnoc : apV (done ++ [(pre, nm, v)]) = apV done ++ [.string PR, .string N, .string V] := by rw [apV_snoc, hPR, hN, hV]
      have hl2 : (done ++ [(pre, nm, v)]) ++ rest = l := by rw [← hl]; simp
      have hmx : done.length + 1 ≤ maxLen := by unfold maxLen; omega
      have hby : (done.length + 1) * 48 ≤ 140737488355328 := by omega
      have hdlen : (done ++ [(pre, nm, v)]).length = done.length + 1 := by simp
      have hdl2 : r2.length < r1.length := by have := congrArg List.length h2; simp at this hdl; omega
      have hbnd : done.length + 1 + r2.length ≤ bs.length := by omega
      obtain ⟨n, hn⟩ : ∃ n, n = done.length := ⟨_, rfl⟩
      rw [← hn] at hown hmx hby hdlen hbnd hlen ⊢
      replace k2 := Lib.hid k2
      replace k3 := Lib.hid k3
      replace hq1 := Lib.hid hq1
      replace hown := Lib.hid hown
      replace hF := Lib.hid hF
      replace hS := Lib.hid hS
      replace h6 := Lib.hid h6
      replace hl2 := Lib.hid hl2
      replace hsnoc := Lib.hid hsnoc
      replace hmx := Lib.hid hmx
      replace hby := Lib.hid hby
      replace hdlen := Lib.hid hdlen
      replace hbnd := Lib.hid hbnd
      replace hdl2 := Lib.hid hdl2
      replace hql0 := Lib.hid hql0
      replace hn := Lib.hid hn
      replace hPR := Lib.hid hPR
      replace hN := Lib.hid hN
      replace hV := Lib.hid hV
      clear hq h1 h2 h3 h4 h5 hdl hql hlen hl
      generalize hX1 : (x1.toNat : Int) = X1 at *
      generalize ((ws r1 : Nat) : Int) = Z1 at *
      clear hX1
      go_wp2_with (first
        | (go_at_call 144; (with_reducible refine k1.mono ?_); rintro e w1 ⟨rfl, h1, f1⟩; have g2 := k2.out w1 h1; have c1 := h1.rdr.cell 0; replace f1 := Lib.hid f1; replace h1 := Lib.hid h1)
        | (go_at_call 107; (with_reducible refine g2.mono ?_); rintro e w2 ⟨rfl, h2, f2⟩; have g3 := k3.out w2 h2; replace f2 := Lib.hid f2; replace h2 := Lib.hid h2)
        | (go_at_call 170; (with_reducible refine g3.mono ?_); rintro e w3 ⟨rfl, ⟨⟨p3, h3, q3⟩, f3⟩⟩; have F := (f1.out.trans f2.out).trans f3; have O3 := own_frB hown.out F hLlt hRlt; have Fz := F.size; replace f3 := Lib.hid f3; replace h3 := Lib.hid h3; replace q3 := Lib.hid q3; replace F := Lib.hid F; replace O3 := Lib.hid O3)
        | (at_builtin; refine wpList_append_own_at _ rfl (.tmp 33) (.tmp 35) 199 rfl w.heap.size 209 i0 _ 3 48 Tryz.underlying199 hi0.out hq0.out hqs.out hqb.out rfl (by decide) (.slice a4 n c4) n (apV done) rfl (own_belowB O3.out (((Below.refl _ _).alloc (Nat.le_refl _) _).alloc (by simp) _)) ⟨w3.heap.size + 1, 0, none⟩ 1 1 [.string PR, .string N, .string V] rfl rfl (three_at (by have := Blk.new (w3.alloc (.cells #[.string PR, .string N, .string V] 209)) 209 #[.string PR, .string N, .string V]; rw [World.size_alloc] at this; exact this)) (three_one _ _ _) hmx.out hby.out (by simp; omega) ?_; intro v5 w5 hown5 hg5 _ hat5; generalize hstop : wpList _ _ _ _ _ _ = G))
      subst hstop
      obtain ⟨a5, cp5, rfl⟩ := sl_of hown5
      have hz2 : ((w3.alloc (.cells #[.string PR, .string N, .string V] 209)).alloc (.cells #[.string PR, .string N, .string V] 209)).heap.size = w3.heap.size + 2 := by rw [World.size_alloc, World.size_alloc]
      have bb5 : Below w.heap.size w3 w5 := (((Below.refl w.heap.size w3).alloc (by omega) _).alloc (by rw [World.size_alloc]; omega) _).grown hg5 (by rw [hz2]; omega) (fun k hk => (O3.out.lt k hk).1)
      have h5 := h3.out.belowB bb5 hLlt hRlt hAlt.out
      have F5 := (hF.out.trans F.out).tail bb5
      have l1 := q3.out.len
      have l2 := hql0.out
      have l3 := hdl2.out
      have l4 := hbnd.out
      replace hown5 := Lib.hid hown5
      replace hg5 := Lib.hid hg5
      replace hat5 := Lib.hid hat5
      replace bb5 := Lib.hid bb5
      replace h5 := Lib.hid h5
      replace F5 := Lib.hid F5
      replace hz2 := Lib.hid hz2
      clear hi0 hq0 hqs hqb
      go_wp2
      go_roundw
      case rel => exact ⟨p3, r2, done ++ [(pre, nm, v)], rest, hl2.out, h6.out, q3.out, h5.out, F5.out, by rw [hdlen.out, hsnoc.out]; exact hown5.out, by rw [hdlen.out]; exact l4⟩
      case measure => rw [h5.out.pos, hpos.out]; omega
end Go.Proofs.YtkpikpaepgknnaaGreatDoor

/- What something in front of a name says. No condition. -/
namespace Go.Proofs.YtkpikpaepgknnaaGreatDoor
open Go Go.RowKit Go.Wk Go.Xt Go.Xe
def bndV (B : List (List UInt8 × List UInt8)) : List Value := B.flatMap fun b => [str b.1, str b.2]
theorem bndV_len (B : List (List UInt8 × List UInt8)) : (bndV B).length = 2 * B.length := by
  induction B with
  | nil => rfl
  | cons a l ih => simp [bndV] at ih ⊢; omega
theorem bndV_app (B : List (List UInt8 × List UInt8)) (p s : List UInt8) : bndV (B ++ [(p, s)]) = bndV B ++ [str p, str s] := by simp [bndV]
theorem bndV_at (B : List (List UInt8 × List UInt8)) : ∀ i (hi : i < B.length), (bndV B)[2 * i]? = some (str B[i].1) ∧ (bndV B)[2 * i + 1]? = some (str B[i].2) := by
  induction B with
  | nil => intro i hi; simp at hi
  | cons a l ih =>
    intro i hi
    have e : bndV (a :: l) = str a.1 :: str a.2 :: bndV l := by simp [bndV]
    rw [e]
    cases i with
    | zero => exact ⟨rfl, rfl⟩
    | succ i =>
      have := ih i (by simpa using hi)
      rw [show 2 * (i + 1) = 2 * i + 1 + 1 by omega]
      simpa using this
/-- what is bound, in memory -/
def Bnd (w : World) (B0 : Nat) (bv : Value) (B : List (List UInt8 × List UInt8)) : Prop := w.ownsRow B0 220 2 bv B.length (bndV B)
theorem toList_str (l : List UInt8) (N : ByteArray) (h : str l = .string N) : N.toList = l := by
  unfold str at h
  injection h with h
  rw [← h, ByteArray.toList_eq]
theorem Bnd.cell {w : World} {B0 : Nat} {a : Option Addr} {n cap : Nat} {B : List (List UInt8 × List UInt8)} (h : Bnd w B0 (.slice a n cap) B) : n = B.length ∧ ∀ i (hi : i < B.length), ∃ g, a = some ⟨g, 0, none⟩ ∧ w.cell? ⟨g, 2 * i, none⟩ = some (str B[i].1) ∧ w.cell? ⟨g, 2 * i + 1, none⟩ = some (str B[i].2) := by
  unfold Bnd at h
  have hn : n = B.length := by
    rcases h.2 with ⟨e, h0⟩ | ⟨g, cap', cur, e, _⟩
    · injection e with _ e _; omega
    · injection e
  subst hn
  refine ⟨rfl, fun i hi => ?_⟩
  rcases h.2 with ⟨e, h0⟩ | ⟨g, cap', cur, e, _⟩
  · omega
  · cases e
    have hb := bndV_at B i hi
    exact ⟨g, rfl, (h.cellAt (2 * i) (by omega)).trans hb.1, (h.cellAt (2 * i + 1) (by omega)).trans hb.2⟩
set_option maxHeartbeats 4000000 in
set_option maxRecDepth 100000 in
theorem xml_spaceP {w : World} {L R c p many B0 : Nat} {bv : Value} {A : Option Addr} {bs pre s : List UInt8} {B B1 B2 : List (List UInt8 × List UInt8)} (h : RS w L R bv A c bs p many) (hb : Bnd w B0 bv B) (hB : B = B1 ++ (pre, s) :: B2) (h2 : ∀ b ∈ B2, b.1 ≠ pre) (hx : pre ≠ [120, 109, 108]) (hm : B.length ≤ 10000000) :
    Calls Tryz.prog 172 #[.pointer (some ⟨R, 0, none⟩), str pre] w fun e w' => e = .returned (.tuple #[str s, .int .i64 0]) ∧ w = w' := by
  obtain ⟨a, cap, rfl⟩ := sl_of hb
  obtain ⟨_, hcell⟩ := hb.cell
  obtain ⟨PR, hPR⟩ : ∃ N : ByteArray, str pre = .string N := ⟨_, rfl⟩
  obtain ⟨S, hS⟩ : ∃ N : ByteArray, str s = .string N := ⟨_, rfl⟩
  have hPl := toList_str _ _ hPR
  have hx1 : (PR.toList == [120, 109, 108]) = false := by rw [hPl]; simpa using hx
  have hx2 : ¬ PR.toList = [120, 109, 108] := by rw [hPl]; exact hx
  have c2 := h.rdr.cell 2
  rw [hPR, hS]
  have hlen : B.length = B1.length + 1 + B2.length := by rw [hB]; simp; omega
  have rows : ∀ i, B1.length ≤ i → i < B.length → ∃ (g : Nat) (Q T : ByteArray), a = some ⟨g, 0, none⟩ ∧ w.cell? ⟨g, i * 2, none⟩ = some (.string Q) ∧ w.cell? ⟨g, i * 2 + 1, none⟩ = some (.string T) ∧ (i = B1.length → Q = PR ∧ T = S) ∧ (i ≠ B1.length → (Q.toList == PR.toList) = false ∧ ¬ Q.toList = PR.toList ∧ ¬ Q = PR) := by
    intro i h1 hi
    obtain ⟨g, rfl, k0, k1⟩ := hcell i hi
    refine ⟨g, ⟨B[i].1.toArray⟩, ⟨B[i].2.toArray⟩, rfl, by rw [Nat.mul_comm]; exact k0, by rw [Nat.mul_comm]; exact k1, fun e => ?_, fun e => ?_⟩
    · subst e
      have : B[B1.length] = (pre, s) := by simp [hB]
      rw [this]
      unfold str at hPR hS
      injection hPR with hPR
      injection hS with hS
      exact ⟨hPR, hS⟩
    · have hq : B[i] ∈ B2 := by
        have : B[i] = B2[i - B1.length - 1]'(by omega) := by
          subst hB
          rw [List.getElem_append_right (by omega)]
          obtain ⟨j, hj⟩ : ∃ j, i - B1.length = j + 1 := ⟨i - B1.length - 1, by omega⟩
          simp only [hj, List.getElem_cons_succ, Nat.add_sub_cancel]
        rw [this]; exact List.getElem_mem _
      have := h2 _ hq
      rw [hPl, ByteArray.toList_eq]
      refine ⟨by simpa using this, by simpa using this, fun e => this ?_⟩
      rw [← hPl, ← e, ByteArray.toList_eq]
  obtain ⟨n, hn⟩ : ∃ n, n = B.length := ⟨_, rfl⟩
  obtain ⟨m, hmm⟩ : ∃ m, m = B1.length := ⟨_, rfl⟩
  rw [← hn] at hm rows hlen
  rw [← hmm] at rows hlen
  replace c2 : w.cell? ⟨R, 2, none⟩ = some (.slice a n cap) := by rw [hn]; exact c2
  have hmn : m < n := by omega
  replace hlen := Lib.hid hlen
  replace rows := Lib.hid rows
  replace hn := Lib.hid hn
  replace hmm := Lib.hid hmm
  clear hcell hb hB h2 hx h hPR hS hPl
  have hn1 : (1 : Int) ≤ (n : Int) := by omega
  go_enter Tryz.func172, Tryz.ntmps172
  go_wp2
  go_loopw [6] (fun s6 wr => ∃ i : Nat, m ≤ i ∧ i < n ∧ s6 = .int .i64 i ∧ w = wr) (fun s6 _ => (RowKit.intOf s6).toNat)
  case atStart => exact ⟨n - 1, by omega, by omega, by rw [show ((n - 1 : Nat) : Int) = (n : Int) - 1 by omega], rfl⟩
  case round =>
    obtain ⟨i, h1, h2, rfl, rfl⟩ := hrel
    obtain ⟨g, Q, T, rfl, k0, k1, k2, k3⟩ := rows.out i h1 h2
    have hge : (0 : Int) ≤ (i : Int) := by omega
    by_cases hi : i = m
    · obtain ⟨rfl, rfl⟩ := k2 hi
      subst hi
      have hqq : (Q.toList == Q.toList) = true := by simp
      clear k3
      go_wp2
      go_ret2
      exact ⟨rfl, rfl⟩
    · obtain ⟨hqq, hq2, hq3⟩ := k3 hi
      have hi1 : 1 ≤ i := by omega
      clear k2 k3
      go_wp2
      go_roundw
      case rel => exact ⟨i - 1, by omega, by omega, by rw [show ((i - 1 : Nat) : Int) = (i : Int) - 1 by omega], trivial⟩
      case measure => simp [RowKit.intOf]; omega
end Go.Proofs.YtkpikpaepgknnaaGreatDoor

/- The grammar of elements, as far as it is used: what is read, and where reading stands behind it. No condition. -/
namespace Go.Xe
abbrev Bs := List UInt8
def whiteB (c : UInt8) : Bool := c == 9 || c == 10 || c == 13 || c == 32
def beginsB (c : UInt8) : Bool := (decide (97 ≤ c.toNat) && decide (c.toNat ≤ 122)) || (decide (65 ≤ c.toNat) && decide (c.toNat ≤ 90)) || c == 95 || decide (128 ≤ c.toNat)
def goesB (c : UInt8) : Bool := beginsB c || (decide (48 ≤ c.toNat) && decide (c.toNat ≤ 57)) || c == 45 || c == 46
/-- white signs -/
def ws (r : Bs) : Nat := (r.takeWhile whiteB).length
/-- a name -/
def nameS (r : Bs) : Bs := match r with
  | c :: _ => if beginsB c then r.takeWhile goesB else []
  | [] => []
/-- behind the next place of a text -/
inductive Behind (s : Bs) : Bs → Bs → Prop
  | here (r : Bs) : Behind s (s ++ r) r
  | next (c : UInt8) (r r' : Bs) : ¬ s <+: c :: r → Behind s r r' → Behind s (c :: r) r'
/-- a comment, an instruction, or neither -/
inductive Misc : Bs → Bool → Bs → Prop
  | com (r r' : Bs) : Behind [45, 45] r (62 :: r') → Misc ([60, 33, 45, 45] ++ r) true r'
  | ins (r r' : Bs) : ¬ [60, 33, 45, 45] <+: [60, 63] ++ r → Behind [63, 62] r r' → Misc ([60, 63] ++ r) true r'
  | no (r : Bs) : ¬ [60, 33, 45, 45] <+: r → ¬ [60, 63] <+: r → Misc r false r
/-- around the root -/
inductive Around : Bs → Bs → Prop
  | stop (r : Bs) : Misc (r.drop (ws r)) false (r.drop (ws r)) → Around r (r.drop (ws r))
  | more (r r1 r' : Bs) : Misc (r.drop (ws r)) true r1 → Around r1 r' → Around r r'
/-- behind an & -/
inductive Ent : Bs → Bs → Bs → Prop
/-- signs up to one that ends them (-1: none but the mark) -/
inductive Txt (fin : Int) : Bs → Bs → Bs → Prop
  | nil : Txt fin [] [] []
  | stop (c : UInt8) (r : Bs) : (c = 60 ∨ (c.toNat : Int) = fin) → Txt fin (c :: r) [] (c :: r)
  | byte (c : UInt8) (r o r' : Bs) : c ≠ 60 → (c.toNat : Int) ≠ fin → c ≠ 38 → Txt fin r o r' → Txt fin (c :: r) (c :: o) r'
  | ent (r e r1 o r' : Bs) : fin ≠ 38 → Ent r e r1 → Txt fin r1 o r' → Txt fin (38 :: r) (e ++ o) r'
/-- an attribute: its name, its value -/
inductive Att : Bs → Bs × Bs → Bs → Prop
  | mk (r nm r1 v : Bs) (q : UInt8) (r2 r3 : Bs) : nameS r = nm → nm ≠ [] → nm ≠ [120, 109, 108, 110, 115] → r.drop nm.length = r1 → ¬ [58] <+: r1 → r1.drop (ws r1) = 61 :: r2 → r2.drop (ws r2) = q :: r3 → (q = 34 ∨ q = 39) →
      (r4 : Bs) → Txt (q.toNat : Int) r3 v (q :: r4) → Att r (nm, v) r4
/-- attributes, one at most -/
inductive Atts : Bs → List (Bs × Bs) → Bs → Prop
  | nil (r r' : Bs) (c : UInt8) : r.drop (ws r) = c :: r' → (c = 47 ∨ c = 62) → Atts r [] (c :: r')
/-- a node -/
inductive Nd where
  | el (name : Bs) (atts : List (Bs × Bs)) (kids : List Nd)
  | tx (t : Bs)
/-- the beginning's mark: name, attributes, closed -/
inductive Mark : Bs → Bs → List (Bs × Bs) → Bool → Bs → Prop
  | open (r nm : Bs) (l : List (Bs × Bs)) (r1 r2 : Bs) : nameS r = nm → nm ≠ [] → r.drop nm.length = r1 → ¬ [58] <+: r1 → Atts r1 l (62 :: r2) → Mark (60 :: r) nm l false r2
  | shut (r nm : Bs) (l : List (Bs × Bs)) (r1 r2 : Bs) : nameS r = nm → nm ≠ [] → r.drop nm.length = r1 → ¬ [58] <+: r1 → Atts r1 l (47 :: 62 :: r2) → Mark (60 :: r) nm l true r2
mutual
/-- an element: so many in one another, so many marks met -/
inductive Elem : Nat → Nat → Bs → Nd → Nat → Bs → Prop
  | shut (d m : Nat) (r nm : Bs) (l : List (Bs × Bs)) (r1 : Bs) : m < 4000 → Mark r nm l true r1 → Elem (d + 1) m r (.el nm l []) (m + 1) r1
  | open (d m m2 : Nat) (r nm : Bs) (l : List (Bs × Bs)) (r1 : Bs) (ks : List Nd) (r2 r3 r4 : Bs) : m < 4000 → Mark r nm l false r1 → Cont (d + 1) (m + 1) [] r1 ks m2 r2 → nameS r2 = nm → r2.drop nm.length = r3 → ¬ [58] <+: r3 → r3.drop (ws r3) = 62 :: r4 →
      Elem (d + 1) m r (.el nm l ks) m2 r4
/-- a content: the text that is kept, what is read, behind its end's beginning -/
inductive Cont : Nat → Nat → Bs → Bs → List Nd → Nat → Bs → Prop
  | skip (d m m2 : Nat) (t r o r1 r2 : Bs) (ks : List Nd) (r' : Bs) : Txt (-1) r o r1 → Misc r1 true r2 → Cont d m (t ++ o) r2 ks m2 r' → Cont d m t r ks m2 r'
  | done (d m : Nat) (t r o r1 r2 : Bs) : Txt (-1) r o r1 → Misc r1 false r1 → r1 = [60, 47] ++ r2 → Cont d m t r (if t ++ o = [] then [] else [.tx (t ++ o)]) m r2
  | elem (d m m1 m2 : Nat) (t r o r1 r2 : Bs) (k : Nd) (ks : List Nd) (r' : Bs) : Txt (-1) r o r1 → Misc r1 false r1 → ¬ [60, 47] <+: r1 → Elem d m r1 k m1 r2 → Cont (d + 1) m1 [] r2 ks m2 r' →
      Cont (d + 1) m t r ((if t ++ o = [] then [] else [.tx (t ++ o)]) ++ k :: ks) m2 r'
end
end Go.Xe

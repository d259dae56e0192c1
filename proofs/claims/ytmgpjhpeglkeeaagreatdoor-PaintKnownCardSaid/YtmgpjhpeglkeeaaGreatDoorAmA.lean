/- An abstract machine for closed calls, and its soundness over the given model: part A. No condition. -/
import Derived.Calls
import Derived.WalkKit
import Derived.Laws.IdiomCopy
import Derived.WalkLawsBesides
set_option linter.unusedSimpArgs false
set_option linter.unusedVariables false
namespace Go.Am
open Go

/-! ### Names of families: binary paths, counted up -/
inductive Pth where
  | e
  | l (p : Pth)
  | r (p : Pth)
noncomputable def Pth.succ (p : Pth) : Pth := Pth.rec (motive := fun _ => Pth) (.l .e) (fun p _ => .r p) (fun _ ih => .l ih) p
def Pth.toNat : Pth → Nat
  | .e => 0
  | .l p => 2 * p.toNat + 1
  | .r p => 2 * p.toNat + 2
noncomputable def Pth.ofNatF (d : Nat) : Nat → Pth :=
  Nat.rec (motive := fun _ => Nat → Pth) (fun _ => .e)
    (fun _ ih n => Nat.rec (motive := fun _ => (Nat → Pth) → Pth) (fun _ => .e)
      (fun m _ ih => Nat.rec (motive := fun _ => Nat → (Nat → Pth) → Pth) (fun m ih => .l (ih (Nat.shiftRight m 1))) (fun _ _ m ih => .r (ih (Nat.shiftRight m 1))) (Nat.land m 1) m ih) n ih) d
noncomputable def Pth.ofNat (n : Nat) : Pth := Pth.ofNatF n n
noncomputable def Pth.beq (p : Pth) : Pth → Bool :=
  Pth.rec (motive := fun _ => Pth → Bool) (fun q => Pth.rec (motive := fun _ => Bool) true (fun _ _ => false) (fun _ _ => false) q)
    (fun _ ih q => Pth.rec (motive := fun _ => (Pth → Bool) → Bool) (fun _ => false) (fun q _ ih => ih q) (fun _ _ _ => false) q ih)
    (fun _ ih q => Pth.rec (motive := fun _ => (Pth → Bool) → Bool) (fun _ => false) (fun _ _ _ => false) (fun q _ ih => ih q) q ih) p

inductive PT (α : Type) where
  | lf
  | nd (l : PT α) (v : Option α) (r : PT α)
def PT.look {α : Type} : PT α → Pth → Option α
  | .lf, _ => none
  | .nd _ v _, .e => v
  | .nd l _ _, .l p => l.look p
  | .nd _ _ r, .r p => r.look p

/-! ### Values, families, heaps -/
inductive AV where
  | bad
  | bool (b : Bool)
  | str (n len : Nat)
  | ptr (f : Pth) (off ep : Nat)
  | nul
  | slc (f : Pth) (off len ep es : Nat)
  | nsl
  | mp (f : Pth)
  | nmp
  | fn (f : Nat) (first cap : List AV)
  | nfn
  | ifc (t : Nat) (v : AV)
  | nif
  | agg (l : List AV)
  | tup (l : List AV)
  | int (k : IntKind) (n : Int)
inductive Ex where
  | nrm
  | ext (id : Nat)
  | ret
/-- what a range over a function keeps for its rounds: the slots kept, how many slots there are, the parameters, the assignments, the body, the frame -/
structure LopD where
  N : Nat
  T : Nat
  ps : List Nat
  assign : Code
  body : Code
  fr : PT AV
inductive Body where
  | byt (n len : Nat)
  | arr (t : PT (List AV)) (es len : Nat) (z : List AV)
  | map (l : List (AV × AV))
  | lop (st : Nat) (pend : Ex) (d : LopD)
  | itr (m : Option Pth)
structure Fam where
  elem : Nat
  ep : Nat
  old : Nat
  body : Body
structure Hp where
  nx : Pth
  t : PT Fam
abbrev Fr := PT AV
inductive Out where
  | no (why : Nat)
  | ok (v : AV) (h : Hp)
inductive Env where
  | nil
  | cons (d : Nat) (v : AV) (e : Env)

/-! ### Small eliminators: every minor premise is closed, what varies comes behind the major one -/
noncomputable def bc (b : Bool) (t f : Out) : Out := Bool.rec f t b
noncomputable def natK (n : Nat) (k : Nat → Out) : Out := Nat.rec (motive := fun _ => (Nat → Out) → Out) (fun k => k 0) (fun m _ k => k (Nat.succ m)) n k
noncomputable def neg (b : Bool) : Bool := Bool.rec true false b

noncomputable def hpGet (t : PT Fam) (p : Pth) (d : Out) (k : Fam → Out) : Out :=
  Pth.rec (motive := fun _ => PT Fam → Out → (Fam → Out) → Out)
    (fun t d k => PT.rec (motive := fun _ => Out → (Fam → Out) → Out) (fun d _ => d) (fun _ v _ _ _ d k => Option.rec (motive := fun _ => Out → (Fam → Out) → Out) (fun d _ => d) (fun x _ k => k x) v d k) t d k)
    (fun _ ih t d k => PT.rec (motive := fun _ => (PT Fam → Out → (Fam → Out) → Out) → Out → (Fam → Out) → Out) (fun _ d _ => d) (fun l _ _ _ _ ih d k => ih l d k) t ih d k)
    (fun _ ih t d k => PT.rec (motive := fun _ => (PT Fam → Out → (Fam → Out) → Out) → Out → (Fam → Out) → Out) (fun _ d _ => d) (fun _ _ r _ _ ih d k => ih r d k) t ih d k) p t d k
noncomputable def hpSet (t : PT Fam) (p : Pth) (x : Option Fam) : PT Fam :=
  Pth.rec (motive := fun _ => PT Fam → Option Fam → PT Fam)
    (fun t x => PT.rec (motive := fun _ => Option Fam → PT Fam) (fun x => .nd .lf x .lf) (fun l _ r _ _ x => .nd l x r) t x)
    (fun _ ih t x => PT.rec (motive := fun _ => (PT Fam → Option Fam → PT Fam) → Option Fam → PT Fam) (fun ih x => .nd (ih .lf x) none .lf) (fun l v r _ _ ih x => .nd (ih l x) v r) t ih x)
    (fun _ ih t x => PT.rec (motive := fun _ => (PT Fam → Option Fam → PT Fam) → Option Fam → PT Fam) (fun ih x => .nd .lf none (ih .lf x)) (fun l v r _ _ ih x => .nd l v (ih r x)) t ih x) p t x

noncomputable def rwGet (t : PT (List AV)) (p : Pth) (d : Out) (k : (List AV) → Out) : Out :=
  Pth.rec (motive := fun _ => PT (List AV) → Out → ((List AV) → Out) → Out)
    (fun t d k => PT.rec (motive := fun _ => Out → ((List AV) → Out) → Out) (fun d _ => d) (fun _ v _ _ _ d k => Option.rec (motive := fun _ => Out → ((List AV) → Out) → Out) (fun d _ => d) (fun x _ k => k x) v d k) t d k)
    (fun _ ih t d k => PT.rec (motive := fun _ => (PT (List AV) → Out → ((List AV) → Out) → Out) → Out → ((List AV) → Out) → Out) (fun _ d _ => d) (fun l _ _ _ _ ih d k => ih l d k) t ih d k)
    (fun _ ih t d k => PT.rec (motive := fun _ => (PT (List AV) → Out → ((List AV) → Out) → Out) → Out → ((List AV) → Out) → Out) (fun _ d _ => d) (fun _ _ r _ _ ih d k => ih r d k) t ih d k) p t d k
noncomputable def rwSet (t : PT (List AV)) (p : Pth) (x : Option (List AV)) : PT (List AV) :=
  Pth.rec (motive := fun _ => PT (List AV) → Option (List AV) → PT (List AV))
    (fun t x => PT.rec (motive := fun _ => Option (List AV) → PT (List AV)) (fun x => .nd .lf x .lf) (fun l _ r _ _ x => .nd l x r) t x)
    (fun _ ih t x => PT.rec (motive := fun _ => (PT (List AV) → Option (List AV) → PT (List AV)) → Option (List AV) → PT (List AV)) (fun ih x => .nd (ih .lf x) none .lf) (fun l v r _ _ ih x => .nd (ih l x) v r) t ih x)
    (fun _ ih t x => PT.rec (motive := fun _ => (PT (List AV) → Option (List AV) → PT (List AV)) → Option (List AV) → PT (List AV)) (fun ih x => .nd .lf none (ih .lf x)) (fun l v r _ _ ih x => .nd l v (ih r x)) t ih x) p t x

noncomputable def frGet (t : PT AV) (p : Pth) (d : Out) (k : AV → Out) : Out :=
  Pth.rec (motive := fun _ => PT AV → Out → (AV → Out) → Out)
    (fun t d k => PT.rec (motive := fun _ => Out → (AV → Out) → Out) (fun d _ => d) (fun _ v _ _ _ d k => Option.rec (motive := fun _ => Out → (AV → Out) → Out) (fun d _ => d) (fun x _ k => k x) v d k) t d k)
    (fun _ ih t d k => PT.rec (motive := fun _ => (PT AV → Out → (AV → Out) → Out) → Out → (AV → Out) → Out) (fun _ d _ => d) (fun l _ _ _ _ ih d k => ih l d k) t ih d k)
    (fun _ ih t d k => PT.rec (motive := fun _ => (PT AV → Out → (AV → Out) → Out) → Out → (AV → Out) → Out) (fun _ d _ => d) (fun _ _ r _ _ ih d k => ih r d k) t ih d k) p t d k
noncomputable def frSet (t : PT AV) (p : Pth) (x : Option AV) : PT AV :=
  Pth.rec (motive := fun _ => PT AV → Option AV → PT AV)
    (fun t x => PT.rec (motive := fun _ => Option AV → PT AV) (fun x => .nd .lf x .lf) (fun l _ r _ _ x => .nd l x r) t x)
    (fun _ ih t x => PT.rec (motive := fun _ => (PT AV → Option AV → PT AV) → Option AV → PT AV) (fun ih x => .nd (ih .lf x) none .lf) (fun l v r _ _ ih x => .nd (ih l x) v r) t ih x)
    (fun _ ih t x => PT.rec (motive := fun _ => (PT AV → Option AV → PT AV) → Option AV → PT AV) (fun ih x => .nd .lf none (ih .lf x)) (fun l v r _ _ ih x => .nd l v (ih r x)) t ih x) p t x

/-- reading a slot whose place is known: made once an operand -/
inductive GetF where | mk (f : Fr → (AV → Out) → Out)
noncomputable def frGetC (p : Pth) : GetF :=
  Pth.rec (motive := fun _ => GetF)
    (.mk fun t k => PT.rec (motive := fun _ => (AV → Out) → Out) (fun _ => .no 1) (fun _ v _ _ _ k => Option.rec (motive := fun _ => (AV → Out) → Out) (fun _ => .no 1) (fun x k => k x) v k) t k)
    (fun _ ih => GetF.rec (fun g => .mk fun t k => PT.rec (motive := fun _ => (AV → Out) → Out) (fun _ => .no 1) (fun l _ _ _ _ k => g l k) t k) ih)
    (fun _ ih => GetF.rec (fun g => .mk fun t k => PT.rec (motive := fun _ => (AV → Out) → Out) (fun _ => .no 1) (fun _ _ r _ _ k => g r k) t k) ih) p
inductive SetF where | mk (f : Fr → Option AV → Fr)
noncomputable def frSetC (p : Pth) : SetF :=
  Pth.rec (motive := fun _ => SetF)
    (.mk fun t x => PT.rec (motive := fun _ => Option AV → Fr) (fun x => .nd .lf x .lf) (fun l _ r _ _ x => .nd l x r) t x)
    (fun _ ih => SetF.rec (fun g => .mk fun t x => PT.rec (motive := fun _ => Option AV → Fr) (fun x => .nd (g .lf x) none .lf) (fun l v r _ _ x => .nd (g l x) v r) t x) ih)
    (fun _ ih => SetF.rec (fun g => .mk fun t x => PT.rec (motive := fun _ => Option AV → Fr) (fun x => .nd .lf none (g .lf x)) (fun l v r _ _ x => .nd l v (g r x)) t x) ih) p
noncomputable def AV.asInt (v : AV) (k : IntKind → Int → Out) : Out :=
  AV.rec (motive_1 := fun _ => (IntKind → Int → Out) → Out) (motive_2 := fun _ => PUnit) (fun _ => .no 51) (fun _ _ => .no 51) (fun _ _ _ => .no 51) (fun _ _ _ _ => .no 51) (fun _ => .no 51) (fun _ _ _ _ _ _ => .no 51) (fun _ => .no 51) (fun _ _ => .no 51) (fun _ => .no 51) (fun _ _ _ _ _ _ => .no 51) (fun _ => .no 51) (fun _ _ _ _ => .no 51) (fun _ => .no 51) (fun _ _ _ => .no 51) (fun _ _ _ => .no 51) (fun k_ n_ k => k k_ n_) ⟨⟩ (fun _ _ _ _ => ⟨⟩) v k
noncomputable def AV.asBool (v : AV) (k : Bool → Out) : Out :=
  AV.rec (motive_1 := fun _ => (Bool → Out) → Out) (motive_2 := fun _ => PUnit) (fun _ => .no 52) (fun b_ k => k b_) (fun _ _ _ => .no 52) (fun _ _ _ _ => .no 52) (fun _ => .no 52) (fun _ _ _ _ _ _ => .no 52) (fun _ => .no 52) (fun _ _ => .no 52) (fun _ => .no 52) (fun _ _ _ _ _ _ => .no 52) (fun _ => .no 52) (fun _ _ _ _ => .no 52) (fun _ => .no 52) (fun _ _ _ => .no 52) (fun _ _ _ => .no 52) (fun _ _ _ => .no 52) ⟨⟩ (fun _ _ _ _ => ⟨⟩) v k
noncomputable def AV.asPtr (v : AV) (k : Pth → Nat → Nat → Out) : Out :=
  AV.rec (motive_1 := fun _ => (Pth → Nat → Nat → Out) → Out) (motive_2 := fun _ => PUnit) (fun _ => .no 53) (fun _ _ => .no 53) (fun _ _ _ => .no 53) (fun f_ o_ e_ k => k f_ o_ e_) (fun _ => .no 53) (fun _ _ _ _ _ _ => .no 53) (fun _ => .no 53) (fun _ _ => .no 53) (fun _ => .no 53) (fun _ _ _ _ _ _ => .no 53) (fun _ => .no 53) (fun _ _ _ _ => .no 53) (fun _ => .no 53) (fun _ _ _ => .no 53) (fun _ _ _ => .no 53) (fun _ _ _ => .no 53) ⟨⟩ (fun _ _ _ _ => ⟨⟩) v k
noncomputable def AV.asSlc (v : AV) (k : Pth → Nat → Nat → Nat → Nat → Out) : Out :=
  AV.rec (motive_1 := fun _ => (Pth → Nat → Nat → Nat → Nat → Out) → Out) (motive_2 := fun _ => PUnit) (fun _ => .no 54) (fun _ _ => .no 54) (fun _ _ _ => .no 54) (fun _ _ _ _ => .no 54) (fun _ => .no 54) (fun f_ o_ l_ e_ s_ k => k f_ o_ l_ e_ s_) (fun _ => .no 54) (fun _ _ => .no 54) (fun _ => .no 54) (fun _ _ _ _ _ _ => .no 54) (fun _ => .no 54) (fun _ _ _ _ => .no 54) (fun _ => .no 54) (fun _ _ _ => .no 54) (fun _ _ _ => .no 54) (fun _ _ _ => .no 54) ⟨⟩ (fun _ _ _ _ => ⟨⟩) v k
noncomputable def AV.asStr (v : AV) (k : Nat → Nat → Out) : Out :=
  AV.rec (motive_1 := fun _ => (Nat → Nat → Out) → Out) (motive_2 := fun _ => PUnit) (fun _ => .no 55) (fun _ _ => .no 55) (fun n_ l_ k => k n_ l_) (fun _ _ _ _ => .no 55) (fun _ => .no 55) (fun _ _ _ _ _ _ => .no 55) (fun _ => .no 55) (fun _ _ => .no 55) (fun _ => .no 55) (fun _ _ _ _ _ _ => .no 55) (fun _ => .no 55) (fun _ _ _ _ => .no 55) (fun _ => .no 55) (fun _ _ _ => .no 55) (fun _ _ _ => .no 55) (fun _ _ _ => .no 55) ⟨⟩ (fun _ _ _ _ => ⟨⟩) v k
noncomputable def AV.asAgg (v : AV) (k : List AV → Out) : Out :=
  AV.rec (motive_1 := fun _ => (List AV → Out) → Out) (motive_2 := fun _ => PUnit) (fun _ => .no 56) (fun _ _ => .no 56) (fun _ _ _ => .no 56) (fun _ _ _ _ => .no 56) (fun _ => .no 56) (fun _ _ _ _ _ _ => .no 56) (fun _ => .no 56) (fun _ _ => .no 56) (fun _ => .no 56) (fun _ _ _ _ _ _ => .no 56) (fun _ => .no 56) (fun _ _ _ _ => .no 56) (fun _ => .no 56) (fun l_ _ k => k l_) (fun _ _ _ => .no 56) (fun _ _ _ => .no 56) ⟨⟩ (fun _ _ _ _ => ⟨⟩) v k
noncomputable def AV.asTup (v : AV) (k : List AV → Out) : Out :=
  AV.rec (motive_1 := fun _ => (List AV → Out) → Out) (motive_2 := fun _ => PUnit) (fun _ => .no 57) (fun _ _ => .no 57) (fun _ _ _ => .no 57) (fun _ _ _ _ => .no 57) (fun _ => .no 57) (fun _ _ _ _ _ _ => .no 57) (fun _ => .no 57) (fun _ _ => .no 57) (fun _ => .no 57) (fun _ _ _ _ _ _ => .no 57) (fun _ => .no 57) (fun _ _ _ _ => .no 57) (fun _ => .no 57) (fun _ _ _ => .no 57) (fun l_ _ k => k l_) (fun _ _ _ => .no 57) ⟨⟩ (fun _ _ _ _ => ⟨⟩) v k
noncomputable def AV.asFn (v : AV) (k : Nat → List AV → List AV → Out) : Out :=
  AV.rec (motive_1 := fun _ => (Nat → List AV → List AV → Out) → Out) (motive_2 := fun _ => PUnit) (fun _ => .no 58) (fun _ _ => .no 58) (fun _ _ _ => .no 58) (fun _ _ _ _ => .no 58) (fun _ => .no 58) (fun _ _ _ _ _ _ => .no 58) (fun _ => .no 58) (fun _ _ => .no 58) (fun _ => .no 58) (fun f_ a_ c_ _ _ k => k f_ a_ c_) (fun _ => .no 58) (fun _ _ _ _ => .no 58) (fun _ => .no 58) (fun _ _ _ => .no 58) (fun _ _ _ => .no 58) (fun _ _ _ => .no 58) ⟨⟩ (fun _ _ _ _ => ⟨⟩) v k
noncomputable def AV.asMp (v : AV) (k : Option Pth → Out) : Out :=
  AV.rec (motive_1 := fun _ => (Option Pth → Out) → Out) (motive_2 := fun _ => PUnit) (fun _ => .no 59) (fun _ _ => .no 59) (fun _ _ _ => .no 59) (fun _ _ _ _ => .no 59) (fun _ => .no 59) (fun _ _ _ _ _ _ => .no 59) (fun _ => .no 59) (fun f_ k => k (some f_)) (fun k => k none) (fun _ _ _ _ _ _ => .no 59) (fun _ => .no 59) (fun _ _ _ _ => .no 59) (fun _ => .no 59) (fun _ _ _ => .no 59) (fun _ _ _ => .no 59) (fun _ _ _ => .no 59) ⟨⟩ (fun _ _ _ _ => ⟨⟩) v k
noncomputable def AV.asIfc (v : AV) (k : Nat → AV → Out) : Out :=
  AV.rec (motive_1 := fun _ => (Nat → AV → Out) → Out) (motive_2 := fun _ => PUnit) (fun _ => .no 124) (fun _ _ => .no 124) (fun _ _ _ => .no 124) (fun _ _ _ _ => .no 124) (fun _ => .no 124) (fun _ _ _ _ _ _ => .no 124) (fun _ => .no 124) (fun _ _ => .no 124) (fun _ => .no 124) (fun _ _ _ _ _ _ => .no 124) (fun _ => .no 124) (fun t_ v_ _ k => k t_ v_) (fun _ => .no 124) (fun _ _ _ => .no 124) (fun _ _ _ => .no 124) (fun _ _ _ => .no 124) ⟨⟩ (fun _ _ _ _ => ⟨⟩) v k
noncomputable def AV.lenK (v : AV) (k : Nat → Out) : Out :=
  AV.rec (motive_1 := fun _ => (Nat → Out) → Out) (motive_2 := fun _ => PUnit) (fun _ => .no 60) (fun _ _ => .no 60) (fun _ l_ k => k l_) (fun _ _ _ _ => .no 60) (fun _ => .no 60) (fun _ _ l_ _ _ k => k l_) (fun k => k 0) (fun _ _ => .no 60) (fun _ => .no 60) (fun _ _ _ _ _ _ => .no 60) (fun _ => .no 60) (fun _ _ _ _ => .no 60) (fun _ => .no 60) (fun _ _ _ => .no 60) (fun _ _ _ => .no 60) (fun _ _ _ => .no 60) ⟨⟩ (fun _ _ _ _ => ⟨⟩) v k
noncomputable def AV.lenS (v : AV) (k : Nat → Out) : Out :=
  AV.rec (motive_1 := fun _ => (Nat → Out) → Out) (motive_2 := fun _ => PUnit) (fun _ => .no 60) (fun _ _ => .no 60) (fun _ _ _ => .no 60) (fun _ _ _ _ => .no 60) (fun _ => .no 60) (fun _ _ l_ _ _ k => k l_) (fun k => k 0) (fun _ _ => .no 60) (fun _ => .no 60) (fun _ _ _ _ _ _ => .no 60) (fun _ => .no 60) (fun _ _ _ _ => .no 60) (fun _ => .no 60) (fun _ _ _ => .no 60) (fun _ _ _ => .no 60) (fun _ _ _ => .no 60) ⟨⟩ (fun _ _ _ _ => ⟨⟩) v k
noncomputable def AV.notNil (v : AV) (k : AV → Out) : Out :=
  AV.rec (motive_1 := fun _ => (AV → Out) → Out) (motive_2 := fun _ => PUnit) (fun _ => .no 61) (fun _ _ => .no 61) (fun _ _ _ => .no 61) (fun f_ o_ e_ k => k (.ptr f_ o_ e_)) (fun _ => .no 61) (fun _ _ _ _ _ _ => .no 61) (fun _ => .no 61) (fun _ _ => .no 61) (fun _ => .no 61) (fun f_ a_ c_ _ _ k => k (.fn f_ a_ c_)) (fun _ => .no 61) (fun t_ v_ _ k => k (.ifc t_ v_)) (fun _ => .no 61) (fun _ _ _ => .no 61) (fun _ _ _ => .no 61) (fun _ _ _ => .no 61) ⟨⟩ (fun _ _ _ _ => ⟨⟩) v k
noncomputable def AV.nilPtr (v : AV) (k : Bool → Out) : Out :=
  AV.rec (motive_1 := fun _ => (Bool → Out) → Out) (motive_2 := fun _ => PUnit) (fun _ => .no 62) (fun _ _ => .no 62) (fun _ _ _ => .no 62) (fun _ _ _ k => k false) (fun k => k true) (fun _ _ _ _ _ _ => .no 62) (fun _ => .no 62) (fun _ _ => .no 62) (fun _ => .no 62) (fun _ _ _ _ _ _ => .no 62) (fun _ => .no 62) (fun _ _ _ _ => .no 62) (fun _ => .no 62) (fun _ _ _ => .no 62) (fun _ _ _ => .no 62) (fun _ _ _ => .no 62) ⟨⟩ (fun _ _ _ _ => ⟨⟩) v k
noncomputable def AV.nilSlc (v : AV) (k : Bool → Out) : Out :=
  AV.rec (motive_1 := fun _ => (Bool → Out) → Out) (motive_2 := fun _ => PUnit) (fun _ => .no 62) (fun _ _ => .no 62) (fun _ _ _ => .no 62) (fun _ _ _ _ => .no 62) (fun _ => .no 62) (fun _ _ _ _ _ k => k false) (fun k => k true) (fun _ _ => .no 62) (fun _ => .no 62) (fun _ _ _ _ _ _ => .no 62) (fun _ => .no 62) (fun _ _ _ _ => .no 62) (fun _ => .no 62) (fun _ _ _ => .no 62) (fun _ _ _ => .no 62) (fun _ _ _ => .no 62) ⟨⟩ (fun _ _ _ _ => ⟨⟩) v k
noncomputable def AV.nilMp (v : AV) (k : Bool → Out) : Out :=
  AV.rec (motive_1 := fun _ => (Bool → Out) → Out) (motive_2 := fun _ => PUnit) (fun _ => .no 62) (fun _ _ => .no 62) (fun _ _ _ => .no 62) (fun _ _ _ _ => .no 62) (fun _ => .no 62) (fun _ _ _ _ _ _ => .no 62) (fun _ => .no 62) (fun _ k => k false) (fun k => k true) (fun _ _ _ _ _ _ => .no 62) (fun _ => .no 62) (fun _ _ _ _ => .no 62) (fun _ => .no 62) (fun _ _ _ => .no 62) (fun _ _ _ => .no 62) (fun _ _ _ => .no 62) ⟨⟩ (fun _ _ _ _ => ⟨⟩) v k
noncomputable def AV.nilFn (v : AV) (k : Bool → Out) : Out :=
  AV.rec (motive_1 := fun _ => (Bool → Out) → Out) (motive_2 := fun _ => PUnit) (fun _ => .no 62) (fun _ _ => .no 62) (fun _ _ _ => .no 62) (fun _ _ _ _ => .no 62) (fun _ => .no 62) (fun _ _ _ _ _ _ => .no 62) (fun _ => .no 62) (fun _ _ => .no 62) (fun _ => .no 62) (fun _ _ _ _ _ k => k false) (fun k => k true) (fun _ _ _ _ => .no 62) (fun _ => .no 62) (fun _ _ _ => .no 62) (fun _ _ _ => .no 62) (fun _ _ _ => .no 62) ⟨⟩ (fun _ _ _ _ => ⟨⟩) v k
noncomputable def AV.asIntT (v : AV) (k : Option AV → IntKind → Int → Out) : Out :=
  AV.rec (motive_1 := fun _ => (Option AV → IntKind → Int → Out) → Out) (motive_2 := fun _ => PUnit) (fun _ => .no 51) (fun _ _ => .no 51) (fun _ _ _ => .no 51) (fun _ _ _ _ => .no 51) (fun _ => .no 51) (fun _ _ _ _ _ _ => .no 51) (fun _ => .no 51) (fun _ _ => .no 51) (fun _ => .no 51) (fun _ _ _ _ _ _ => .no 51) (fun _ => .no 51) (fun _ v_ _ k => k (some v_) .i64 0) (fun _ => .no 51) (fun _ _ _ => .no 51) (fun _ _ _ => .no 51) (fun k_ n_ k => k none k_ n_) ⟨⟩ (fun _ _ _ _ => ⟨⟩) v k
noncomputable def nthK (l : List AV) (n : Nat) (k : AV → Out) : Out :=
  List.rec (motive := fun _ => Nat → (AV → Out) → Out) (fun _ _ => .no 3) (fun a _ ih n k => Nat.rec (motive := fun _ => AV → (Nat → (AV → Out) → Out) → (AV → Out) → Out) (fun a _ k => k a) (fun m _ _ ih k => ih m k) n a ih k) l n k
noncomputable def setNth (l : List AV) (n : Nat) (v : AV) : List AV :=
  List.rec (motive := fun _ => Nat → AV → List AV) (fun _ _ => []) (fun a l ih n v => Nat.rec (motive := fun _ => AV → List AV → (Nat → AV → List AV) → AV → List AV) (fun _ l _ v => v :: l) (fun m _ a _ ih v => a :: ih m v) n a l ih v) l n v
noncomputable def lenIs (l : List AV) (n : Nat) : Bool :=
  List.rec (motive := fun _ => Nat → Bool) (fun n => Nat.beq n 0) (fun _ _ ih n => Nat.rec (motive := fun _ => (Nat → Bool) → Bool) (fun _ => false) (fun m _ ih => ih m) n ih) l n
noncomputable def Env.getK (e : Env) (t : Nat) (k : AV → Out) : Out :=
  Env.rec (motive := fun _ => Nat → (AV → Out) → Out) (fun _ _ => Out.no 2) (fun s v _ ih t k => Bool.rec (motive := fun _ => AV → (Nat → (AV → Out) → Out) → Nat → (AV → Out) → Out) (fun _ ih t k => ih t k) (fun v _ _ k => k v) (Nat.beq s t) v ih t k) e t k

/-! ### The program's constants -/
noncomputable def leNat (l : List UInt8) : Nat := List.rec (motive := fun _ => Nat) 0 (fun b _ ih => Nat.add b.toNat (Nat.mul 256 ih)) l
noncomputable def ofVal1 (v : Value) : Option AV := match v with
  | .string s => some (.str (leNat s.data.toList) s.data.toList.length)
  | .bool b => some (.bool b)
  | .int k n => some (.int k n)
  | .pointer none => some .nul
  | .slice none 0 0 => some .nsl
  | .map none => some .nmp
  | .nilFunc => some .nfn
  | .nilIface => some .nif
  | .func (.func f) first captured => match first.toList, captured.toList with
    | [], [] => some (.fn f [] [])
    | _, _ => none
  | _ => none
noncomputable def ofVals (l : List Value) : Option (List AV) := match l with
  | [] => some []
  | v :: l => match ofVal1 v, ofVals l with
    | some a, some m => some (a :: m)
    | _, _ => none
noncomputable def ofVal (v : Value) : Option AV := match v with
  | .agg cs => match ofVals cs.toList with
    | some l => some (.agg l)
    | none => none
  | .tuple cs => match ofVals cs.toList with
    | some l => some (.tup l)
    | none => none
  | v => ofVal1 v

/-! ### Operands -/
inductive OpdF where | mk (f : Env → Fr → (AV → Out) → Out)
noncomputable def opdC (P : Program) (N : Nat) (x : Operand) : OpdF :=
  Operand.rec (motive := fun _ => Nat → OpdF)
    (fun t N => Bool.rec (motive := fun _ => Nat → OpdF) (fun t => .mk fun env _ k => Env.getK env t k) (fun t => GetF.rec (fun g => .mk fun _ fr k => g fr k) (frGetC (Pth.ofNat t))) (Nat.testBit N t) t)
    (fun v _ => match ofVal v with | some a => .mk fun _ _ k => k a | none => .mk fun _ _ _ => .no 4)
    (fun g _ => match Nat.blt g P.globals.size with | true => .mk fun _ _ k => k (.ptr (Pth.ofNat g) 0 0) | false => .mk fun _ _ _ => .no 5)
    (fun f _ => .mk fun _ _ k => k (.fn f [] [])) x N
inductive OpdsF where | mk (f : Env → Fr → (List AV → Out) → Out)
noncomputable def opdsC (P : Program) (N : Nat) (l : List Operand) : OpdsF :=
  List.rec (motive := fun _ => OpdsF) (.mk fun _ _ k => k []) (fun x _ ih => OpdF.rec (fun x => OpdsF.rec (fun r => .mk fun env fr k => x env fr fun v => r env fr fun l => k (v :: l)) ih) (opdC P N x)) l

/-! ### Integers -/
def maxN : IntKind → Nat
  | .i8 => 127 | .u8 => 255 | .i16 => 32767 | .u16 => 65535 | .i32 => 2147483647 | .u32 => 4294967295 | .i64 => 9223372036854775807 | .u64 => 18446744073709551615
noncomputable def kEq (a b : IntKind) : Bool := IntKind.rec (motive := fun _ => IntKind → Bool)
  (fun b => IntKind.rec (motive := fun _ => Bool) true false false false false false false false b) (fun b => IntKind.rec (motive := fun _ => Bool) false true false false false false false false b)
  (fun b => IntKind.rec (motive := fun _ => Bool) false false true false false false false false b) (fun b => IntKind.rec (motive := fun _ => Bool) false false false true false false false false b)
  (fun b => IntKind.rec (motive := fun _ => Bool) false false false false true false false false b) (fun b => IntKind.rec (motive := fun _ => Bool) false false false false false true false false b)
  (fun b => IntKind.rec (motive := fun _ => Bool) false false false false false false true false b) (fun b => IntKind.rec (motive := fun _ => Bool) false false false false false false false true b) a b
abbrev KI := Int → Out
noncomputable def fitN (k : IntKind) (n : Nat) (K : KI) : Out := Bool.rec (motive := fun _ => IntKind → Nat → KI → Out) (fun k n K => K (k.wrap (Int.ofNat n))) (fun _ n K => natK n fun n => K (Int.ofNat n)) (Nat.ble n (maxN k)) k n K
abbrev IB := IntKind → Int → Int → KI → Out
noncomputable def ii (nn : IntKind → Nat → Nat → KI → Out) (gen : IB) : IB := fun k a b K =>
  Int.rec (motive := fun _ => (IntKind → Nat → Nat → KI → Out) → IB → IntKind → Int → KI → Out)
    (fun m nn gen k b K => Int.rec (motive := fun _ => (IntKind → Nat → Nat → KI → Out) → IB → Nat → IntKind → KI → Out) (fun n nn _ m k K => nn k m n K) (fun n _ gen m k K => gen k (Int.ofNat m) (Int.negSucc n) K) b nn gen m k K)
    (fun m _ gen k b K => gen k (Int.negSucc m) b K) a nn gen k b K
noncomputable def addK : IB := ii (fun k m n K => fitN k (Nat.add m n) K) (fun k a b K => K (k.wrap (a + b)))
noncomputable def mulK : IB := ii (fun k m n K => fitN k (Nat.mul m n) K) (fun k a b K => K (k.wrap (a * b)))
noncomputable def subK : IB := ii (fun k m n K => Bool.rec (motive := fun _ => IntKind → Nat → Nat → KI → Out) (fun k m n K => K (k.wrap (Int.ofNat m - Int.ofNat n))) (fun k m n K => fitN k (Nat.sub m n) K) (Nat.ble n m) k m n K) (fun k a b K => K (k.wrap (a - b)))
noncomputable def remK : IB := ii (fun _ m n K => Bool.rec (motive := fun _ => Nat → Nat → KI → Out) (fun m n K => natK (Nat.mod m n) fun r => K (Int.ofNat r)) (fun _ _ _ => .no 31) (Nat.beq n 0) m n K) (fun _ a b K => bc (decide (b = 0)) (.no 31) (K (Int.tmod a b)))
noncomputable def quoK : IB := ii (fun k m n K => Bool.rec (motive := fun _ => IntKind → Nat → Nat → KI → Out) (fun k m n K => fitN k (Nat.div m n) K) (fun _ _ _ _ => .no 31) (Nat.beq n 0) k m n K) (fun k a b K => bc (decide (b = 0)) (.no 31) (K (k.wrap (Int.tdiv a b))))
noncomputable def bitsGen (g : (w : Nat) → BitVec w → BitVec w → BitVec w) : IB := fun k a b K => K (k.wrap (g k.bits (BitVec.ofInt k.bits a) (BitVec.ofInt k.bits b)).toNat)
noncomputable def landK : IB := ii (fun k m n K => Bool.rec (motive := fun _ => IntKind → Nat → Nat → KI → Out) (fun k m n K => bitsGen (fun _ a b => a &&& b) k (Int.ofNat m) (Int.ofNat n) K) (fun _ m n K => natK (Nat.land m n) fun r => K (Int.ofNat r)) (Bool.rec (fun _ => false) (fun b => b) (Nat.ble m (maxN k)) (Nat.ble n (maxN k))) k m n K) (bitsGen fun _ a b => a &&& b)
noncomputable def lorK : IB := ii (fun k m n K => Bool.rec (motive := fun _ => IntKind → Nat → Nat → KI → Out) (fun k m n K => bitsGen (fun _ a b => a ||| b) k (Int.ofNat m) (Int.ofNat n) K) (fun _ m n K => natK (Nat.lor m n) fun r => K (Int.ofNat r)) (Bool.rec (fun _ => false) (fun b => b) (Nat.ble m (maxN k)) (Nat.ble n (maxN k))) k m n K) (bitsGen fun _ a b => a ||| b)
noncomputable def xorK : IB := ii (fun k m n K => Bool.rec (motive := fun _ => IntKind → Nat → Nat → KI → Out) (fun k m n K => bitsGen (fun _ a b => a ^^^ b) k (Int.ofNat m) (Int.ofNat n) K) (fun _ m n K => natK (Nat.xor m n) fun r => K (Int.ofNat r)) (Bool.rec (fun _ => false) (fun b => b) (Nat.ble m (maxN k)) (Nat.ble n (maxN k))) k m n K) (bitsGen fun _ a b => a ^^^ b)
noncomputable def andNotK : IB := bitsGen fun _ a b => a &&& ~~~b
noncomputable def shrK : IB := ii (fun k m n K => natK (Nat.shiftRight m (min n k.bits)) fun r => K (Int.ofNat r)) (fun k a b K => bc (decide (b < 0)) (.no 32) (K (a.fdiv (2 ^ (min b.toNat k.bits)))))
noncomputable def shlK : IB := ii (fun k m n K => fitN k (Nat.shiftLeft m (min n k.bits)) K) (fun k a b K => bc (decide (b < 0)) (.no 32) (K (k.wrap (a * (2 ^ (min b.toNat k.bits))))))
abbrev KB := Bool → Out
noncomputable def ieq (a b : Int) (K : KB) : Out := Int.rec (motive := fun _ => Int → KB → Out)
   (fun m b K => Int.rec (motive := fun _ => Nat → KB → Out) (fun n m K => K (Nat.beq m n)) (fun _ _ K => K false) b m K)
   (fun m b K => Int.rec (motive := fun _ => Nat → KB → Out) (fun _ _ K => K false) (fun n m K => K (Nat.beq m n)) b m K) a b K
noncomputable def ilt (a b : Int) (K : KB) : Out := Int.rec (motive := fun _ => Int → KB → Out)
   (fun m b K => Int.rec (motive := fun _ => Nat → KB → Out) (fun n m K => K (Nat.blt m n)) (fun _ _ K => K false) b m K)
   (fun m b K => Int.rec (motive := fun _ => Nat → KB → Out) (fun _ _ K => K true) (fun n m K => K (Nat.blt n m)) b m K) a b K

/-! ### Strings: bytes as one number, the first byte lowest -/
noncomputable def strEq (n l n' l' : Nat) (K : KB) : Out := Bool.rec (motive := fun _ => Nat → Nat → KB → Out) (fun _ _ K => K false) (fun n n' K => K (Nat.beq n n')) (Nat.beq l l') n n' K
noncomputable def strLt (l' : Nat) : Nat → Nat → Nat → Bool :=
  Nat.rec (motive := fun _ => Nat → Nat → Nat → Bool) (fun _ _ _ => false)
    (fun _ ih n l n' => Nat.rec (motive := fun _ => Bool) true (fun l _ => Bool.rec (Bool.rec false (ih (Nat.shiftRight n 8) l (Nat.shiftRight n' 8)) (Nat.beq (Nat.mod n 256) (Nat.mod n' 256))) true (Nat.blt (Nat.mod n 256) (Nat.mod n' 256))) l) l'
noncomputable def strAdd (n l n' l' : Nat) (K : AV → Out) : Out := bc (Nat.ble (Nat.add l l') 9223372036854775807) (natK (Nat.add n (Nat.shiftLeft n' (Nat.mul 8 l))) fun n => natK (Nat.add l l') fun l => K (.str n l)) (.no 30)
noncomputable def strCut (n lo hi : Nat) (K : AV → Out) : Out := natK (Nat.mod (Nat.shiftRight n (Nat.mul 8 lo)) (Nat.shiftLeft 1 (Nat.mul 8 (Nat.sub hi lo)))) fun n => natK (Nat.sub hi lo) fun l => K (.str n l)

inductive BinF where | mk (f : AV → AV → (AV → Out) → Out)
noncomputable def arith (g : IB) : BinF := .mk fun x y K => x.asInt fun k a => y.asInt fun k' b => Bool.rec (motive := fun _ => IntKind → Int → Int → (AV → Out) → Out) (fun _ _ _ _ => .no 38) (fun k a b K => g k a b fun r => K (.int k r)) (kEq k k') k a b K
noncomputable def shft (g : IB) : BinF := .mk fun x y K => x.asInt fun k a => y.asInt fun _ b => g k a b fun r => K (.int k r)
noncomputable def cmpI (g : Int → Int → KB → Out) : BinF := .mk fun x y K => x.asInt fun k a => y.asInt fun k' b => Bool.rec (motive := fun _ => Int → Int → (AV → Out) → Out) (fun _ _ _ => .no 38) (fun a b K => g a b fun r => K (.bool r)) (kEq k k') a b K
noncomputable def cmpS (g : Nat → Nat → Nat → Nat → KB → Out) : BinF := .mk fun x y K => x.asStr fun n l => y.asStr fun n' l' => g n l n' l' fun r => K (.bool r)
noncomputable def cmpB (g : Bool → Bool → Bool) : BinF := .mk fun x y K => x.asBool fun a => y.asBool fun b => K (.bool (g a b))
inductive Cls where | int | str | bool | ptr | slc | mp | fnc | other
def clsOf (P : Program) (t : Nat) : Cls := match P.underlying t with
  | some (.int _) => .int | some .string => .str | some .bool => .bool
  | some (.pointer _) => .ptr | some (.slice _) => .slc | some (.map ..) => .mp | some (.func ..) => .fnc
  | _ => .other
noncomputable def isBad (v : AV) : Bool := AV.rec (motive_1 := fun _ => Bool) (motive_2 := fun _ => PUnit) true (fun _ => false) (fun _ _ => false) (fun _ _ _ => false) false (fun _ _ _ _ _ => false) false (fun _ => false) false (fun _ _ _ _ _ => false) false (fun _ _ _ => false) false (fun _ _ => false) (fun _ _ => false) (fun _ _ => false) ⟨⟩ (fun _ _ _ _ => ⟨⟩) v
/-- a number that is not known, but for where it lies: '.ifc 0 (.tup [.bad, .int k lo, .int k hi])' -/
noncomputable def ivlK (x : AV) (k : IntKind → Int → Int → Out) : Out := x.asTup fun l => nthK l 0 fun b => bc (isBad b) (nthK l 1 fun x => x.asInt fun kd lo => nthK l 2 fun y => y.asInt fun kd' hi => bc (kEq kd kd') (k kd lo hi) (.no 151)) (.no 151)
noncomputable def leqK (x y : AV) (K : KB) : Out := x.asInt fun k a => y.asIntT fun o k' b => Option.rec (motive := fun _ => IntKind → IntKind → Int → Int → KB → Out)
  (fun k k' a b K => Bool.rec (motive := fun _ => Int → Int → KB → Out) (fun _ _ _ => .no 38) (fun a b K => ilt b a fun r => K (neg r)) (kEq k k') a b K)
  (fun v k _ a _ K => ivlK v fun k' lo hi => bc (kEq k k') (ilt lo a fun r => Bool.rec (motive := fun _ => Out) (K true) (ilt hi a fun r => bc r (K false) (.no 150)) r) (.no 38)) o k k' a b K
noncomputable def mxK (v : AV) (k : Int → Out) : Out := v.asIntT fun o kd n => Option.rec (motive := fun _ => IntKind → Int → (Int → Out) → Out) (fun kd n k => bc (kEq kd .i64) (k n) (.no 112)) (fun v _ _ k => ivlK v fun kd lo _ => bc (kEq kd .i64) (k lo) (.no 112)) o kd n k
noncomputable def refEq (K : KB) (a b : Bool) : Out := Bool.rec (motive := fun _ => Bool → KB → Out) (fun b K => Bool.rec (motive := fun _ => KB → Out) (fun _ => .no 39) (fun K => K false) b K) (fun b K => K b) a b K
def infoB (P : Program) (t : Nat) : Bool := match P.underlying t with | some (.pointer e) => (P.info? e).isSome | _ => false
noncomputable def ptrEq (ok : Bool) (x y : AV) (K : KB) : Out := x.nilPtr fun a => y.nilPtr fun b => Bool.rec (motive := fun _ => Bool → AV → AV → Bool → KB → Out) (fun ok x y b K => Bool.rec (motive := fun _ => Bool → AV → AV → KB → Out) (fun ok x y K => bc ok (x.asPtr fun f o e => y.asPtr fun f' o' e' => bc (Pth.beq f f') (bc (Nat.beq o o') (bc (Nat.beq e e') (K true) (.no 39)) (.no 39)) (.no 39)) (.no 39)) (fun _ _ _ K => K false) b ok x y K) (fun _ _ _ b K => K b) a ok x y b K
noncomputable def binC (P : Program) (op : BinOp) (t : Nat) : BinF :=
  match op, clsOf P t with
  | .shl, _ => shft shlK | .shr, _ => shft shrK
  | .add, .int => arith addK | .sub, .int => arith subK | .mul, .int => arith mulK | .quo, .int => arith quoK | .rem, .int => arith remK
  | .and, .int => arith landK | .or, .int => arith lorK | .xor, .int => arith xorK | .andNot, .int => arith andNotK
  | .eql, .int => cmpI ieq | .neq, .int => cmpI fun a b K => ieq a b fun r => K (neg r)
  | .lss, .int => cmpI ilt | .gtr, .int => cmpI fun a b K => ilt b a K
  | .leq, .int => .mk fun x y K => leqK x y fun r => K (.bool r)
  | .geq, .int => cmpI fun a b K => ilt a b fun r => K (neg r)
  | .add, .str => .mk fun x y K => x.asStr fun n l => y.asStr fun n' l' => strAdd n l n' l' K
  | .eql, .str => cmpS strEq | .neq, .str => cmpS fun n l n' l' K => strEq n l n' l' fun r => K (neg r)
  | .lss, .str => cmpS fun n l n' l' K => K (strLt l' n l n') | .gtr, .str => cmpS fun n l n' l' K => K (strLt l n' l' n)
  | .leq, .str => cmpS fun n l n' l' K => K (neg (strLt l n' l' n)) | .geq, .str => cmpS fun n l n' l' K => K (neg (strLt l' n l n'))
  | .eql, .bool => cmpB fun a b => Bool.rec (neg b) b a
  | .neq, .bool => cmpB fun a b => Bool.rec b (neg b) a
  | .eql, .ptr => .mk fun x y K => ptrEq (infoB P t) x y fun r => K (.bool r)
  | .neq, .ptr => .mk fun x y K => ptrEq (infoB P t) x y fun r => K (.bool (neg r))
  | .eql, .slc => .mk fun x y K => x.nilSlc fun a => y.nilSlc fun b => refEq (fun r => K (.bool r)) a b
  | .neq, .slc => .mk fun x y K => x.nilSlc fun a => y.nilSlc fun b => refEq (fun r => K (.bool (neg r))) a b
  | .eql, .mp => .mk fun x y K => x.nilMp fun a => y.nilMp fun b => refEq (fun r => K (.bool r)) a b
  | .neq, .mp => .mk fun x y K => x.nilMp fun a => y.nilMp fun b => refEq (fun r => K (.bool (neg r))) a b
  | .eql, .fnc => .mk fun x y K => x.nilFn fun a => y.nilFn fun b => refEq (fun r => K (.bool r)) a b
  | .neq, .fnc => .mk fun x y K => x.nilFn fun a => y.nilFn fun b => refEq (fun r => K (.bool (neg r))) a b
  | _, _ => .mk fun _ _ _ => .no 40
noncomputable def unC (op : UnOp) : AV → (AV → Out) → Out :=
  match op with
  | .not => fun x K => x.asBool fun b => K (.bool (neg b))
  | .neg => fun x K => x.asInt fun k n => subK k 0 n fun r => K (.int k r)
  | .xor => fun x K => x.asInt fun k n => xorK k (if k.signed then -1 else k.max) n fun r => K (.int k r)
  | .plus => fun _ _ => .no 63

/-! ### Memory -/
noncomputable def rdCell (b : Body) (off : Nat) (k : AV → Out) : Out :=
  Body.rec (motive := fun _ => Nat → (AV → Out) → Out)
    (fun n len off k => Bool.rec (motive := fun _ => Nat → Nat → (AV → Out) → Out) (fun _ _ _ => .no 41) (fun n off k => natK (Nat.mod (Nat.shiftRight n (Nat.mul 8 off)) 256) fun c => k (.int .u8 (Int.ofNat c))) (Nat.blt off len) n off k)
    (fun t es len z off k => Bool.rec (motive := fun _ => PT (List AV) → Nat → List AV → Nat → (AV → Out) → Out) (fun _ _ _ _ _ => .no 41)
      (fun t es z off k => natK (Nat.div off es) fun i => rwGet t (Pth.ofNat i) (nthK z (Nat.mod off es) k) (fun row => nthK row (Nat.mod off es) k)) (Nat.blt off (Nat.mul es len)) t es z off k)
    (fun _ _ _ => .no 43) (fun _ _ _ _ _ => .no 43) (fun _ _ _ => .no 43) b off k
/-- n cells from off on -/
noncomputable def cellsK (b : Body) (n : Nat) (off : Nat) (k : List AV → Out) : Out :=
  Nat.rec (motive := fun _ => Body → Nat → (List AV → Out) → Out) (fun _ _ k => k []) (fun _ ih b off k => rdCell b off fun v => ih b (Nat.succ off) fun l => k (v :: l)) n b off k
noncomputable def rowK (b : Body) (n : Nat) (off : Nat) (k : List AV → Out) : Out :=
  Body.rec (motive := fun _ => Nat → Nat → (List AV → Out) → Out)
    (fun m len n off k => cellsK (.byt m len) n off k)
    (fun t es len z n off k => Bool.rec (motive := fun _ => PT (List AV) → Nat → Nat → List AV → Nat → Nat → (List AV → Out) → Out) (fun t es len z n off k => cellsK (.arr t es len z) n off k)
      (fun t es len z _ off k => natK (Nat.div off es) fun i => Bool.rec (motive := fun _ => PT (List AV) → List AV → Nat → (List AV → Out) → Out) (fun _ _ _ _ => .no 41) (fun t z i k => rwGet t (Pth.ofNat i) (k z) k) (Nat.blt i len) t z i k)
      (Bool.rec (fun _ => false) (fun b => b) (Nat.beq n es) (Nat.beq (Nat.mod off es) 0)) t es len z n off k)
    (fun _ _ _ _ => .no 43) (fun _ _ _ _ _ _ => .no 43) (fun _ _ _ _ => .no 43) b n off k
/-- m elements of es cells each -/
noncomputable def rowsK (b : Body) (es : Nat) (m : Nat) (off : Nat) (k : List (List AV) → Out) : Out :=
  Nat.rec (motive := fun _ => Body → Nat → Nat → (List (List AV) → Out) → Out) (fun _ _ _ k => k []) (fun _ ih b es off k => rowK b es off fun r => ih b es (Nat.add off es) fun l => k (r :: l)) m b es off k
noncomputable def bytesK (b : Body) (m : Nat) (off : Nat) (k : Nat → Out) : Out :=
  Body.rec (motive := fun _ => Nat → Nat → (Nat → Out) → Out)
    (fun n len m off k => bc (Nat.ble (Nat.add off m) len) (natK (Nat.mod (Nat.shiftRight n (Nat.mul 8 off)) (Nat.shiftLeft 1 (Nat.mul 8 m))) k) (.no 41))
    (fun t es len z m off k => Nat.rec (motive := fun _ => Body → Nat → (Nat → Out) → Out) (fun _ _ k => k 0) (fun _ ih b off k => rdCell b off fun v => v.asInt fun kd c => bc (kEq kd .u8) (Int.rec (motive := fun _ => Body → Nat → (Body → Nat → (Nat → Out) → Out) → (Nat → Out) → Out) (fun c b off ih k => bc (Nat.blt c 256) (ih b (Nat.succ off) fun r => k (Nat.add c (Nat.mul 256 r))) (.no 64)) (fun _ _ _ _ _ => .no 64) c b off ih k) (.no 64)) m (.arr t es len z) off k)
    (fun _ _ _ _ => .no 43) (fun _ _ _ _ _ _ => .no 43) (fun _ _ _ _ => .no 43) b m off k

noncomputable def big : Nat := 9223372036854775808
/-- the cells' type of a family, plus one; nought: not known -/
noncomputable def keepE (e t : Nat) : Nat := Bool.rec (motive := fun _ => Nat) 0 e (Nat.beq e (Nat.succ t))
noncomputable def famK (h : Hp) (f : Pth) (ep off n : Nat) (k : Fam → Out) : Out :=
  Hp.rec (motive := fun _ => Pth → Nat → Nat → Nat → (Fam → Out) → Out) (fun _ t f ep off n k => hpGet t f (.no 44) (fun fam => Fam.rec (motive := fun _ => Nat → Nat → Nat → (Fam → Out) → Out) (fun e ep' old b ep off n k => bc (Nat.beq ep ep') (k (Fam.mk e ep' old b)) (bc (Nat.ble (Nat.add off n) old) (k (Fam.mk e ep' old b)) (.no 45))) fam ep off n k)) h f ep off n k
noncomputable def famR (h : Hp) (f : Pth) (ep : Nat) (k : Fam → Out) : Out :=
  Hp.rec (motive := fun _ => Pth → Nat → (Fam → Out) → Out) (fun _ t f ep k => hpGet t f (.no 44) (fun fam => Fam.rec (motive := fun _ => Nat → (Fam → Out) → Out) (fun e ep' old b ep k => bc (Nat.beq ep ep') (k (Fam.mk e ep' old b)) (.no 46)) fam ep k)) h f ep k
noncomputable def famW (h : Hp) (f : Pth) (ep : Nat) (k : Fam → Out) : Out :=
  Hp.rec (motive := fun _ => Pth → Nat → (Fam → Out) → Out) (fun _ t f ep k => hpGet t f (.no 44) (fun fam => Fam.rec (motive := fun _ => Nat → (Fam → Out) → Out) (fun e ep' old b ep k => bc (Nat.beq ep ep') (bc (Nat.ble old big) (k (Fam.mk e ep' old b)) (.no 116)) (.no 46)) fam ep k)) h f ep k
noncomputable def Fam.oldK (fam : Fam) (k : Nat → Out) : Out := Fam.rec (motive := fun _ => (Nat → Out) → Out) (fun _ _ old _ k => k old) fam k
noncomputable def Fam.elemK (fam : Fam) (k : Nat → Out) : Out := Fam.rec (motive := fun _ => (Nat → Out) → Out) (fun e _ _ _ k => k e) fam k
noncomputable def Fam.bodyK (fam : Fam) (k : Body → Out) : Out := Fam.rec (motive := fun _ => (Body → Out) → Out) (fun _ _ _ b k => k b) fam k
noncomputable def newFam (h : Hp) (e : Nat) (b : Body) (k : Pth → Hp → Out) : Out :=
  Hp.rec (motive := fun _ => Nat → Body → (Pth → Hp → Out) → Out) (fun nx t e b k => k nx (.mk (Pth.succ nx) (hpSet t nx (some (Fam.mk e 0 big b))))) h e b k
noncomputable def putFam (h : Hp) (f : Pth) (fam : Option Fam) : Hp := Hp.rec (motive := fun _ => Pth → Option Fam → Hp) (fun nx t f fam => .mk nx (hpSet t f fam)) h f fam
noncomputable def minN (a b : Nat) : Nat := Bool.rec (motive := fun _ => Nat) b a (Nat.ble a b)
/-- the family behind a write from cell off on -/
noncomputable def Fam.wrote (fam : Fam) (off : Nat) (b : Body) : Fam := Fam.rec (motive := fun _ => Nat → Body → Fam) (fun e ep old _ off b => .mk e ep (minN old off) b) fam off b
noncomputable def wrCell (b : Body) (off : Nat) (v : AV) (k : Body → Out) : Out :=
  Body.rec (motive := fun _ => Nat → AV → (Body → Out) → Out)
    (fun n len off v k => v.asInt fun kd c => Int.rec (motive := fun _ => Nat → Nat → IntKind → Nat → (Body → Out) → Out)
      (fun c n len kd off k => bc (Nat.blt off len) (bc (kEq kd .u8) (bc (Nat.blt c 256) (natK (Nat.add (Nat.sub n (Nat.shiftLeft (Nat.mod (Nat.shiftRight n (Nat.mul 8 off)) 256) (Nat.mul 8 off))) (Nat.shiftLeft c (Nat.mul 8 off))) fun n => k (.byt n len)) (.no 64)) (.no 64)) (.no 41))
      (fun _ _ _ _ _ _ => .no 64) c n len kd off k)
    (fun t es len z off v k => bc (Nat.blt off (Nat.mul es len)) (natK (Nat.div off es) fun i => rwGet t (Pth.ofNat i) (k (.arr (rwSet t (Pth.ofNat i) (some (setNth z (Nat.mod off es) v))) es len z)) (fun row => k (.arr (rwSet t (Pth.ofNat i) (some (setNth row (Nat.mod off es) v))) es len z))) (.no 41))
    (fun _ _ _ _ => .no 43) (fun _ _ _ _ _ _ => .no 43) (fun _ _ _ _ => .no 43) b off v k
noncomputable def wrCells (l : List AV) (b : Body) (off : Nat) (k : Body → Out) : Out :=
  List.rec (motive := fun _ => Body → Nat → (Body → Out) → Out) (fun b _ k => k b) (fun v _ ih b off k => wrCell b off v fun b => ih b (Nat.succ off) k) l b off k
/-- a whole row: n = the row's length -/
noncomputable def wrRow (b : Body) (n : Nat) (off : Nat) (l : List AV) (k : Body → Out) : Out :=
  Body.rec (motive := fun _ => Nat → Nat → List AV → (Body → Out) → Out)
    (fun m len _ off l k => wrCells l (.byt m len) off k)
    (fun t es len z n off l k => Bool.rec (motive := fun _ => PT (List AV) → Nat → Nat → List AV → Nat → List AV → (Body → Out) → Out) (fun t es len z off l k => wrCells l (.arr t es len z) off k)
      (fun t es len z off l k => natK (Nat.div off es) fun i => bc (Nat.blt i len) (k (.arr (rwSet t (Pth.ofNat i) (some l)) es len z)) (.no 41))
      (Bool.rec (fun _ => false) (fun b => b) (Nat.beq n es) (Nat.beq (Nat.mod off es) 0)) t es len z off l k)
    (fun _ _ _ _ _ => .no 43) (fun _ _ _ _ _ _ _ => .no 43) (fun _ _ _ _ _ => .no 43) b n off l k
noncomputable def flat (v : AV) : Bool := AV.rec (motive_1 := fun _ => Bool) (motive_2 := fun _ => PUnit) false (fun _ => true) (fun _ _ => true) (fun _ _ _ => true) true (fun _ _ _ _ _ => true) true (fun _ => true) true (fun _ _ _ _ _ => true) true (fun _ _ _ => true) true (fun _ _ => false) (fun _ _ => false) (fun _ _ => true) ⟨⟩ (fun _ _ _ _ => ⟨⟩) v
/-- the cells of a value of n cells, a struct or an array or not -/
noncomputable def cellsOfC (a : Bool) (n : Nat) : AV → (List AV → Out) → Out :=
  match a with
  | true => fun v k => v.asAgg fun l => bc (lenIs l n) (k l) (.no 65)
  | false => match Nat.beq n 1 with
    | true => fun v k => bc (flat v) (k [v]) (.no 66)
    | false => fun _ _ => .no 66

def isAgg (P : Program) (t : Nat) : Bool := match P.underlying t with | some (.struct _) | some (.array _ _) => true | _ => false
def elemT (P : Program) (t : Nat) : Option Nat := match P.underlying t with | some (.slice e) => some e | _ => none
def isByte (P : Program) (t : Nat) : Bool := match P.underlying t with | some (.int .u8) => true | _ => false
noncomputable def zeroOf (P : Program) (t : Nat) : Option AV := match (P.info? t).bind (·.zero) with | some v => ofVal v | none => none
noncomputable def zeroL (P : Program) (t : Nat) : List AV := match zeroOf P t with | some (.agg l) => l | some v => [v] | none => []
noncomputable def hasZero (P : Program) (t : Nat) : Bool := match zeroOf P t with | some (.tup _) => false | some _ => true | none => false
noncomputable def lenOk0 (P : Program) (t : Nat) : Bool := match (P.info? t) with | some i => hasZero P t && Nat.beq (zeroL P t).length i.size && (zeroL P t).all flat | none => false
noncomputable def isZero (v : AV) : Bool := AV.rec (motive_1 := fun _ => Bool) (motive_2 := fun _ => PUnit) false (fun _ => false) (fun _ _ => false) (fun _ _ _ => false) false (fun _ _ _ _ _ => false) false (fun _ => false) false (fun _ _ _ _ _ => false) false (fun _ _ _ => false) false (fun _ _ => false) (fun _ _ => false) (fun kd n => Int.rec (fun n => Bool.rec false (Nat.beq n 0) (kEq kd .u8)) (fun _ => false) n) ⟨⟩ (fun _ _ _ _ => ⟨⟩) v
noncomputable def byteZero (P : Program) (t : Nat) : Bool := match isByte P t with | true => (match zeroL P t with | [v] => isZero v | _ => false) | false => true
def bytesT (P : Program) (t : Nat) : Nat := match P.info? t with | some i => i.bytes | none => 0
noncomputable def lenOk (P : Program) (t : Nat) : Bool := match (P.info? t) with | some i => hasZero P t && Nat.beq (zeroL P t).length i.size && Nat.ble 1 i.size && (zeroL P t).all flat && byteZero P t | none => false
def loadN (P : Program) (t : Nat) : Nat := if isAgg P t = true then P.cellsOf t else 1
noncomputable def loadC (P : Program) (t : Nat) : Body → Nat → (AV → Out) → Out :=
  match P.underlying t, isAgg P t with
  | none, _ => fun _ _ _ => .no 114
  | some _, true => fun b off k => rowK b (P.cellsOf t) off fun l => k (.agg l)
  | some _, false => fun b off k => rdCell b off k

/-! ### Append, copy -/
noncomputable def rowsIn (l : List (List AV)) (t : PT (List AV)) (i : Nat) : PT (List AV) :=
  List.rec (motive := fun _ => PT (List AV) → Nat → PT (List AV)) (fun t _ => t) (fun r _ ih t i => ih (rwSet t (Pth.ofNat i) (some r)) (Nat.succ i)) l t i
/-- the source's elements: bytes, or rows -/
noncomputable def srcBytes (h : Hp) (x : AV) (m : Nat) (k : Nat → Out) : Out :=
  AV.rec (motive_1 := fun _ => Hp → Nat → (Nat → Out) → Out) (motive_2 := fun _ => PUnit) (fun _ _ _ => .no 67) (fun _ _ _ _ => .no 67) (fun n _ _ m k => natK (Nat.mod n (Nat.shiftLeft 1 (Nat.mul 8 m))) k) (fun _ _ _ _ _ _ => .no 67) (fun _ _ _ => .no 67)
    (fun f o _ ep _ h m k => famK h f ep o m fun fam => fam.bodyK fun b => bytesK b m o k) (fun _ _ k => k 0) (fun _ _ _ _ => .no 67) (fun _ _ _ => .no 67) (fun _ _ _ _ _ _ _ _ => .no 67) (fun _ _ _ => .no 67) (fun _ _ _ _ _ _ => .no 67) (fun _ _ _ => .no 67) (fun _ _ _ _ _ => .no 67) (fun _ _ _ _ _ => .no 67) (fun _ _ _ _ _ => .no 67) ⟨⟩ (fun _ _ _ _ => ⟨⟩) x h m k
noncomputable def srcRows (es : Nat) (h : Hp) (x : AV) (m : Nat) (k : List (List AV) → Out) : Out :=
  x.asSlc fun f o _ ep es' => bc (Nat.beq es es') (famK h f ep o (Nat.mul m es) fun fam => fam.bodyK fun b => rowsK b es m o k) (.no 68)
inductive SrcF where | mk (f : Hp → AV → Nat → (Nat → List (List AV) → Out) → Out)
noncomputable def appBody (byte : Bool) (es : Nat) (b : Body) (slen m n : Nat) (rows : List (List AV)) (old : Nat) (k : Body → Nat → Out) : Out :=
  Body.rec (motive := fun _ => Bool → Nat → Nat → Nat → Nat → List (List AV) → Nat → (Body → Nat → Out) → Out)
    (fun c len byte _ slen m n _ old k => bc byte (bc (Nat.ble slen len) (natK (minN old slen) fun old => natK (Nat.add slen m) fun l => bc (Nat.beq len slen) (natK (Nat.add c (Nat.shiftLeft n (Nat.mul 8 slen))) fun c => k (.byt c l) old)
      (natK (Nat.add (Nat.mod c (Nat.shiftLeft 1 (Nat.mul 8 slen))) (Nat.shiftLeft n (Nat.mul 8 slen))) fun c => k (.byt c l) old)) (.no 69)) (.no 69))
    (fun t es' len z byte es slen m _ rows old k => bc byte (.no 69) (bc (Nat.beq es es') (bc (Nat.ble slen len) (natK (Nat.add slen m) fun l => natK (minN old (Nat.mul es slen)) fun old => k (.arr (rowsIn rows t slen) es' l z) old) (.no 69)) (.no 69)))
    (fun _ _ _ _ _ _ _ _ _ => .no 69) (fun _ _ _ _ _ _ _ _ _ _ _ => .no 69) (fun _ _ _ _ _ _ _ _ _ => .no 69) b byte es slen m n rows old k
/-- a new family of m elements -/
noncomputable def mkBody (byte : Bool) (es : Nat) (z : List AV) (m n : Nat) (rows : List (List AV)) : Body := Bool.rec (.arr (rowsIn rows .lf 0) es m z) (.byt n m) byte
/-- append of m elements (n: as bytes; rows) to s -/
noncomputable def appK (byte : Bool) (e es : Nat) (z : List AV) (s : AV) (m n : Nat) (rows : List (List AV)) (h : Hp) (k : AV → Hp → Out) : Out :=
  AV.rec (motive_1 := fun _ => Bool → Nat → Nat → List AV → Nat → Nat → List (List AV) → Hp → (AV → Hp → Out) → Out) (motive_2 := fun _ => PUnit) (fun _ _ _ _ _ _ _ _ _ => .no 70) (fun _ _ _ _ _ _ _ _ _ _ => .no 70) (fun _ _ _ _ _ _ _ _ _ _ _ => .no 70) (fun _ _ _ _ _ _ _ _ _ _ _ _ => .no 70) (fun _ _ _ _ _ _ _ _ _ => .no 70)
    (fun f o slen ep es' byte e es z m n rows h k => bc (Nat.beq es es') (famK h f ep o (Nat.mul slen es) fun fam => Nat.rec (motive := fun _ => Bool → Fam → Pth → Nat → Nat → Nat → Nat → Nat → List (List AV) → Hp → (AV → Hp → Out) → Out)
       (fun byte fam f slen t es m n rows h k => Fam.rec (motive := fun _ => Nat → Bool → Pth → Nat → Nat → Nat → Nat → List (List AV) → Hp → (AV → Hp → Out) → Out) (fun e ep old b t byte f slen es m n rows h k => bc (Nat.ble old big) (appBody byte es b slen m n rows old fun b old => natK (Nat.succ ep) fun ep => natK (Nat.add slen m) fun l => natK (keepE e t) fun e => k (.slc f 0 l ep es) (putFam h f (some (.mk e ep old b)))) (.no 116)) fam t byte f slen es m n rows h k)
       (fun _ _ _ _ _ _ _ _ _ _ _ _ _ => .no 71) o byte fam f slen e es m n rows h k) (.no 72))
    (fun byte e es z m n rows h k => newFam h (Nat.succ e) (mkBody byte es z m n rows) fun f h => k (.slc f 0 m 0 es) h)
    (fun _ _ _ _ _ _ _ _ _ _ => .no 70) (fun _ _ _ _ _ _ _ _ _ => .no 70) (fun _ _ _ _ _ _ _ _ _ _ _ _ _ _ => .no 70) (fun _ _ _ _ _ _ _ _ _ => .no 70) (fun _ _ _ _ _ _ _ _ _ _ _ _ => .no 70) (fun _ _ _ _ _ _ _ _ _ => .no 70) (fun _ _ _ _ _ _ _ _ _ _ _ => .no 70) (fun _ _ _ _ _ _ _ _ _ _ _ => .no 70) (fun _ _ _ _ _ _ _ _ _ _ _ => .no 70) ⟨⟩ (fun _ _ _ _ => ⟨⟩) s byte e es z m n rows h k
noncomputable def appC (P : Program) (e : Nat) : AV → AV → Hp → (AV → Hp → Out) → Out :=
  match lenOk P e, isByte P e, P.cellsOf e, zeroL P e, bytesT P e with
  | false, _, _, _, _ => fun _ _ _ _ => .no 73
  | true, true, _, z, bs => fun s x h k => s.lenS fun sl => x.lenK fun m => bc (Bool.rec false (Nat.ble (Nat.mul (Nat.add sl m) bs) 140737488355328) (Nat.ble (Nat.add sl m) 1099511627776)) (Nat.rec (motive := fun _ => AV → AV → Nat → Nat → List AV → Hp → (AV → Hp → Out) → Out) (fun s _ _ _ _ h k => k s h) (fun _ _ s x m e z h k => srcBytes h x m fun n => appK true e 1 z s m n [] h k) m s x m e z h k) (.no 120)
  | true, false, es, z, bs => fun s x h k => s.lenS fun sl => x.lenK fun m => bc (Bool.rec false (Nat.ble (Nat.mul (Nat.add sl m) bs) 140737488355328) (Nat.ble (Nat.add sl m) 1099511627776)) (Nat.rec (motive := fun _ => AV → AV → Nat → Nat → Nat → List AV → Hp → (AV → Hp → Out) → Out) (fun s _ _ _ _ _ h k => k s h) (fun _ _ s x m e es z h k => srcRows es h x m fun rows => appK false e es z s m 0 rows h k) m s x m e es z h k) (.no 120)
/-- bytes over bytes: m of them from off on -/
noncomputable def wrBytes (b : Body) (off m n : Nat) (k : Body → Out) : Out :=
  Body.rec (motive := fun _ => Nat → Nat → Nat → (Body → Out) → Out)
    (fun c len off m n k => bc (Nat.ble (Nat.add off m) len) (natK (Nat.add (Nat.add (Nat.mod c (Nat.shiftLeft 1 (Nat.mul 8 off))) (Nat.shiftLeft n (Nat.mul 8 off))) (Nat.shiftLeft (Nat.shiftRight c (Nat.mul 8 (Nat.add off m))) (Nat.mul 8 (Nat.add off m)))) fun c => k (.byt c len)) (bc (Nat.ble off len) (natK (Nat.add (Nat.mod c (Nat.shiftLeft 1 (Nat.mul 8 off))) (Nat.shiftLeft n (Nat.mul 8 off))) fun c => natK (Nat.add off m) fun l => k (.byt c l)) (.no 41)))
    (fun _ _ _ _ _ _ _ _ => .no 74) (fun _ _ _ _ _ => .no 74) (fun _ _ _ _ _ _ _ => .no 74) (fun _ _ _ _ _ => .no 74) b off m n k
noncomputable def wrRows (l : List (List AV)) (es : Nat) (b : Body) (off : Nat) (k : Body → Out) : Out :=
  List.rec (motive := fun _ => Nat → Body → Nat → (Body → Out) → Out) (fun _ b _ k => k b) (fun r _ ih es b off k => wrRow b es off r fun b => ih es b (Nat.add off es) k) l es b off k
noncomputable def copyC (P : Program) (e : Nat) : AV → AV → Hp → (AV → Hp → Out) → Out :=
  match lenOk P e, isByte P e, P.cellsOf e with
  | false, _, _ => fun _ _ _ _ => .no 73
  | true, true, _ => fun d x h k => d.lenS fun dl => x.lenK fun xl => natK (minN xl dl) fun m => Nat.rec (motive := fun _ => AV → AV → Nat → Hp → (AV → Hp → Out) → Out) (fun _ _ _ h k => k (.int .i64 0) h)
      (fun _ _ d x m h k => srcBytes h x m fun n => d.asSlc fun f o _ ep es => bc (Nat.beq es 1) (famW h f ep fun fam => fam.bodyK fun b => wrBytes b o m n fun b => k (.int .i64 (Int.ofNat m)) (putFam h f (some (fam.wrote o b)))) (.no 68)) m d x m h k
  | true, false, es => fun d x h k => d.lenS fun dl => x.lenK fun xl => natK (minN xl dl) fun m => Nat.rec (motive := fun _ => AV → AV → Nat → Nat → Hp → (AV → Hp → Out) → Out) (fun _ _ _ _ h k => k (.int .i64 0) h)
      (fun _ _ d x m es h k => srcRows es h x m fun rows => d.asSlc fun f o _ ep es' => bc (Nat.beq es es') (famW h f ep fun fam => fam.bodyK fun b => wrRows rows es b o fun b => k (.int .i64 (Int.ofNat m)) (putFam h f (some (fam.wrote o b)))) (.no 68)) m d x m es h k

/-! ### Operations -/
abbrev Call_ := Nat → List AV → Hp → (AV → Hp → Out) → Out
inductive OpF where | mk (f : Call_ → Env → Fr → Hp → (AV → Hp → Out) → Out)
noncomputable def OpF.no (w : Nat) : OpF := .mk fun _ _ _ _ _ => .no w
noncomputable def op1 (x : OpdF) (g : AV → Hp → (AV → Hp → Out) → Out) : OpF := OpdF.rec (motive := fun _ => OpF) (fun x => .mk fun _ env fr h k => x env fr fun v => g v h k) x
noncomputable def op2 (x y : OpdF) (g : AV → AV → Hp → (AV → Hp → Out) → Out) : OpF := OpdF.rec (motive := fun _ => OpF) (fun x => OpdF.rec (motive := fun _ => OpF) (fun y => .mk fun _ env fr h k => x env fr fun v => y env fr fun w => g v w h k) y) x
noncomputable def natOf (v : AV) (k : Nat → Out) : Out := v.asInt fun _ n => Int.rec (motive := fun _ => (Nat → Out) → Out) (fun m k => k m) (fun _ _ => .no 75) n k
def fieldT (P : Program) (s f : Nat) : Option Field := match P.underlying s with | some (.struct fs) => fs[f]? | _ => none
noncomputable def dropL (l : List AV) (n : Nat) (k : List AV → Out) : Out := Nat.rec (motive := fun _ => List AV → (List AV → Out) → Out) (fun l k => k l) (fun _ ih l k => List.rec (motive := fun _ => (List AV → (List AV → Out) → Out) → (List AV → Out) → Out) (fun _ _ => .no 76) (fun _ l _ ih k => ih l k) l ih k) n l k
noncomputable def takeL (l : List AV) (n : Nat) (k : List AV → Out) : Out := Nat.rec (motive := fun _ => List AV → (List AV → Out) → Out) (fun _ k => k []) (fun _ ih l k => List.rec (motive := fun _ => (List AV → (List AV → Out) → Out) → (List AV → Out) → Out) (fun _ _ => .no 76) (fun a l _ ih k => ih l fun r => k (a :: r)) l ih k) n l k
noncomputable def partC (P : Program) (t off : Nat) : List AV → (AV → Out) → Out :=
  match P.underlying t, isAgg P t with
  | none, _ => fun _ _ => .no 114
  | some _, true => fun l k => dropL l off fun l => takeL l (P.cellsOf t) fun l => k (.agg l)
  | some _, false => fun l k => nthK l off k
/-- new over old, from off on -/
noncomputable def spl (off : Nat) (new l : List AV) : List AV :=
  Nat.rec (motive := fun _ => List AV → List AV → List AV) (fun new l => List.rec (motive := fun _ => List AV → List AV) (fun l => l) (fun v _ ih l => List.rec (motive := fun _ => AV → (List AV → List AV) → List AV) (fun _ _ => []) (fun _ l _ v ih => v :: ih l) l v ih) new l)
    (fun _ ih new l => List.rec (motive := fun _ => List AV → (List AV → List AV → List AV) → List AV) (fun _ _ => []) (fun a l _ new ih => a :: ih new l) l new ih) off new l
inductive FillF where | mk (f : List AV → List AV → (List AV → Out) → Out)
/-- places: (offset, isAgg, size) of each part -/
noncomputable def fillC (ps : List (Nat × Bool × Nat)) : FillF :=
  List.rec (motive := fun _ => FillF) (.mk fun _ cs k => k cs) (fun p _ ih => FillF.rec (fun g => (match p, cellsOfC p.2.1 p.2.2 with | (off, _, _), c => .mk fun vs cs k => List.rec (motive := fun _ => List AV → (List AV → Out) → Out) (fun _ _ => .no 77) (fun v vs _ cs k => c v fun l => g vs (spl off l cs) k) vs cs k)) ih) ps
def placesOf (P : Program) (t : Nat) (l : List Nat) : Option (List (Nat × Bool × Nat)) :=
  match P.underlying t with
  | some (.struct fs) => bif fs.toList.all (fun f => (P.info? f.type).isSome) then l.mapM fun i => (fs[i]?).map fun f => (f.offset, isAgg P f.type, P.cellsOf f.type) else none
  | some (.array _ e) => bif (P.info? e).isSome then some (l.map fun i => (i * P.cellsOf e, isAgg P e, P.cellsOf e)) else none
  | _ => none
def inside (n : Nat) (ps : List (Nat × Bool × Nat)) : Bool := ps.all fun p => p.1 + p.2.2 ≤ n
noncomputable def buildC (P : Program) (t : Nat) (l : List Nat) : List AV → (AV → Out) → Out :=
  match placesOf P t l, lenOk0 P t with
  | some ps, true => if inside (zeroL P t).length ps then (match fillC ps, zeroL P t with | .mk g, z => fun vs k => g vs z fun cs => k (.agg cs)) else fun _ _ => .no 78
  | _, _ => fun _ _ => .no 78
def incr (i : Nat) : List Nat → Bool
  | [] => true
  | j :: l => i ≤ j && incr (j + 1) l
noncomputable def bytesOf (vs : List AV) (k : Nat → Out) : Out :=
  List.rec (motive := fun _ => (Nat → Out) → Out) (fun k => k 0) (fun v _ ih k => v.asInt fun kd c => bc (kEq kd .u8) (Int.rec (motive := fun _ => ((Nat → Out) → Out) → (Nat → Out) → Out) (fun c ih k => bc (Nat.blt c 256) (ih fun r => natK (Nat.add c (Nat.mul 256 r)) k) (.no 64)) (fun _ _ _ => .no 64) c ih k) (.no 64)) vs k
inductive RowsF where | mk (f : List AV → PT (List AV) → (PT (List AV) → Out) → Out)
noncomputable def rowsC (a : Bool) (es : Nat) (idx : List Nat) : RowsF :=
  List.rec (motive := fun _ => RowsF) (.mk fun _ t k => k t) (fun i _ ih => RowsF.rec (fun g => (match cellsOfC a es with | c => .mk fun vs t k => List.rec (motive := fun _ => PT (List AV) → (PT (List AV) → Out) → Out) (fun _ _ => .no 77) (fun v vs _ t k => c v fun l => g vs (rwSet t (Pth.ofNat i) (some l)) k) vs t k)) ih) idx
noncomputable def buildSliceC (P : Program) (t len : Nat) (idx : List Nat) : List AV → Hp → (AV → Hp → Out) → Out :=
  match elemT P t with
  | none => fun _ _ _ => .no 80
  | some e =>
    match lenOk P e && incr 0 idx && idx.all (· < len) && decide (len * P.cellsOf e ≤ 16777216), isByte P e, zeroL P e, P.cellsOf e with
    | false, _, _, _ => fun _ _ _ => .no 80
    | true, true, _, _ => match decide (idx = List.range len) || idx.isEmpty with
      | true => fun vs h k => bytesOf vs fun n => newFam h (Nat.succ e) (.byt n len) fun f h => k (.slc f 0 len 0 1) h
      | false => fun _ _ _ => .no 80
    | true, false, z, es => match rowsC (isAgg P e) es idx with | .mk g => fun vs h k => g vs .lf fun t => newFam h (Nat.succ e) (.arr t es len z) fun f h => k (.slc f 0 len 0 es) h
noncomputable def boxC (P : Program) (e : Nat) : AV → Hp → (AV → Hp → Out) → Out :=
  match lenOk0 P e, cellsOfC (isAgg P e) (P.cellsOf e), P.cellsOf e, zeroL P e with
  | true, c, es, z => fun v h k => c v fun l => newFam h (Nat.succ e) (.arr (.nd .lf (some l) .lf) es 1 z) fun f h => k (.ptr f 0 0) h
  | false, _, _, _ => fun _ _ _ => .no (8100000 + e)
noncomputable def storeC (P : Program) (t : Nat) : AV → AV → Hp → (AV → Hp → Out) → Out :=
  match isAgg P t, P.cellsOf t with
  | true, n => match cellsOfC true n with | c => fun a v h k => a.asPtr fun f o ep => c v fun l => famW h f ep fun fam => fam.bodyK fun b => wrRow b n o l fun b => k (.tup []) (putFam h f (some (fam.wrote o b)))
  | false, 1 => fun a v h k => a.asPtr fun f o ep => bc (flat v) (famW h f ep fun fam => fam.bodyK fun b => wrCell b o v fun b => k (.tup []) (putFam h f (some (fam.wrote o b)))) (.no 66)
  | false, _ => fun _ _ _ _ => .no 82
noncomputable def boundK (x : AV) (m : Nat) (k : Nat → Out) : Out := natOf x fun n => Bool.rec (motive := fun _ => Nat → (Nat → Out) → Out) (fun _ _ => .no 83) (fun n k => k n) (Nat.ble n m) n k
noncomputable def optK (x : Option AV) (d : Nat) (m : Nat) (k : Nat → Out) : Out := Option.rec (motive := fun _ => Nat → Nat → (Nat → Out) → Out) (fun d _ k => k d) (fun x _ m k => boundK x m k) x d m k
/-- low, high (and max) of a slice, an array or a string of m -/
noncomputable def boundsK (lo hi mx : Option AV) (m : Nat) (k : Nat → Nat → Out) : Out :=
  Option.rec (motive := fun _ => Option AV → Option AV → Nat → (Nat → Nat → Out) → Out) (fun lo hi m k => optK hi m m fun h => optK lo 0 h fun l => k l h)
    (fun x lo hi m k => boundK x m fun m' => Option.rec (motive := fun _ => Option AV → Nat → (Nat → Nat → Out) → Out) (fun _ _ _ => .no 84) (fun y lo m' k => boundK y m' fun h => optK lo 0 h fun l => k l h) hi lo m' k) mx lo hi m k
noncomputable def slcK (f : Pth) (o len ep es : Nat) (lo hi mx : Option AV) (k : AV → Out) : Out := boundsK lo hi mx len fun l h => natK (Nat.add o (Nat.mul l es)) fun o => natK (Nat.sub h l) fun n => k (.slc f o n ep es)
noncomputable def sliceC (P : Program) (t : Nat) : AV → Option AV → Option AV → Option AV → Hp → (AV → Hp → Out) → Out :=
  match P.underlying t with
  | some .string => fun x lo hi mx h k => Option.rec (motive := fun _ => AV → Option AV → Option AV → Hp → (AV → Hp → Out) → Out) (fun x lo hi h k => x.asStr fun n len => boundsK lo hi none len fun l e => strCut n l e fun v => k v h) (fun _ _ _ _ _ _ => .no 84) mx x lo hi h k
  | some (.slice e) => (match P.cellsOf e with | 0 => fun _ _ _ _ _ _ => .no 85 | sz + 1 => fun x lo hi mx h k => AV.rec (motive_1 := fun _ => Option AV → Option AV → Option AV → Hp → (AV → Hp → Out) → Out) (motive_2 := fun _ => PUnit) (fun _ _ _ _ _ => .no 85) (fun _ _ _ _ _ _ => .no 85) (fun _ _ _ _ _ _ _ => .no 85) (fun _ _ _ _ _ _ _ _ => .no 85) (fun _ _ _ _ _ => .no 85) (fun f o len ep es lo hi mx h k => bc (Nat.beq es (Nat.succ sz)) (slcK f o len ep es lo hi mx fun v => k v h) (.no 85)) (fun lo hi mx h k => boundsK lo hi mx 0 fun _ _ => k .nsl h) (fun _ _ _ _ _ _ => .no 85) (fun _ _ _ _ _ => .no 85) (fun _ _ _ _ _ _ _ _ _ _ => .no 85) (fun _ _ _ _ _ => .no 85) (fun _ _ _ _ _ _ _ _ => .no 85) (fun _ _ _ _ _ => .no 85) (fun _ _ _ _ _ _ _ => .no 85) (fun _ _ _ _ _ _ _ => .no 85) (fun _ _ _ _ _ _ _ => .no 85) ⟨⟩ (fun _ _ _ _ => ⟨⟩) x lo hi mx h k)
  | some (.array n e) => (match P.cellsOf e with | 0 => fun _ _ _ _ _ _ => .no 85 | sz + 1 => fun x lo hi mx h k => x.asPtr fun f o ep => bc (Nat.ble 1 n) (famK h f ep o (Nat.mul n (Nat.succ sz)) fun fam => fam.bodyK fun b => rdCell b (Nat.pred (Nat.add o (Nat.mul n (Nat.succ sz)))) fun _ => slcK f o n ep (Nat.succ sz) lo hi mx fun v => k v h) (.no 85))
  | _ => fun _ _ _ _ _ _ => .no 86
inductive OptF where | mk (f : Env → Fr → (Option AV → Out) → Out)
noncomputable def optC (P : Program) (N : Nat) (x : Option Operand) : OptF := match x with
  | none => .mk fun _ _ k => k none
  | some x => OpdF.rec (fun x => .mk fun env fr k => x env fr fun v => k (some v)) (opdC P N x)
noncomputable def Body.notMap (b : Body) (k : Out) : Out := Body.rec (motive := fun _ => Out → Out) (fun _ _ k => k) (fun _ _ _ _ k => k) (fun _ _ => .no 43) (fun _ _ _ _ => .no 43) (fun _ _ => .no 43) b k
noncomputable def runeStr (n : Nat) : AV := match (Utf8.encode (Int.ofNat n)).data.toList with | l => .str (leNat l) l.length
noncomputable def convC (P : Program) (s d : Nat) : AV → Hp → (AV → Hp → Out) → Out :=
  match P.underlying s, P.underlying d with
  | some (.int _), some (.int kd) => fun v h k => v.asInt fun _ n => Int.rec (motive := fun _ => Hp → (AV → Hp → Out) → Out) (fun m h k => fitN kd m fun r => k (.int kd r) h) (fun m h k => k (.int kd (kd.wrap (Int.negSucc m))) h) n h k
  | some (.int _), some .string => fun v h k => natOf v fun n => Bool.rec (motive := fun _ => Nat → Hp → (AV → Hp → Out) → Out) (fun n h k => k (runeStr n) h) (fun n h k => k (.str n 1) h) (Nat.blt n 128) n h k
  | some .string, some (.slice e) => match isByte P e with
     | true => fun v h k => v.asStr fun n len => newFam h (Nat.succ e) (.byt n len) fun f h => k (.slc f 0 len 0 1) h
     | false => fun _ _ _ => .no 87
  | some (.slice e), some .string => match isByte P e with
     | true => fun v h k => v.lenS fun len => srcBytes h v len fun n => k (.str n len) h
     | false => fun _ _ _ => .no 87
  | some .string, some .string => fun v h k => v.asStr fun n len => k (.str n len) h
  | some (.pointer t), some .unsafePointer => (match P.info? t with
     | some i => (match i.size with
       | 0 => fun _ _ _ => .no 87
       | _ + 1 => fun v h k => v.asPtr fun f o ep => famK h f ep o 1 fun fam => fam.bodyK fun b => rdCell b o fun _ => k (.ptr f o ep) h)
     | none => fun _ _ _ => .no 87)
  | some .unsafePointer, some (.pointer u) => (match P.info? u with
     | some i => (match i.size with
       | 0 => fun _ _ _ => .no 87
       | s + 1 => fun v h k => v.asPtr fun f o ep => bc (Nat.beq o 0) (famW h f ep fun fam => fam.elemK fun el => bc (Nat.beq el (Nat.succ u)) (fam.bodyK fun b => rdCell b s fun _ => k (.ptr f o ep) h) (.no 143)) (.no 143))
     | none => fun _ _ _ => .no 87)
  | some (.slice e), some (.slice _) => match isByte P e && Nat.beq s d with
     | true => fun v h k => v.asSlc fun f o l ep es => bc (Nat.ble 1 l) (famK h f ep 0 0 fun fam => fam.oldK fun old => bc (Nat.ble old big) (fam.bodyK fun b => b.notMap (k (.slc f o l ep es) h)) (.no 116)) (.no 87)
     | false => fun _ _ _ => .no 87
  | _, _ => fun _ _ _ => .no 87
noncomputable def idxC (P : Program) (t : Nat) : AV → AV → Hp → (AV → Hp → Out) → Out :=
  match P.underlying t with
  | some .string => fun x i h k => x.asStr fun n len => natOf i fun i => Bool.rec (motive := fun _ => Nat → Nat → Hp → (AV → Hp → Out) → Out) (fun _ _ _ _ => .no 88) (fun n i h k => natK (Nat.mod (Nat.shiftRight n (Nat.mul 8 i)) 256) fun c => k (.int .u8 (Int.ofNat c)) h) (Nat.blt i len) n i h k
  | some (.array n e) => match P.cellsOf e, fun off => partC P e off with
     | es, g => fun x i h k => x.asAgg fun l => natOf i fun i => bc (Nat.blt i n) (g (Nat.mul i es) l fun v => k v h) (.no 88)
  | _ => fun _ _ _ _ => .no 89
noncomputable def idxAddrC (P : Program) (t : Nat) : AV → AV → Hp → (AV → Hp → Out) → Out :=
  match P.underlying t with
  | some (.slice e) => (match P.cellsOf e with | 0 => fun _ _ _ _ => .no 90 | sz + 1 => fun x i h k => x.asSlc fun f o len ep es => bc (Nat.beq es (Nat.succ sz)) (natOf i fun i => Bool.rec (motive := fun _ => Pth → Nat → Nat → Nat → Nat → Hp → (AV → Hp → Out) → Out) (fun _ _ _ _ _ _ _ => .no 88) (fun f o ep es i h k => natK (Nat.add o (Nat.mul i es)) fun o => k (.ptr f o ep) h) (Nat.blt i len) f o ep es i h k) (.no 90))
  | some (.array n e) => (match P.cellsOf e with | 0 => fun _ _ _ _ => .no 90 | sz + 1 => fun x i h k => x.asPtr fun f o ep => natOf i fun i => bc (Nat.blt i n) (natK (Nat.add o (Nat.mul i (Nat.succ sz))) fun o => k (.ptr f o ep) h) (.no 88))
  | _ => fun _ _ _ _ => .no 90
noncomputable def makeSliceC (P : Program) (t : Nat) : AV → AV → Hp → (AV → Hp → Out) → Out :=
  match elemT P t with
  | none => fun _ _ _ _ => .no 80
  | some e => match lenOk P e, isByte P e, P.cellsOf e, zeroL P e, bytesT P e with
    | false, _, _, _, _ => fun _ _ _ _ => .no 80
    | true, byte, es, z, bs => fun l c h k => natOf l fun l => natOf c fun c => bc (Nat.ble l c) (bc (Nat.ble c 1000000 && Nat.ble (Nat.mul bs c) 281474976710656) (newFam h (Nat.succ e) (Bool.rec (.arr .lf es l z) (.byt 0 l) byte) fun f h => k (.slc f 0 l 0 es) h) (.no 91)) (.no 91)
/-! maps: keys are integers or strings -/
noncomputable def keyEqC (P : Program) (kt : Nat) : AV → AV → KB → Out :=
  match P.underlying kt with
  | some (.int _) => fun x y K => x.asInt fun k a => y.asInt fun k' b => bc (kEq k k') (ieq a b K) (.no 92)
  | some .string => fun x y K => x.asStr fun n l => y.asStr fun n' l' => strEq n l n' l' K
  | _ => fun _ _ _ => .no 92
def keyOk (P : Program) (kt : Nat) : Bool := match P.underlying kt with | some (.int _) | some .string => true | _ => false
noncomputable def findK (eq : AV → AV → KB → Out) (key : AV) (l : List (AV × AV)) (i : Nat) (k : Option (Nat × AV) → Out) : Out :=
  List.rec (motive := fun _ => (AV → AV → KB → Out) → AV → Nat → (Option (Nat × AV) → Out) → Out) (fun _ _ _ k => k none)
    (fun e _ ih eq key i k => Prod.rec (motive := fun _ => ((AV → AV → KB → Out) → AV → Nat → (Option (Nat × AV) → Out) → Out) → (AV → AV → KB → Out) → AV → Nat → (Option (Nat × AV) → Out) → Out)
       (fun a b ih eq key i k => eq key a fun r => Bool.rec (motive := fun _ => AV → ((AV → AV → KB → Out) → AV → Nat → (Option (Nat × AV) → Out) → Out) → (AV → AV → KB → Out) → AV → Nat → (Option (Nat × AV) → Out) → Out) (fun _ ih eq key i k => ih eq key (Nat.succ i) k) (fun b _ _ _ i k => k (some (i, b))) r b ih eq key i k) e ih eq key i k) l eq key i k
noncomputable def setEnt (l : List (AV × AV)) (n : Nat) (e : AV × AV) : List (AV × AV) :=
  List.rec (motive := fun _ => Nat → List (AV × AV)) (fun _ => []) (fun a l ih n => Nat.rec (motive := fun _ => List (AV × AV)) (e :: l) (fun m _ => a :: ih m) n) l n
noncomputable def mapK (h : Hp) (f : Pth) (k : List (AV × AV) → Out) : Out := famR h f 0 fun fam => fam.bodyK fun b => Body.rec (motive := fun _ => (List (AV × AV) → Out) → Out) (fun _ _ _ => .no 93) (fun _ _ _ _ _ => .no 93) (fun l k => k l) (fun _ _ _ _ => .no 93) (fun _ _ => .no 93) b k
noncomputable def itrK (h : Hp) (f : Pth) (k : Option Pth → Out) : Out := famR h f 0 fun fam => fam.bodyK fun b => Body.rec (motive := fun _ => (Option Pth → Out) → Out) (fun _ _ _ => .no 154) (fun _ _ _ _ _ => .no 154) (fun _ _ => .no 154) (fun _ _ _ _ => .no 154) (fun m k => k m) b k
noncomputable def mapW (h : Hp) (f : Pth) (k : List (AV × AV) → Out) : Out := famW h f 0 fun fam => fam.bodyK fun b => Body.rec (motive := fun _ => (List (AV × AV) → Out) → Out) (fun _ _ _ => .no 93) (fun _ _ _ _ _ => .no 93) (fun l k => k l) (fun _ _ _ _ => .no 93) (fun _ _ => .no 93) b k
noncomputable def lookupC (P : Program) (t : Nat) (ok : Bool) : AV → AV → Hp → (AV → Hp → Out) → Out :=
  match P.underlying t with
  | some (.map kt e) => match keyOk P kt, keyEqC P kt, zeroOf P e, ok with
    | false, _, _, _ => fun _ _ _ _ => .no 94
    | true, _, none, _ => fun _ _ _ _ => .no 94
    | true, eq, some z, ok => fun x key h k => x.asMp fun o => Option.rec (motive := fun _ => (List (AV × AV) → Out) → Out) (fun k => k []) (fun f k => mapK h f k) o fun l => findK eq key l 0 fun r => Option.rec (motive := fun _ => Out) (k (bc3 ok (.tup [z, .bool false]) z) h) (fun p => k (bc3 ok (.tup [p.2, .bool true]) p.2) h) r
  | _ => fun _ _ _ _ => .no 94
where bc3 (b : Bool) (t f : AV) : AV := Bool.rec f t b
noncomputable def updateC (P : Program) (t : Nat) : AV → AV → AV → Hp → (AV → Hp → Out) → Out :=
  match P.underlying t with
  | some (.map kt _) => match keyOk P kt, keyEqC P kt with
    | false, _ => fun _ _ _ _ _ => .no 94
    | true, eq => fun x key v h k => x.asMp fun o => Option.rec (motive := fun _ => Out) (.no 95) (fun f => mapW h f fun l => findK eq key l 0 fun r => k (.tup []) (putFam h f (some (.mk 0 0 big (.map (Option.rec (motive := fun _ => List (AV × AV)) (l ++ [(key, v)]) (fun p => setEnt l p.1 (key, v)) r)))))) o
  | _ => fun _ _ _ _ _ => .no 94

noncomputable def op3 (x y z : OpdF) (g : AV → AV → AV → Hp → (AV → Hp → Out) → Out) : OpF := OpdF.rec (motive := fun _ => OpF) (fun x => OpdF.rec (motive := fun _ => OpF) (fun y => OpdF.rec (motive := fun _ => OpF) (fun z => .mk fun _ env fr h k => x env fr fun u => y env fr fun v => z env fr fun w => g u v w h k) z) y) x
noncomputable def minmaxC (P : Program) (mx : Bool) (t : Nat) : AV → AV → (AV → Out) → Out :=
  match clsOf P t, mx with
  | .int, true => fun x y K => x.asInt fun k a => y.asInt fun k' b => bc (kEq k k') (ilt a b fun r => K (.int k (Bool.rec a b r))) (.no 96)
  | .int, false => fun x y K => x.asInt fun k a => y.asInt fun k' b => bc (kEq k k') (ilt b a fun r => K (.int k (Bool.rec a b r))) (.no 96)
  | _, _ => fun _ _ _ => .no 96

/-- unsafe.String: the family is not seen again -/
noncomputable def ustrK (e : Nat) (v : AV) (m : Int) (h : Hp) (k : AV → Hp → Out) : Out :=
  Int.rec (motive := fun _ => Out) (fun m => Nat.rec (motive := fun _ => Out) (k (.str 0 0) h) (fun _ _ => bc (Nat.ble m 9223372036854775807) (v.asPtr fun f o ep => bc (Nat.beq o 0) (famW h f ep fun fam => fam.elemK fun el => bc (Nat.beq el (Nat.succ e)) (fam.bodyK fun b => bytesK b m 0 fun c => k (.str c m) (putFam h f none)) (.no 145)) (.no 145)) (.no 145)) m) (fun _ => .no 144) m
noncomputable def callC (P : Program) (N : Nat) (c : Call) : OpF :=
  match c.callee with
  | .value x => OpdF.rec (motive := fun _ => OpF) (fun x => OpdsF.rec (motive := fun _ => OpF) (fun as => .mk fun call env fr h k => x env fr fun v => as env fr fun as => v.asFn fun f first cap => List.rec (motive := fun _ => Out) (call f as h k) (fun _ _ _ => call f (first ++ as ++ cap) h k) (first ++ cap)) (opdsC P N c.args.toList)) (opdC P N x)
  | .invoke _ _ => .no 97
  | .builtin b => match b, c.args.toList, c.argTypes.toList with
    | .len, [x], t :: _ => match P.underlying t with
        | some .string => op1 (opdC P N x) fun v h k => v.asStr fun _ n => k (.int .i64 (Int.ofNat n)) h
        | some (.slice _) => op1 (opdC P N x) fun v h k => v.lenS fun n => k (.int .i64 (Int.ofNat n)) h
        | some (.array n _) => op1 (opdC P N x) fun _ h k => k (.int .i64 (Int.ofNat n)) h
        | some (.map _ _) => op1 (opdC P N x) fun v h k => v.asMp fun o => Option.rec (motive := fun _ => (List (AV × AV) → Out) → Out) (fun k => k []) (fun f k => mapK h f k) o fun l => k (.int .i64 (Int.ofNat l.length)) h
        | _ => .no 98
    | .append, [s, x], t :: u :: _ => match elemT P t, P.underlying u with
        | some _, some (.int _) => .no 99
        | some e, some _ => op2 (opdC P N s) (opdC P N x) (appC P e)
        | _, _ => .no 99
    | .copy, [d, x], t :: _ => match elemT P t with
        | some e => op2 (opdC P N d) (opdC P N x) (copyC P e)
        | none => .no 99
    | .cap, [x], t :: _ => (match P.underlying t with
        | some (.slice _) => op1 (opdC P N x) fun v h k => v.nilSlc fun b => bc b (k (.int .i64 0) h) (.no 142)
        | _ => .no 98)
    | .unsafeSliceData, [x], _ => op1 (opdC P N x) fun v h k => v.nilSlc fun b => bc b (k .nul h) (v.asSlc fun f o l ep _ => bc (Nat.ble 1 l) (k (.ptr f o ep) h) (.no 141))
    | .unsafeString, [x, y], [t, _] => (match P.underlying t with
        | some (.pointer e) => (match isByte P e && Nat.beq (P.cellsOf e) 1 with
          | true => op2 (opdC P N x) (opdC P N y) fun v n h k => v.nilPtr fun _ => n.asInt fun kd m => bc (kEq kd .i64) (ustrK e v m h k) (.no 144)
          | false => .no 98)
        | _ => .no 98)
    | .max, [x, y], t :: _ => op2 (opdC P N x) (opdC P N y) fun a b h k => minmaxC P true t a b fun v => k v h
    | .min, [x, y], t :: _ => op2 (opdC P N x) (opdC P N y) fun a b h k => minmaxC P false t a b fun v => k v h
    | .max, [x, y, z], t :: _ => op3 (opdC P N x) (opdC P N y) (opdC P N z) fun a b c h k => minmaxC P true t a b fun v => minmaxC P true t v c fun v => k v h
    | .min, [x, y, z], t :: _ => op3 (opdC P N x) (opdC P N y) (opdC P N z) fun a b c h k => minmaxC P false t a b fun v => minmaxC P false t v c fun v => k v h
    | _, _, _ => .no 100

/-- an array of numbers: how many, of which kind -/
def arrInt (P : Program) (t : Nat) : Option (Nat × IntKind) := match P.underlying t with
  | some (.array n e) => (match P.underlying e with
    | some (.int kd) => (match Nat.beq (P.cellsOf e) 1 with | true => some (n, kd) | false => none)
    | _ => none)
  | _ => none
noncomputable def intsK (kd : IntKind) (l : List AV) (k : List Int → Out) : Out :=
  List.rec (motive := fun _ => (List Int → Out) → Out) (fun k => k []) (fun p _ ih k => p.asInt fun kd' n => bc (kEq kd' kd) (ih fun l => k (n :: l)) (.no 148)) l k
noncomputable def arrEqC (n : Nat) (kd : IntKind) (x y : AV) (K : AV → Out) : Out := x.asAgg fun a => y.asAgg fun b => bc (lenIs a n && lenIs b n) (intsK kd a fun as => intsK kd b fun bs => K (.bool (decide (as = bs)))) (.no 147)
def binArr (P : Program) (op : BinOp) (t : Nat) : Option (Nat × IntKind) := match op with | .eql => arrInt P t | _ => none
noncomputable def opC (P : Program) (N : Nat) (op : Op) : OpF :=
  match op with
  | .move x | .assign x => op1 (opdC P N x) fun v h k => k v h
  | .pick c a b => OpdF.rec (motive := fun _ => OpF) (fun c => OpdF.rec (motive := fun _ => OpF) (fun a => OpdF.rec (motive := fun _ => OpF) (fun b => .mk fun _ env fr h k => c env fr fun v => v.asBool fun t => bc t (a env fr fun v => k v h) (b env fr fun v => k v h)) (opdC P N b)) (opdC P N a)) (opdC P N c)
  | .alloc e => (match boxC P e, zeroOf P e with | g, some z => .mk fun _ _ _ h k => g z h k | _, none => .no 81)
  | .box e x => op1 (opdC P N x) (boxC P e)
  | .build t ps => OpdsF.rec (motive := fun _ => OpF) (fun xs => (match buildC P t (ps.toList.map (·.1)) with | g => .mk fun _ env fr h k => xs env fr fun vs => g vs fun v => k v h)) (opdsC P N (ps.toList.map (·.2)))
  | .buildSlice t len ps => OpdsF.rec (motive := fun _ => OpF) (fun xs => (match buildSliceC P t len (ps.toList.map (·.1)) with | g => .mk fun _ env fr h k => xs env fr fun vs => g vs h k)) (opdsC P N (ps.toList.map (·.2)))
  | .load t x => (match loadC P t, loadN P t with | g, n => op1 (opdC P N x) fun a h k => a.asPtr fun f o ep => famK h f ep o n fun fam => fam.bodyK fun b => g b o fun v => k v h)
  | .store t a x => op2 (opdC P N a) (opdC P N x) (storeC P t)
  | .nilCheck x => op1 (opdC P N x) fun v h k => v.notNil fun v => k v h
  | .binOp op t x y _ => (match binArr P op t with
      | some (n, kd) => op2 (opdC P N x) (opdC P N y) fun a b h k => arrEqC n kd a b fun v => k v h
      | none => BinF.rec (motive := fun _ => OpF) (fun g => op2 (opdC P N x) (opdC P N y) fun a b h k => g a b fun v => k v h) (binC P op t))
  | .unOp op _ x => (match unC op with | g => op1 (opdC P N x) fun v h k => g v fun v => k v h)
  | .convert s d x => op1 (opdC P N x) (convC P s d)
  | .makeInterface t x => (match P.underlying t with | some (.interface _) => .no 101 | some _ => op1 (opdC P N x) fun v h k => k (.ifc t v) h | none => .no 101)
  | .makeFunc (.func f) first cap => OpdsF.rec (motive := fun _ => OpF) (fun xs => OpdsF.rec (motive := fun _ => OpF) (fun ys => .mk fun _ env fr h k => xs env fr fun xs => ys env fr fun ys => k (.fn f xs ys) h) (opdsC P N cap.toList)) (opdsC P N first.toList)
  | .makeMap _ none => .mk fun _ _ _ h k => newFam h 0 (.map []) fun f h => k (.mp f) h
  | .makeMap t (some x) => (match P.underlying t with | some (.map _ _) => op1 (opdC P N x) fun v h k => v.asInt fun _ _ => newFam h 0 (.map []) fun f h => k (.mp f) h | _ => .no 119)
  | .makeSlice t l c => op2 (opdC P N l) (opdC P N c) (makeSliceC P t)
  | .slice t x lo hi mx => OpdF.rec (motive := fun _ => OpF) (fun x => OptF.rec (motive := fun _ => OpF) (fun lo => OptF.rec (motive := fun _ => OpF) (fun hi => OptF.rec (motive := fun _ => OpF) (fun mx => (match sliceC P t with | g => .mk fun _ env fr h k => x env fr fun x => lo env fr fun lo => hi env fr fun hi => mx env fr fun mx => g x lo hi mx h k)) (optC P N mx)) (optC P N hi)) (optC P N lo)) (opdC P N x)
  | .fieldAddr s x f => (match fieldT P s f with
      | some fd => (match P.cellsOf fd.type with | 0 => .no 102 | _ + 1 => (match fd.offset with | d => op1 (opdC P N x) fun a h k => a.asPtr fun f o ep => natK (Nat.add o d) fun o => k (.ptr f o ep) h))
      | none => .no 102)
  | .field s x f => (match fieldT P s f with
      | some fd => (match partC P fd.type fd.offset with | g => op1 (opdC P N x) fun v h k => v.asAgg fun l => g l fun v => k v h)
      | none => .no 102)
  | .indexAddr t x i => op2 (opdC P N x) (opdC P N i) (idxAddrC P t)
  | .index t x i => op2 (opdC P N x) (opdC P N i) (idxC P t)
  | .sliceToArrayPointer t x => (match P.underlying t with
      | some (.array n _) => op1 (opdC P N x) fun v h k => v.asSlc fun f o l ep _ => bc (Nat.blt 0 n && Nat.ble n l) (k (.ptr f o ep) h) (.no 146)
      | _ => .no 103)
  | .lookup t x i ok => op2 (opdC P N x) (opdC P N i) (lookupC P t ok)
  | .mapUpdate t m key x | .insert t m key x => OpdF.rec (motive := fun _ => OpF) (fun m => OpdF.rec (motive := fun _ => OpF) (fun key => OpdF.rec (motive := fun _ => OpF) (fun x => (match updateC P t with | g => .mk fun _ env fr h k => m env fr fun m => key env fr fun key => x env fr fun x => g m key x h k)) (opdC P N x)) (opdC P N key)) (opdC P N m)
  | .range t x => (match P.underlying t with
      | some (.map _ _) => op1 (opdC P N x) fun v h k => v.asMp fun o => Option.rec (motive := fun _ => Out) (newFam h 0 (.itr none) fun f h => k (.ptr f 0 0) h) (fun q => mapK h q fun _ => newFam h 0 (.itr (some q)) fun f h => k (.ptr f 0 0) h) o
      | _ => .no 103)
  | .next x s => (match s with
      | true => .no 103
      | false => op1 (opdC P N x) fun v h k => v.asPtr fun f o ep => bc (Nat.beq o 0) (bc (Nat.beq ep 0) (itrK h f fun m => Option.rec (motive := fun _ => Out) (k (.tup [.bool false]) h) (fun q => mapK h q fun l => List.rec (motive := fun _ => Out) (k (.tup [.bool false]) h) (fun _ _ _ => .no 152) l) m) (.no 153)) (.no 153))
  | .extract x i => op1 (opdC P N x) fun v h k => v.asTup fun l => nthK l i fun v => k v h
  | .call c => callC P N c
  | _ => .no 103

/-! ### Regions in the order of the text -/
inductive OpsF where | mk (f : Call_ → Env → Fr → Hp → (Fr → Hp → Out) → Out)
inductive PutF where | mk (f : AV → Env → Fr → (Env → Fr → Out) → Out)
noncomputable def putC (N T : Nat) (dst : Option Nat) : PutF :=
  match dst with
  | none => .mk fun _ env fr k => k env fr
  | some d => match Nat.blt d T, Nat.testBit N d with
    | false, _ => .mk fun _ _ _ _ => .no 104
    | true, true => SetF.rec (motive := fun _ => PutF) (fun g => .mk fun v env fr k => k env (g fr (some v))) (frSetC (Pth.ofNat d))
    | true, false => .mk fun v env fr k => k (.cons d v env) fr
/-- is an operation wanted? -/
inductive GdF where | mk (f : Env → Fr → Out → Out → Out)
noncomputable def wantK (v : AV) (want : Bool) (y n : Out) : Out :=
  AV.rec (motive_1 := fun _ => Bool → Out → Out → Out) (motive_2 := fun _ => PUnit) (fun _ _ n => n) (fun b want y n => Bool.rec (motive := fun _ => Bool → Out → Out → Out) (fun want y n => Bool.rec (motive := fun _ => Out → Out → Out) (fun y _ => y) (fun _ n => n) want y n) (fun want y n => Bool.rec (motive := fun _ => Out → Out → Out) (fun _ n => n) (fun y _ => y) want y n) b want y n)
    (fun _ _ _ _ n => n) (fun _ _ _ _ _ n => n) (fun _ _ n => n) (fun _ _ _ _ _ _ _ n => n) (fun _ _ n => n) (fun _ _ _ n => n) (fun _ _ n => n) (fun _ _ _ _ _ _ _ n => n) (fun _ _ n => n) (fun _ _ _ _ _ n => n) (fun _ _ n => n) (fun _ _ _ _ n => n) (fun _ _ _ _ n => n) (fun _ _ _ _ n => n) ⟨⟩ (fun _ _ _ _ => ⟨⟩) v want y n
noncomputable def guardC (P : Program) (N : Nat) (ops : Array Oper) (g : Option (Nat × Bool)) : Option GdF :=
  match g with
  | none => none
  | some (j, want) => match (ops[j]?).bind (·.dst) with
    | none => some (.mk fun _ _ _ n => n)
    | some d => OpdF.rec (motive := fun _ => Option GdF) (fun x => some (.mk fun env fr y n => x env fr fun v => wantK v want y n)) (opdC P N (.tmp d))
noncomputable def oneC (gd : Option GdF) (op : OpF) (put : PutF) (rest : OpsF) : OpsF :=
  OpF.rec (motive := fun _ => OpsF) (fun f => PutF.rec (motive := fun _ => OpsF) (fun p => OpsF.rec (motive := fun _ => OpsF) (fun g =>
    Option.rec (motive := fun _ => OpsF) (.mk fun call env fr h k => f call env fr h fun v h => p v env fr fun env fr => g call env fr h k)
      (fun gd => GdF.rec (motive := fun _ => OpsF) (fun gd => .mk fun call env fr h k => gd env fr (f call env fr h fun v h => p v env fr fun env fr => g call env fr h k) (p (.tup []) env fr fun env fr => g call env fr h k)) gd) gd) rest) put) op
noncomputable def opsC (P : Program) (N T : Nat) (all : Array Oper) (ops : List Oper) : OpsF :=
  List.rec (motive := fun _ => OpsF) (.mk fun _ _ fr h k => k fr h) (fun o _ ih => oneC (guardC P N all o.guard) (opC P N o.op) (putC N T o.dst) ih) ops

/-! ### Regions that draw their order -/
mutual
def AV.beq : AV → AV → Bool
  | .bool a, .bool b => a == b
  | .str n l, .str n' l' => n == n' && l == l'
  | .ptr f o e, .ptr f' o' e' => decide (f.toNat = f'.toNat) && o == o' && e == e'
  | .nul, .nul => true
  | .slc f o l e s, .slc f' o' l' e' s' => decide (f.toNat = f'.toNat) && o == o' && l == l' && e == e' && s == s'
  | .nsl, .nsl => true
  | .mp f, .mp f' => decide (f.toNat = f'.toNat)
  | .nmp, .nmp => true
  | .fn f a c, .fn f' a' c' => f == f' && AV.beqs a a' && AV.beqs c c'
  | .nfn, .nfn => true
  | .ifc t v, .ifc t' v' => t == t' && v.beq v'
  | .nif, .nif => true
  | .agg l, .agg l' => AV.beqs l l'
  | .tup l, .tup l' => AV.beqs l l'
  | .int k n, .int k' n' => decide (k = k') && n == n'
  | _, _ => false
def AV.beqs : List AV → List AV → Bool
  | [], [] => true
  | a :: l, b :: m => a.beq b && AV.beqs l m
  | _, _ => false
end
def clsCall (P : Program) (c : Call) : Nat := match c.callee with
  | .builtin .len => (match c.argTypes.toList with
    | t :: _ => match P.underlying t with | some (.map _ _) => 1 | _ => 0
    | _ => 3)
  | .builtin .min | .builtin .max => 0
  | _ => 3
/-- 0: looks at nothing · 1: reads · 2: makes a block, of its operands alone · 3: anything -/
def clsOp (P : Program) : Op → Nat
  | .move _ | .assign _ | .pick .. | .build .. | .nilCheck _ | .unOp .. | .makeInterface .. | .makeFunc .. | .fieldAddr .. | .field .. | .indexAddr .. | .index .. | .sliceToArrayPointer .. | .extract .. | .binOp .. => 0
  | .load .. | .lookup .. => 1
  | .slice t .. => match P.underlying t with | some (.array _ _) => 1 | _ => 0
  | .alloc _ | .box .. | .buildSlice .. | .makeMap .. | .makeSlice .. => 2
  | .convert s d _ => match P.underlying s, P.underlying d with
    | some .string, some (.slice _) => 2
    | some (.slice _), some .string => 1
    | some (.slice _), _ => 3
    | some (.pointer _), _ => 3
    | some .unsafePointer, _ => 3
    | _, _ => 0
  | .call c => clsCall P c
  | _ => 3
structure DI where
  i : Nat
  cls : Nat
  pre : Nat
  nm : Nat
  dst : Option Nat
  o : Oper
def getN (l : List Nat) (i : Nat) : Nat := (l[i]?).getD 0
/-- of each operation all that must come ahead of it -/
def preOf (acc : List Nat) (o : Oper) : Nat := o.after.toList.foldl (fun s e => match Region.binds .any e with | true => s ||| (2 ^ e.on ||| getN acc e.on) | false => s) 0
def presGo (ops : List Oper) (acc : List Nat) : List Nat := match ops with | [] => acc | o :: r => presGo r (acc ++ [preOf acc o])
def tmpsOf (all : Array Oper) (o : Oper) : List Nat :=
  (o.op.operands.toList.filterMap fun | .tmp t => some t | _ => none) ++ (match o.guard with | some (g, _) => ((all[g]?).bind (·.dst)).toList | none => [])
def maskOf (l : List Nat) : Nat := l.foldl (fun s t => s ||| 2 ^ t) 0
def infosGo (P : Program) (all : Array Oper) (i : Nat) : List Oper → List Nat → List DI
  | o :: r, p :: ps => ⟨i, clsOp P o.op, p, maskOf (tmpsOf all o ++ o.dst.toList), o.dst, o⟩ :: infosGo P all (i + 1) r ps
  | _, _ => []
def infos (P : Program) (ops : Array Oper) : List DI := infosGo P ops 0 ops.toList (presGo ops.toList [])
def sub (a b : Nat) : Bool := Nat.beq (a ||| b) b
def orderGo (l : List DI) : Nat → Nat → List DI → List DI
  | 0, _, acc => acc.reverse
  | n + 1, s, acc =>
    let m := l.find? fun d => Nat.beq d.cls 3 && !s.testBit d.i
    match l.find? fun d => Nat.ble d.cls 1 && !s.testBit d.i && sub d.pre s with
    | some d => orderGo l n (s ||| 2 ^ d.i) (d :: acc)
    | none => match (match m with | some d => bif sub d.pre s then some d else none | none => none) with
      | some d => orderGo l n (s ||| 2 ^ d.i) (d :: acc)
      | none => match l.find? fun d => Nat.beq d.cls 2 && !s.testBit d.i && sub d.pre s && (match m with | some c => c.pre.testBit d.i | none => true) with
        | some d => orderGo l n (s ||| 2 ^ d.i) (d :: acc)
        | none => acc.reverse
/-- two operations of which neither must come first -/
def apartOk (a b : DI) : Bool := (match a.dst with | some t => !b.nm.testBit t | none => true) && (match b.dst with | some t => !a.nm.testBit t | none => true)
/-- s: what is done · ms: the great ones of it · as: the makers of it -/
def okGo : List DI → Nat → Nat → Nat → List DI → Bool
  | [], _, _, _, _ => true
  | d :: r, s, ms, as, done =>
    !s.testBit d.i && sub d.pre s && (done.all fun c => d.pre.testBit c.i || apartOk c d) &&
    (match d.cls with | 0 => true | 1 => sub ms d.pre | 2 => true | _ => sub ms d.pre && sub as d.pre) &&
    okGo r (s ||| 2 ^ d.i) (bif Nat.ble 3 d.cls then ms ||| 2 ^ d.i else ms) (bif Nat.beq d.cls 2 then as ||| 2 ^ d.i else as) (d :: done)
inductive Pend where | nil | cons (i : Nat) (f : Hp → Out → Out) (r : Pend)
/-- what was read, read once more behind a great operation, but for what must come ahead of it -/
noncomputable def Pend.runK (p : Pend) (pre : Nat) (h : Hp) (k : Out) : Out :=
  Pend.rec (motive := fun _ => Nat → Hp → Out → Out) (fun _ _ k => k) (fun i f _ ih pre h k => Bool.rec (motive := fun _ => Out) (f h (ih pre h k)) (ih pre h k) (Nat.testBit pre i)) p pre h k
inductive DrF where | mk (f : Call_ → Env → Fr → Hp → Hp → Pend → (Fr → Hp → Out) → Out)
noncomputable def drC (cls i pre : Nat) (pend : Bool) (gd : Option GdF) (op : OpF) (put : PutF) (rest : DrF) : DrF :=
  OpF.rec (motive := fun _ => DrF) (fun f => PutF.rec (motive := fun _ => DrF) (fun p => DrF.rec (motive := fun _ => DrF) (fun g =>
    match cls, pend with
    | 0, _ | 1, false => Option.rec (motive := fun _ => DrF) (.mk fun call env fr b h q k => f call env fr b fun v _ => p v env fr fun env fr => g call env fr b h q k)
        (fun gd => GdF.rec (motive := fun _ => DrF) (fun gd => .mk fun call env fr b h q k => gd env fr (f call env fr b fun v _ => p v env fr fun env fr => g call env fr b h q k) (p (.tup []) env fr fun env fr => g call env fr b h q k)) gd) gd
    | 1, true => Option.rec (motive := fun _ => DrF) (.mk fun call env fr b h q k => f call env fr b fun v _ => p v env fr fun env' fr' => g call env' fr' b h (.cons i (fun h k => f call env fr h fun v' _ => bc (v.beq v') k (.no 105)) q) k)
        (fun gd => GdF.rec (motive := fun _ => DrF) (fun gd => .mk fun call env fr b h q k => gd env fr (f call env fr b fun v _ => p v env fr fun env' fr' => g call env' fr' b h (.cons i (fun h k => f call env fr h fun v' _ => bc (v.beq v') k (.no 105)) q) k) (p (.tup []) env fr fun env fr => g call env fr b h q k)) gd) gd
    | 2, _ => Option.rec (motive := fun _ => DrF) (.mk fun call env fr b h q k => f call env fr h fun v h => p v env fr fun env fr => g call env fr b h q k)
        (fun gd => GdF.rec (motive := fun _ => DrF) (fun gd => .mk fun call env fr b h q k => gd env fr (f call env fr h fun v h => p v env fr fun env fr => g call env fr b h q k) (p (.tup []) env fr fun env fr => g call env fr b h q k)) gd) gd
    | _, _ => Option.rec (motive := fun _ => DrF) (.mk fun call env fr _ h q k => f call env fr h fun v h => q.runK pre h (p v env fr fun env fr => g call env fr h h q k))
        (fun gd => GdF.rec (motive := fun _ => DrF) (fun gd => .mk fun call env fr b h q k => gd env fr (f call env fr h fun v h => q.runK pre h (p v env fr fun env fr => g call env fr h h q k)) (p (.tup []) env fr fun env fr => g call env fr b h q k)) gd) gd) rest) put) op
/-- is there a great operation in the rest that need not have i ahead of it? -/
def laterC (i : Nat) (r : List DI) : Bool := r.any fun d => Nat.ble 3 d.cls && !d.pre.testBit i
noncomputable def drsC (P : Program) (N T : Nat) (all : Array Oper) : List DI → DrF :=
  List.rec (motive := fun _ => DrF) (.mk fun _ _ fr _ h _ k => k fr h) (fun d r ih => drC d.cls d.i d.pre (laterC d.i r) (guardC P N all d.o.guard) (opC P N d.o.op) (putC N T d.dst) ih)
noncomputable def drawC (P : Program) (N T : Nat) (ops : Array Oper) : OpsF :=
  let l := orderGo (infos P ops) ops.size 0 []
  match okGo l 0 0 0 [] && Nat.beq (maskOf (l.map (·.i))) (Nat.sub (2 ^ ops.size) 1) with
  | true => DrF.rec (motive := fun _ => OpsF) (fun f => .mk fun call env fr h k => f call env fr h h .nil k) (drsC P N T ops l)
  | false => .mk fun _ _ _ _ _ => .no 106

/-! ### Code -/
abbrev KE := Ex → Fr → Hp → Out
inductive CodeF where | mk (f : Call_ → Nat → Fr → Hp → KE → Out)
noncomputable def exK (ex : Ex) (fr : Fr) (h : Hp) (a : Fr → Hp → Out) (k : KE) : Out :=
  Ex.rec (motive := fun _ => Fr → Hp → (Fr → Hp → Out) → KE → Out) (fun fr h a _ => a fr h) (fun i fr h _ k => k (.ext i) fr h) (fun fr h _ k => k .ret fr h) ex fr h a k
noncomputable def blkK (id : Nat) (ex : Ex) (fr : Fr) (h : Hp) (k : KE) : Out :=
  Ex.rec (motive := fun _ => Nat → Fr → Hp → KE → Out) (fun _ fr h k => k .nrm fr h) (fun i id fr h k => bc (Nat.beq i id) (k .nrm fr h) (k (.ext i) fr h)) (fun _ fr h k => k .ret fr h) ex id fr h k
noncomputable def loopK (n : Nat) (f : Fr → Hp → KE → Out) (fr : Fr) (h : Hp) (k : KE) : Out :=
  Nat.rec (motive := fun _ => (Fr → Hp → KE → Out) → Fr → Hp → KE → Out) (fun _ _ _ _ => .no 26)
    (fun _ ih f fr h k => f fr h fun ex fr h => exK ex fr h (fun fr h => ih f fr h k) k) n f fr h k
/-- the name of a call of what a range over a function hands to its function -/
def yid : Nat := 4611686018427387904
def bodyB (P : Program) (f : Nat) : Bool := !(Nat.beq f yid) && match P.funcs[f]? with
  | some fn => (match fn.body with | some _ => !(fn.name == "runtime.NumGoroutine") | none => false)
  | none => false
noncomputable def lopK (h : Hp) (q : Pth) (k : Nat → Ex → LopD → Out) : Out := famW h q 0 fun fam => fam.bodyK fun b => Body.rec (motive := fun _ => (Nat → Ex → LopD → Out) → Out) (fun _ _ _ => .no 130) (fun _ _ _ _ _ => .no 130) (fun _ _ => .no 130) (fun st p d k => k st p d) (fun _ _ => .no 130) b k
noncomputable def putLop (h : Hp) (q : Pth) (st : Nat) (p : Ex) (d : LopD) : Hp := putFam h q (some (.mk 0 0 big (.lop st p d)))
noncomputable def rangeC (P : Program) (N T : Nat) (ps : List Nat) (as bd : Code) : OpdF → CodeF :=
  OpdF.rec (motive := fun _ => CodeF) (fun x => .mk fun call _ fr h k => x .nil fr fun v => v.asFn fun f first cap => bc (bodyB P f) (newFam h 0 (.lop 0 .nrm ⟨N, T, ps, as, bd, fr⟩) fun q h => call f (first ++ [.fn yid [.bad, .mp q] []] ++ cap) h fun _ h => lopK h q fun st p d => bc (Nat.beq st 1) (.no 131) (k p fr (putLop h q 3 p d))) (.no 132))
/-- ro: within a round -/
noncomputable def codeC (P : Program) (ro : Bool) (N T : Nat) (c : Code) : CodeF :=
  Code.rec (motive := fun _ => CodeF)
    (.mk fun _ _ fr h k => k .nrm fr h)
    (fun _ ops dr => OpsF.rec (motive := fun _ => CodeF) (fun g => .mk fun call _ fr h k => g call .nil fr h (k .nrm)) (Bool.rec (motive := fun _ => OpsF) (opsC P N T ops ops.toList) (drawC P N T ops) dr))
    (fun _ _ a b => CodeF.rec (motive := fun _ => CodeF) (fun a => CodeF.rec (motive := fun _ => CodeF) (fun b => .mk fun call n fr h k => a call n fr h fun ex fr h => exK ex fr h (fun fr h => b call n fr h k) k) b) a)
    (fun c _ _ a b => OpdF.rec (motive := fun _ => CodeF) (fun c => CodeF.rec (motive := fun _ => CodeF) (fun a => CodeF.rec (motive := fun _ => CodeF) (fun b => .mk fun call n fr h k => c .nil fr fun v => v.asBool fun t => bc t (a call n fr h k) (b call n fr h k)) b) a) (opdC P N c))
    (fun id _ a => CodeF.rec (motive := fun _ => CodeF) (fun a => .mk fun call n fr h k => a call n fr h fun ex fr h => blkK id ex fr h k) a)
    (fun _ a => CodeF.rec (motive := fun _ => CodeF) (fun a => .mk fun call n fr h k => loopK n (a call n) fr h k) a)
    (fun g ps as bd _ _ => match ro with | true => .mk fun _ _ _ _ _ => .no 27 | false => rangeC P N T ps.toList as bd (opdC P N g))
    (fun i => .mk fun _ _ fr h k => k (.ext i) fr h)
    (fun _ _ => .mk fun _ _ _ _ _ => .no 27)
    (fun _ => .mk fun _ _ _ _ _ => .no 27)
    (fun _ => .mk fun _ _ _ _ _ => .no 27)
    (.mk fun _ _ fr h k => k .ret fr h)
    (fun _ => .mk fun _ _ _ _ _ => .no 27) c

/-! ### Functions -/
inductive ArgsF where | mk (f : List AV → Fr → (Fr → Out) → Out)
noncomputable def argsC (N : Nat) (i : Nat) : Nat → ArgsF
  | 0 => .mk fun l fr k => List.rec (motive := fun _ => Out) (k fr) (fun _ _ _ => .no 107) l
  | n + 1 => match argsC N (i + 1) n, Nat.testBit N i, frSetC (Pth.ofNat i) with
    | .mk g, true, .mk s => .mk fun l fr k => List.rec (motive := fun _ => Fr → (Fr → Out) → Out) (fun _ _ => .no 107) (fun a l _ fr k => g l (s fr (some a)) k) l fr k
    | .mk g, false, _ => .mk fun l fr k => List.rec (motive := fun _ => Fr → (Fr → Out) → Out) (fun _ _ => .no 107) (fun _ l _ fr k => g l fr k) l fr k
inductive ResF where | mk (f : Fr → Hp → (AV → Out) → Out)
noncomputable def resC (P : Program) (N : Nat) : ResultVar → ResF
  | .tmp t => OpdF.rec (motive := fun _ => ResF) (fun x => .mk fun fr _ k => x .nil fr k) (opdC P N (.tmp t))
  | .cell a t => (match loadC P t, loadN P t with | g, n => OpdF.rec (motive := fun _ => ResF) (fun x => .mk fun fr h k => x .nil fr fun a => a.asPtr fun f o ep => famK h f ep o n fun fam => fam.bodyK fun b => g b o k) (opdC P N (.tmp a)))
inductive RessF where | mk (f : Fr → Hp → (List AV → Out) → Out)
noncomputable def ressC (P : Program) (N : Nat) (l : List ResultVar) : RessF :=
  List.rec (motive := fun _ => RessF) (.mk fun _ _ k => k []) (fun r _ ih => ResF.rec (motive := fun _ => RessF) (fun r => RessF.rec (motive := fun _ => RessF) (fun g => .mk fun fr h k => r fr h fun v => g fr h fun l => k (v :: l)) ih) (resC P N r)) l
noncomputable def outOf (one : Bool) (l : List AV) (k : AV → Out) : Out := Bool.rec (motive := fun _ => List AV → (AV → Out) → Out) (fun l k => k (.tup l)) (fun l k => nthK l 0 k) one l k
/-! ### Functions without a body -/
noncomputable def findB (c : Nat) (l : Nat) (n : Nat) (i : Nat) (k : Int → Out) : Out :=
  Nat.rec (motive := fun _ => Nat → Nat → Nat → (Int → Out) → Out) (fun _ _ _ k => k (Int.negSucc 0))
    (fun _ ih c n i k => Bool.rec (motive := fun _ => (Nat → Nat → Nat → (Int → Out) → Out) → Nat → Nat → Nat → (Int → Out) → Out) (fun ih c n i k => natK (Nat.shiftRight n 8) fun n => ih c n (Nat.succ i) k) (fun _ _ _ i k => natK i fun i => k (Int.ofNat i)) (Nat.beq (Nat.mod n 256) c) ih c n i k) l c n i k
noncomputable def findS (m : Nat) (b : Nat) (l : Nat) (n : Nat) (i : Nat) (k : Int → Out) : Out :=
  Nat.rec (motive := fun _ => Nat → Nat → Nat → Nat → (Int → Out) → Out) (fun _ _ _ _ k => k (Int.negSucc 0))
    (fun _ ih m b n i k => Bool.rec (motive := fun _ => (Nat → Nat → Nat → Nat → (Int → Out) → Out) → Nat → Nat → Nat → Nat → (Int → Out) → Out) (fun ih m b n i k => natK (Nat.shiftRight n 8) fun n => ih m b n (Nat.succ i) k) (fun _ _ _ _ i k => natK i fun i => k (Int.ofNat i)) (Nat.beq (Nat.mod n (Nat.shiftLeft 1 (Nat.mul 8 m))) b) ih m b n i k) l m b n i k
inductive Xt where | idxByte | idx | noEsc | cmp | noZero | rvOf | rvLen | none
/-- a name out of its signs' numbers -/
def nmS (l : List Nat) : String := String.ofList (l.map Char.ofNat)
def xtOf (name : String) : Xt :=
  if name == nmS [105, 110, 116, 101, 114, 110, 97, 108, 47, 98, 121, 116, 101, 97, 108, 103, 46, 73, 110, 100, 101, 120, 66, 121, 116, 101, 83, 116, 114, 105, 110, 103] then .idxByte else
  if name == nmS [105, 110, 116, 101, 114, 110, 97, 108, 47, 98, 121, 116, 101, 97, 108, 103, 46, 73, 110, 100, 101, 120, 66, 121, 116, 101] then .idxByte else
  if name == nmS [105, 110, 116, 101, 114, 110, 97, 108, 47, 98, 121, 116, 101, 97, 108, 103, 46, 73, 110, 100, 101, 120, 83, 116, 114, 105, 110, 103] then .idx else
  if name == nmS [105, 110, 116, 101, 114, 110, 97, 108, 47, 98, 121, 116, 101, 97, 108, 103, 46, 73, 110, 100, 101, 120] then .idx else
  if name == nmS [105, 110, 116, 101, 114, 110, 97, 108, 47, 97, 98, 105, 46, 78, 111, 69, 115, 99, 97, 112, 101] then .noEsc else
  if name == nmS [105, 110, 116, 101, 114, 110, 97, 108, 47, 98, 121, 116, 101, 97, 108, 103, 46, 97, 98, 105, 103, 101, 110, 95, 114, 117, 110, 116, 105, 109, 101, 95, 99, 109, 112, 115, 116, 114, 105, 110, 103] then .cmp else
  if name == nmS [105, 110, 116, 101, 114, 110, 97, 108, 47, 98, 121, 116, 101, 97, 108, 103, 46, 77, 97, 107, 101, 78, 111, 90, 101, 114, 111] then .noZero else
  if name == nmS [105, 110, 116, 101, 114, 110, 97, 108, 47, 114, 101, 102, 108, 101, 99, 116, 108, 105, 116, 101, 46, 86, 97, 108, 117, 101, 79, 102] then .rvOf else
  if name == nmS [40, 105, 110, 116, 101, 114, 110, 97, 108, 47, 114, 101, 102, 108, 101, 99, 116, 108, 105, 116, 101, 46, 86, 97, 108, 117, 101, 41, 46, 76, 101, 110] then .rvLen else .none
def retElem (P : Program) (fn : Func) : Option Nat := match fn.resultTypes.toList with | [t] => elemT P t | _ => none
noncomputable def isSl (v : AV) : Bool := AV.rec (motive_1 := fun _ => Bool) (motive_2 := fun _ => PUnit) false (fun _ => false) (fun _ _ => false) (fun _ _ _ => false) false (fun _ _ _ _ _ => true) true (fun _ => false) false (fun _ _ _ _ _ => false) false (fun _ _ _ => false) false (fun _ _ => false) (fun _ _ => false) (fun _ _ => false) ⟨⟩ (fun _ _ _ _ => ⟨⟩) v
def isSlc (P : Program) (t : Nat) : Bool := match P.info? t with | some i => (match i.desc with | .slice _ => !P.packed t | _ => false) | _ => false
noncomputable def xtC (P : Program) (fn : Func) (x : Xt) : List AV → Hp → (AV → Hp → Out) → Out :=
  match x with
  | .idxByte => fun l h k => bc (lenIs l 2) (nthK l 0 fun s => nthK l 1 fun c => s.lenK fun m => c.asInt fun kd c => bc (kEq kd .u8) (Int.rec (motive := fun _ => Out) (fun c => bc (Nat.blt c 256) (srcBytes h s m fun n => findB c m n 0 fun i => k (.int .i64 i) h) (.no 112)) (fun _ => .no 112) c) (.no 112)) (.no 112)
  | .idx => (match P.globals.findIdx? (·.name == nmS [105, 110, 116, 101, 114, 110, 97, 108, 47, 98, 121, 116, 101, 97, 108, 103, 46, 77, 97, 120, 76, 101, 110]) with
    | none => fun _ _ _ => .no 112
    | some g => (match Pth.ofNat g with | g => fun l h k => bc (lenIs l 2) (nthK l 0 fun s => nthK l 1 fun b => s.lenK fun m => b.lenK fun j => srcBytes h s m fun n => srcBytes h b j fun b => bc (Nat.ble 2 j) (bc (Nat.ble m 1000000000) (famK h g 0 0 1 fun fam => fam.bodyK fun body => rdCell body 0 fun v => mxK v fun mx => bc (decide ((Int.ofNat j) ≤ mx)) (findS j b (Nat.sub (Nat.succ m) j) n 0 fun i => k (.int .i64 i) h) (.no 112)) (.no 112)) (.no 112)) (.no 112)))
  | .noEsc => fun l h k => bc (lenIs l 1) (nthK l 0 fun v => k v h) (.no 112)
  | .cmp => fun l h k => bc (lenIs l 2) (nthK l 0 fun a => nthK l 1 fun b => a.asStr fun n m => b.asStr fun n' m' => bc (strLt m' n m n') (k (.int .i64 (Int.negSucc 0)) h) (bc (strLt m n' m' n) (k (.int .i64 1) h) (k (.int .i64 0) h))) (.no 112)
  | .noZero => (match retElem P fn with
    | none => fun _ _ _ => .no 121
    | some e => fun l h k => bc (lenIs l 1) (nthK l 0 fun v => v.asInt fun kd n => bc (kEq kd .i64) (Int.rec (motive := fun _ => Out) (fun n => bc (Nat.ble n 1000000000) (newFam h (Nat.succ e) (.byt 0 0) fun f h => k (.slc f 0 n 0 1) h) (.no 121)) (fun _ => .no 121) n) (.no 121)) (.no 121))
  | .rvOf => (match Pth.ofNat P.globals.size with | g => fun l h k => bc (lenIs l 1) (nthK l 0 fun v => v.asIfc fun t v => bc (isSlc P t) (bc (isSl v) (newFam h (Nat.succ t) (.arr (.nd .lf (some [v]) .lf) 1 1 [.bad]) fun f h => k (.agg [.ptr g t 0, .ptr f 0 0, .int .u64 151]) h) (.no 122)) (.no 122)) (.no 122))
  | .rvLen => (match Pth.ofNat P.globals.size with | g => fun l h k => bc (lenIs l 1) (nthK l 0 fun v => v.asAgg fun l => bc (lenIs l 3) (nthK l 0 fun a => nthK l 1 fun b => nthK l 2 fun c => a.asPtr fun q t ep0 => bc (Bool.rec false (Nat.beq ep0 0) (Pth.beq q g)) (bc (isSlc P t) (b.asPtr fun f o ep => c.asInt fun kd n => bc (kEq kd .u64) (bc (decide (n = 151)) (famK h f ep o 1 fun fam => fam.bodyK fun body => rdCell body o fun v => v.lenS fun n => k (.int .i64 (Int.ofNat n)) h) (.no 123)) (.no 123)) (.no 123)) (.no 123)) (.no 123)) (.no 123))
  | .none => fun _ _ _ => .no 113
inductive FnF where | mk (f : Call_ → Nat → List AV → Hp → (AV → Hp → Out) → Out)
/-- a round's parameters -/
noncomputable def parK (N T : Nat) (ps : List Nat) (as : List AV) (fr : Fr) (k : Fr → Out) : Out :=
  List.rec (motive := fun _ => Nat → Nat → List AV → Fr → (Fr → Out) → Out) (fun _ _ as fr k => List.rec (motive := fun _ => Out) (k fr) (fun _ _ _ => .no 134) as)
    (fun t _ ih N T as fr k => List.rec (motive := fun _ => Out) (.no 134) (fun a as _ => bc (Nat.blt t T) (Bool.rec (motive := fun _ => Out) (ih N T as fr k) (ih N T as (frSet fr (Pth.ofNat t) (some a)) k) (Nat.testBit N t)) (.no 134)) as) ps N T as fr k
noncomputable def Ex.isNrm (ex : Ex) : Bool := Ex.rec (motive := fun _ => Bool) true (fun _ => false) false ex
noncomputable def Ex.st (ex : Ex) : Nat := Ex.rec (motive := fun _ => Nat) 0 (fun _ => 2) 2 ex
noncomputable def nrmK (ex : Ex) (k : Out) : Out := Ex.rec (motive := fun _ => Out → Out) (fun k => k) (fun _ _ => .no 136) (fun _ => .no 136) ex k
noncomputable def roundC (P : Program) (call : Call_) (n : Nat) (l : List AV) (h : Hp) (k : AV → Hp → Out) : Out :=
  nthK l 0 fun b => bc (isBad b) (nthK l 1 fun m => m.asMp fun o => Option.rec (motive := fun _ => Out) (.no 135) (fun q => dropL l 2 fun args => lopK h q fun st _ d => bc (Nat.beq st 0)
    (LopD.rec (motive := fun _ => Out) (fun N T ps as bd fr => parK N T ps args fr fun fr => CodeF.rec (motive := fun _ => Out) (fun f => CodeF.rec (motive := fun _ => Out)
      (fun g => f call n fr h fun ex fr h => nrmK ex (lopK h q fun st p d => bc (Nat.beq st 0) (g call n fr (putLop h q 1 p d) fun ex _ h => lopK h q fun _ _ d => k (.bool ex.isNrm) (putLop h q ex.st ex d)) (.no 137)))
      (codeC P true N T bd)) (codeC P true N T as)) d) (.no 137)) o) (.no 135)
/-- nm: of each function the slots that are kept from region to region -/
noncomputable def fnC (P : Program) (nm : Nat → Nat) (f : Nat) : FnF :=
  match Nat.beq f yid with
  | true => .mk (roundC P)
  | false =>
  match P.funcs[f]? with
  | none => .mk fun _ _ _ _ _ => .no 108
  | some fn => match fn.body with
    | none => match xtOf fn.name, (Extern.findNext fn).isNone with
      | .none, _ => .mk fun _ _ _ _ _ => .no (1000 + f)
      | x, true => match xtC P fn x with | g => .mk fun _ _ l h k => g l h k
      | _, false => .mk fun _ _ _ _ _ => .no 115
    | some c => match bif fn.name == "runtime.NumGoroutine" || !Nat.ble (fn.params.size + fn.nfree) fn.ntmps then none else some (nm f) with
      | none => .mk fun _ _ _ _ _ => .no 109
      | some N => match argsC N 0 (fn.params.size + fn.nfree), codeC P false N fn.ntmps c, ressC P N fn.results.toList, Nat.beq fn.results.size 1 with
        | .mk as, .mk g, .mk rs, one => .mk fun call n l h k => as l .lf fun fr => g call n fr h fun ex fr h => Ex.rec (motive := fun _ => Fr → Hp → (AV → Hp → Out) → Out) (fun fr h k => rs fr h fun l => outOf one l fun v => k v h) (fun _ _ _ _ => .no 110) (fun fr h k => rs fr h fun l => outOf one l fun v => k v h) ex fr h k
/-- d: how deep the calls may go · n: how often a loop may go round -/
noncomputable def call (P : Program) (nm : Nat → Nat) (n : Nat) (d : Nat) : Call_ :=
  Nat.rec (motive := fun _ => Call_) (fun _ _ _ _ => .no 111) (fun _ ih f l h k => FnF.rec (motive := fun _ => Out) (fun g => g ih n l h k) (fnC P nm f)) d
end Go.Am

namespace Go.Am
open Go

/-! ### Paths and trees -/
theorem Pth.toNat_succ (p : Pth) : p.succ.toNat = p.toNat + 1 := by
  induction p with
  | e => rfl
  | l p _ => show 2 * p.toNat + 2 = 2 * p.toNat + 1 + 1; omega
  | r p ih => show 2 * p.succ.toNat + 1 = 2 * p.toNat + 2 + 1; omega
theorem Pth.toNat_inj : ∀ {p q : Pth}, p.toNat = q.toNat → p = q := by
  intro p
  induction p with
  | e => intro q h; cases q <;> simp [Pth.toNat] at h ⊢
  | l p ih => intro q h; cases q <;> simp [Pth.toNat] at h ⊢; exact ih (by omega); omega
  | r p ih => intro q h; cases q <;> simp [Pth.toNat] at h ⊢; omega; exact ih (by omega)
instance : DecidableEq Pth := fun p q => if h : p.toNat = q.toNat then isTrue (Pth.toNat_inj h) else isFalse fun e => h (congrArg _ e)
theorem ofNatF_step (d m : Nat) : Pth.ofNatF (d + 1) (m + 1) = (if m % 2 = 0 then .l (Pth.ofNatF d (m / 2)) else .r (Pth.ofNatF d (m / 2))) := by
  have e1 : Nat.land m 1 = m % 2 := Nat.and_one_is_mod m
  have e2 : Nat.shiftRight m 1 = m / 2 := Nat.shiftRight_eq_div_pow m 1
  show Nat.rec (motive := fun _ => Nat → (Nat → Pth) → Pth) (fun m ih => Pth.l (ih (Nat.shiftRight m 1))) (fun _ _ m ih => .r (ih (Nat.shiftRight m 1))) (Nat.land m 1) m (Pth.ofNatF d) = _
  rw [e1]
  rcases Nat.mod_two_eq_zero_or_one m with h | h
  · rw [h]; show Pth.l (Pth.ofNatF d (Nat.shiftRight m 1)) = _; rw [e2]; rfl
  · rw [h]; show Pth.r (Pth.ofNatF d (Nat.shiftRight m 1)) = _; rw [e2]; rfl
theorem toNat_ofNatF : ∀ (d n : Nat), n ≤ d → (Pth.ofNatF d n).toNat = n := by
  intro d
  induction d with
  | zero => intro n h; have : n = 0 := by omega
            subst this; rfl
  | succ d ih =>
    intro n h
    cases n with
    | zero => rfl
    | succ m =>
      rw [ofNatF_step]
      split
      · simp only [Pth.toNat]; rw [ih _ (by omega)]; omega
      · simp only [Pth.toNat]; rw [ih _ (by omega)]; omega
@[simp] theorem toNat_ofNat (n : Nat) : (Pth.ofNat n).toNat = n := toNat_ofNatF n n (Nat.le_refl _)
theorem ofNat_inj {a b : Nat} (h : Pth.ofNat a = Pth.ofNat b) : a = b := by
  have := congrArg Pth.toNat h; simpa using this

def PT.upd {α : Type} : PT α → Pth → Option α → PT α
  | .lf, .e, x => .nd .lf x .lf
  | .nd l _ r, .e, x => .nd l x r
  | .lf, .l p, x => .nd (PT.upd .lf p x) none .lf
  | .nd l v r, .l p, x => .nd (l.upd p x) v r
  | .lf, .r p, x => .nd .lf none (PT.upd .lf p x)
  | .nd l v r, .r p, x => .nd l v (r.upd p x)
theorem look_lf {α : Type} (p : Pth) : (PT.lf : PT α).look p = none := by cases p <;> rfl
theorem look_upd {α : Type} : ∀ (p : Pth) (t : PT α) (x : Option α) (q : Pth), (t.upd p x).look q = if q = p then x else t.look q := by
  intro p
  induction p with
  | e => intro t x q; cases t <;> cases q <;> simp [PT.upd, PT.look]
  | l p ih => intro t x q; cases t <;> cases q <;> simp [PT.upd, PT.look, ih]
  | r p ih => intro t x q; cases t <;> cases q <;> simp [PT.upd, PT.look, ih]
theorem frSet_eq : ∀ (p : Pth) (t : PT AV) (x : Option AV), frSet t p x = t.upd p x := by
  intro p
  induction p with
  | e => intro t x; cases t <;> rfl
  | l p ih => intro t x; cases t with
    | lf => show PT.nd (frSet .lf p x) none .lf = _; rw [ih]; rfl
    | nd l v r => show PT.nd (frSet l p x) v r = _; rw [ih]; rfl
  | r p ih => intro t x; cases t with
    | lf => show PT.nd .lf none (frSet .lf p x) = _; rw [ih]; rfl
    | nd l v r => show PT.nd l v (frSet r p x) = _; rw [ih]; rfl
theorem hpSet_eq : ∀ (p : Pth) (t : PT Fam) (x : Option Fam), hpSet t p x = t.upd p x := by
  intro p
  induction p with
  | e => intro t x; cases t <;> rfl
  | l p ih => intro t x; cases t with
    | lf => show PT.nd (hpSet .lf p x) none .lf = _; rw [ih]; rfl
    | nd l v r => show PT.nd (hpSet l p x) v r = _; rw [ih]; rfl
  | r p ih => intro t x; cases t with
    | lf => show PT.nd .lf none (hpSet .lf p x) = _; rw [ih]; rfl
    | nd l v r => show PT.nd l v (hpSet r p x) = _; rw [ih]; rfl
theorem rwSet_eq : ∀ (p : Pth) (t : PT (List AV)) (x : Option (List AV)), rwSet t p x = t.upd p x := by
  intro p
  induction p with
  | e => intro t x; cases t <;> rfl
  | l p ih => intro t x; cases t with
    | lf => show PT.nd (rwSet .lf p x) none .lf = _; rw [ih]; rfl
    | nd l v r => show PT.nd (rwSet l p x) v r = _; rw [ih]; rfl
  | r p ih => intro t x; cases t with
    | lf => show PT.nd .lf none (rwSet .lf p x) = _; rw [ih]; rfl
    | nd l v r => show PT.nd l v (rwSet r p x) = _; rw [ih]; rfl
theorem hpGet_eq : ∀ (p : Pth) (t : PT Fam) (d : Out) (k : Fam → Out), hpGet t p d k = match t.look p with | some x => k x | none => d := by
  intro p
  induction p with
  | e => intro t d k; cases t with
    | lf => rfl
    | nd l v r => cases v <;> rfl
  | l p ih => intro t d k; cases t with
    | lf => rfl
    | nd l v r => exact ih l d k
  | r p ih => intro t d k; cases t with
    | lf => rfl
    | nd l v r => exact ih r d k
theorem rwGet_eq : ∀ (p : Pth) (t : PT (List AV)) (d : Out) (k : List AV → Out), rwGet t p d k = match t.look p with | some x => k x | none => d := by
  intro p
  induction p with
  | e => intro t d k; cases t with
    | lf => rfl
    | nd l v r => cases v <;> rfl
  | l p ih => intro t d k; cases t with
    | lf => rfl
    | nd l v r => exact ih l d k
  | r p ih => intro t d k; cases t with
    | lf => rfl
    | nd l v r => exact ih r d k
/-- what a made reader of a slot does -/
theorem frGetC_eq : ∀ (p : Pth) (f : Fr → (AV → Out) → Out), frGetC p = .mk f → ∀ t k, f t k = match t.look p with | some x => k x | none => .no 1 := by
  intro p
  induction p with
  | e => intro f hf t k; cases hf; cases t with
    | lf => rfl
    | nd l v r => cases v <;> rfl
  | l p ih =>
    intro f hf t k
    cases hg : frGetC p with
    | mk g =>
      have h0 : frGetC (.l p) = GetF.rec (motive := fun _ => GetF) (fun g => .mk fun t k => PT.rec (motive := fun _ => (AV → Out) → Out) (fun _ => .no 1) (fun l _ _ _ _ k => g l k) t k) (frGetC p) := rfl
      rw [hg] at h0
      have : frGetC (.l p) = .mk fun t k => PT.rec (motive := fun _ => (AV → Out) → Out) (fun _ => .no 1) (fun l _ _ _ _ k => g l k) t k := h0
      rw [this] at hf; cases hf
      cases t with
      | lf => rfl
      | nd l v r => exact ih g hg l k
  | r p ih =>
    intro f hf t k
    cases hg : frGetC p with
    | mk g =>
      have h0 : frGetC (.r p) = GetF.rec (motive := fun _ => GetF) (fun g => .mk fun t k => PT.rec (motive := fun _ => (AV → Out) → Out) (fun _ => .no 1) (fun _ _ r _ _ k => g r k) t k) (frGetC p) := rfl
      rw [hg] at h0
      have : frGetC (.r p) = .mk fun t k => PT.rec (motive := fun _ => (AV → Out) → Out) (fun _ => .no 1) (fun _ _ r _ _ k => g r k) t k := h0
      rw [this] at hf; cases hf
      cases t with
      | lf => rfl
      | nd l v r => exact ih g hg r k
theorem frSetC_eq : ∀ (p : Pth) (f : Fr → Option AV → Fr), frSetC p = .mk f → ∀ t x, f t x = t.upd p x := by
  intro p
  induction p with
  | e => intro f hf t x; cases hf; cases t <;> rfl
  | l p ih =>
    intro f hf t x
    cases hg : frSetC p with
    | mk g =>
      have h0 : frSetC (.l p) = SetF.rec (motive := fun _ => SetF) (fun g => .mk fun t x => PT.rec (motive := fun _ => Option AV → Fr) (fun x => .nd (g .lf x) none .lf) (fun l v r _ _ x => .nd (g l x) v r) t x) (frSetC p) := rfl
      rw [hg] at h0
      have : frSetC (.l p) = .mk fun t x => PT.rec (motive := fun _ => Option AV → Fr) (fun x => .nd (g .lf x) none .lf) (fun l v r _ _ x => .nd (g l x) v r) t x := h0
      rw [this] at hf; cases hf
      cases t with
      | lf => show PT.nd (g .lf x) none .lf = _; rw [ih g hg]; rfl
      | nd l v r => show PT.nd (g l x) v r = _; rw [ih g hg]; rfl
  | r p ih =>
    intro f hf t x
    cases hg : frSetC p with
    | mk g =>
      have h0 : frSetC (.r p) = SetF.rec (motive := fun _ => SetF) (fun g => .mk fun t x => PT.rec (motive := fun _ => Option AV → Fr) (fun x => .nd .lf none (g .lf x)) (fun l v r _ _ x => .nd l v (g r x)) t x) (frSetC p) := rfl
      rw [hg] at h0
      have : frSetC (.r p) = .mk fun t x => PT.rec (motive := fun _ => Option AV → Fr) (fun x => .nd .lf none (g .lf x)) (fun l v r _ _ x => .nd l v (g r x)) t x := h0
      rw [this] at hf; cases hf
      cases t with
      | lf => show PT.nd .lf none (g .lf x) = _; rw [ih g hg]; rfl
      | nd l v r => show PT.nd l v (g r x) = _; rw [ih g hg]; rfl

/-! ### Eliminators -/
@[simp] theorem natK_eq (n : Nat) (k : Nat → Out) : natK n k = k n := by cases n <;> rfl
theorem bc_eq (b : Bool) (t f : Out) : bc b t f = if b = true then t else f := by cases b <;> rfl
theorem bc_ok {b : Bool} {t : Out} {w : Nat} {r : AV} {h : Hp} (e : bc b t (.no w) = .ok r h) : b = true ∧ t = .ok r h := by
  cases b
  · cases e
  · exact ⟨rfl, e⟩
theorem asInt_ok {v : AV} {k : IntKind → Int → Out} {r : AV} {h : Hp} (e : v.asInt k = .ok r h) : ∃ kd n, v = .int kd n ∧ k kd n = .ok r h := by
  cases v <;> first | exact ⟨_, _, rfl, e⟩ | cases e
theorem asIfc_ok {v : AV} {k : Nat → AV → Out} {r : AV} {h : Hp} (e : v.asIfc k = .ok r h) : ∃ t x, v = .ifc t x ∧ k t x = .ok r h := by
  cases v <;> first | exact ⟨_, _, rfl, e⟩ | cases e
theorem Pth.beq_ok : ∀ {p q : Pth}, Pth.beq p q = true → p = q := by
  intro p
  induction p with
  | e => intro q h; cases q <;> first | rfl | cases h
  | l p ih => intro q h; cases q <;> first | (have := ih h; rw [this]) | cases h
  | r p ih => intro q h; cases q <;> first | (have := ih h; rw [this]) | cases h
theorem asBool_ok {v : AV} {k : Bool → Out} {r : AV} {h : Hp} (e : v.asBool k = .ok r h) : ∃ b, v = .bool b ∧ k b = .ok r h := by
  cases v <;> first | exact ⟨_, rfl, e⟩ | cases e
theorem asPtr_ok {v : AV} {k : Pth → Nat → Nat → Out} {r : AV} {h : Hp} (e : v.asPtr k = .ok r h) : ∃ f o p, v = .ptr f o p ∧ k f o p = .ok r h := by
  cases v <;> first | exact ⟨_, _, _, rfl, e⟩ | cases e
theorem asSlc_ok {v : AV} {k : Pth → Nat → Nat → Nat → Nat → Out} {r : AV} {h : Hp} (e : v.asSlc k = .ok r h) : ∃ f o l p s, v = .slc f o l p s ∧ k f o l p s = .ok r h := by
  cases v <;> first | exact ⟨_, _, _, _, _, rfl, e⟩ | cases e
theorem asStr_ok {v : AV} {k : Nat → Nat → Out} {r : AV} {h : Hp} (e : v.asStr k = .ok r h) : ∃ n l, v = .str n l ∧ k n l = .ok r h := by
  cases v <;> first | exact ⟨_, _, rfl, e⟩ | cases e
theorem asAgg_ok {v : AV} {k : List AV → Out} {r : AV} {h : Hp} (e : v.asAgg k = .ok r h) : ∃ l, v = .agg l ∧ k l = .ok r h := by
  cases v <;> first | exact ⟨_, rfl, e⟩ | cases e
theorem asTup_ok {v : AV} {k : List AV → Out} {r : AV} {h : Hp} (e : v.asTup k = .ok r h) : ∃ l, v = .tup l ∧ k l = .ok r h := by
  cases v <;> first | exact ⟨_, rfl, e⟩ | cases e
theorem asFn_ok {v : AV} {k : Nat → List AV → List AV → Out} {r : AV} {h : Hp} (e : v.asFn k = .ok r h) : ∃ f a c, v = .fn f a c ∧ k f a c = .ok r h := by
  cases v <;> first | exact ⟨_, _, _, rfl, e⟩ | cases e
theorem asMp_ok {v : AV} {k : Option Pth → Out} {r : AV} {h : Hp} (e : v.asMp k = .ok r h) : (∃ f, v = .mp f ∧ k (some f) = .ok r h) ∨ (v = .nmp ∧ k none = .ok r h) := by
  cases v <;> first | exact .inl ⟨_, rfl, e⟩ | exact .inr ⟨rfl, e⟩ | cases e
theorem lenK_ok {v : AV} {k : Nat → Out} {r : AV} {h : Hp} (e : v.lenK k = .ok r h) : (∃ n l, v = .str n l ∧ k l = .ok r h) ∨ (∃ f o l p s, v = .slc f o l p s ∧ k l = .ok r h) ∨ (v = .nsl ∧ k 0 = .ok r h) := by
  cases v <;> first | exact .inl ⟨_, _, rfl, e⟩ | exact .inr (.inl ⟨_, _, _, _, _, rfl, e⟩) | exact .inr (.inr ⟨rfl, e⟩) | cases e
theorem lenS_ok {v : AV} {k : Nat → Out} {r : AV} {h : Hp} (e : v.lenS k = .ok r h) : (∃ f o l p s, v = .slc f o l p s ∧ k l = .ok r h) ∨ (v = .nsl ∧ k 0 = .ok r h) := by
  cases v <;> first | exact .inl ⟨_, _, _, _, _, rfl, e⟩ | exact .inr ⟨rfl, e⟩ | cases e
theorem notNil_ok {v : AV} {k : AV → Out} {r : AV} {h : Hp} (e : v.notNil k = .ok r h) : k v = .ok r h ∧ ((∃ f o p, v = .ptr f o p) ∨ (∃ f a c, v = .fn f a c) ∨ ∃ t x, v = .ifc t x) := by
  cases v <;> first | exact ⟨e, .inl ⟨_, _, _, rfl⟩⟩ | exact ⟨e, .inr (.inl ⟨_, _, _, rfl⟩)⟩ | exact ⟨e, .inr (.inr ⟨_, _, rfl⟩)⟩ | cases e
theorem nilPtr_ok {v : AV} {k : Bool → Out} {r : AV} {h : Hp} (e : v.nilPtr k = .ok r h) : (v = .nul ∧ k true = .ok r h) ∨ (∃ f o p, v = .ptr f o p) ∧ k false = .ok r h := by
  cases v <;> first | exact .inl ⟨rfl, e⟩ | exact .inr ⟨⟨_, _, _, rfl⟩, e⟩ | cases e
theorem nilSlc_ok {v : AV} {k : Bool → Out} {r : AV} {h : Hp} (e : v.nilSlc k = .ok r h) : (v = .nsl ∧ k true = .ok r h) ∨ (∃ f o l p s, v = .slc f o l p s) ∧ k false = .ok r h := by
  cases v <;> first | exact .inl ⟨rfl, e⟩ | exact .inr ⟨⟨_, _, _, _, _, rfl⟩, e⟩ | cases e
theorem nilMp_ok {v : AV} {k : Bool → Out} {r : AV} {h : Hp} (e : v.nilMp k = .ok r h) : (v = .nmp ∧ k true = .ok r h) ∨ (∃ f, v = .mp f) ∧ k false = .ok r h := by
  cases v <;> first | exact .inl ⟨rfl, e⟩ | exact .inr ⟨⟨_, rfl⟩, e⟩ | cases e
theorem nilFn_ok {v : AV} {k : Bool → Out} {r : AV} {h : Hp} (e : v.nilFn k = .ok r h) : (v = .nfn ∧ k true = .ok r h) ∨ (∃ f a c, v = .fn f a c) ∧ k false = .ok r h := by
  cases v <;> first | exact .inl ⟨rfl, e⟩ | exact .inr ⟨⟨_, _, _, rfl⟩, e⟩ | cases e
theorem nthK_ok {k : AV → Out} {r : AV} {h : Hp} : ∀ {l : List AV} {n : Nat}, nthK l n k = .ok r h → ∃ v, l[n]? = some v ∧ k v = .ok r h := by
  intro l
  induction l with
  | nil => intro n e; cases e
  | cons a l ih =>
    intro n e
    cases n with
    | zero => exact ⟨a, rfl, e⟩
    | succ n => obtain ⟨v, h1, h2⟩ := ih (n := n) e; exact ⟨v, by simpa using h1, h2⟩
theorem setNth_eq : ∀ (l : List AV) (n : Nat) (v : AV), setNth l n v = l.set n v := by
  intro l
  induction l with
  | nil => intro n v; rfl
  | cons a l ih => intro n v; cases n with
    | zero => rfl
    | succ n => show a :: setNth l n v = _; rw [ih]; rfl
theorem lenIs_eq : ∀ (l : List AV) (n : Nat), lenIs l n = true → l.length = n := by
  intro l
  induction l with
  | nil => intro n e; have : n = 0 := by simpa [lenIs] using e
           simp [this]
  | cons a l ih => intro n e; cases n with
    | zero => cases e
    | succ n => have := ih n e; simp [this]
def Env.look : Env → Nat → Option AV
  | .nil, _ => none
  | .cons d v e, t => if d = t then some v else e.look t
theorem envGet_ok {k : AV → Out} {r : AV} {h : Hp} {t : Nat} : ∀ {e : Env}, e.getK t k = .ok r h → ∃ v, e.look t = some v ∧ k v = .ok r h := by
  intro e
  induction e with
  | nil => intro e; cases e
  | cons d v e ih =>
    intro he
    have he' : (Bool.rec (motive := fun _ => AV → (Nat → (AV → Out) → Out) → Nat → (AV → Out) → Out) (fun _ ih t k => ih t k) (fun v _ _ k => k v) (Nat.beq d t) v (fun t k => e.getK t k) t k) = .ok r h := he
    by_cases hd : d = t
    · subst hd
      rw [show Nat.beq d d = true from Nat.beq_refl d] at he'
      exact ⟨v, by simp [Env.look], he'⟩
    · have : Nat.beq d t = false := by
        cases hb : Nat.beq d t
        · rfl
        · exact absurd (Nat.eq_of_beq_eq_true hb) hd
      rw [this] at he'
      obtain ⟨u, h1, h2⟩ := ih he'
      exact ⟨u, by simp [Env.look, hd, h1], h2⟩
end Go.Am

namespace Go.Am
open Go

/-! ### Strings as numbers -/
theorem leNat_cons (b : UInt8) (l : List UInt8) : leNat (b :: l) = b.toNat + 256 * leNat l := rfl
theorem leNat_lt : ∀ l : List UInt8, leNat l < 256 ^ l.length := by
  intro l
  induction l with
  | nil => simp [leNat]
  | cons b l ih =>
    rw [leNat_cons, List.length_cons, Nat.pow_succ]
    have := b.toNat_lt
    omega
theorem pow256 (l : Nat) : 256 ^ l = 2 ^ (8 * l) := by rw [show (256 : Nat) = 2 ^ 8 from rfl, ← Nat.pow_mul]
theorem leNat_append : ∀ a b : List UInt8, leNat (a ++ b) = leNat a + leNat b * 256 ^ a.length := by
  intro a
  induction a with
  | nil => intro b; simp [leNat]
  | cons x a ih =>
    intro b
    rw [List.cons_append, leNat_cons, leNat_cons, ih, List.length_cons, Nat.pow_succ]
    rw [Nat.mul_add, ← Nat.add_assoc, Nat.mul_comm 256 (leNat b * _), Nat.mul_assoc (leNat b)]
theorem leNat_drop : ∀ (i : Nat) (l : List UInt8), i ≤ l.length → leNat l / 256 ^ i = leNat (l.drop i) := by
  intro i
  induction i with
  | zero => intro l _; simp
  | succ i ih =>
    intro l h
    cases l with
    | nil => simp at h
    | cons b l =>
      have hb := b.toNat_lt
      rw [List.drop_succ_cons, ← ih l (by simpa using h), leNat_cons, Nat.pow_succ, Nat.mul_comm (256 ^ i), ← Nat.div_div_eq_div_mul]
      congr 1; omega
theorem leNat_take : ∀ (i : Nat) (l : List UInt8), leNat l % 256 ^ i = leNat (l.take i) := by
  intro i
  induction i with
  | zero => intro l; simp [leNat, Nat.mod_one]
  | succ i ih =>
    intro l
    cases l with
    | nil => simp [leNat]
    | cons b l =>
      have hb := b.toNat_lt
      rw [List.take_succ_cons, leNat_cons, leNat_cons, ← ih l, Nat.pow_succ]
      have hp : 0 < 256 ^ i := Nat.pow_pos (by omega)
      rw [Nat.mul_comm (256 ^ i) 256, Nat.mod_mul]
      have h1 : (b.toNat + 256 * leNat l) % 256 = b.toNat := by omega
      have h2 : (b.toNat + 256 * leNat l) / 256 = leNat l := by omega
      rw [h1, h2]
theorem leNat_byte (l : List UInt8) (i : Nat) (b : UInt8) (h : l[i]? = some b) : leNat l / 256 ^ i % 256 = b.toNat := by
  have hi : i < l.length := (List.getElem?_eq_some_iff.1 h).1
  rw [leNat_drop i l (by omega)]
  have : l.drop i = b :: l.drop (i + 1) := by
    rw [List.drop_eq_getElem_cons hi]; congr 1; exact (List.getElem?_eq_some_iff.1 h).2
  rw [this, leNat_cons]
  have := b.toNat_lt
  omega
theorem leNat_inj : ∀ (a b : List UInt8), a.length = b.length → leNat a = leNat b → a = b := by
  intro a
  induction a with
  | nil => intro b h _; cases b <;> simp at h ⊢
  | cons x a ih =>
    intro b h e
    cases b with
    | nil => simp at h
    | cons y b =>
      rw [leNat_cons, leNat_cons] at e
      have hx := x.toNat_lt
      have hy := y.toNat_lt
      have h1 : x.toNat = y.toNat := by omega
      have h2 : leNat a = leNat b := by omega
      rw [ih b (by simpa using h) h2, UInt8.toNat_inj.1 h1]
theorem shr8 (n i : Nat) : Nat.shiftRight n (Nat.mul 8 i) = n / 256 ^ i := by
  show n >>> (8 * i) = _; rw [Nat.shiftRight_eq_div_pow, pow256]
theorem shl8 (n i : Nat) : Nat.shiftLeft n (Nat.mul 8 i) = n * 256 ^ i := by
  show n <<< (8 * i) = _; rw [Nat.shiftLeft_eq, pow256]

/-! ### What an abstract value says -/
abbrev Rho := Pth → Nat → Option (Nat × Nat × Nat)
mutual
def VR (ρ : Rho) : AV → Value → Prop
  | .bad, _ => False
  | .bool b, v => v = .bool b
  | .str n l, v => ∃ s : ByteArray, v = .string s ∧ n = leNat s.data.toList ∧ l = s.data.toList.length
  | .ptr f o e, v => ∃ b ba cs, ρ f e = some (b, ba, cs) ∧ v = .pointer (some ⟨b, ba + o, none⟩)
  | .nul, v => v = .pointer none
  | .slc f o l e es, v => ∃ b ba cs cap, ρ f e = some (b, ba, cs) ∧ ((v = .slice (some ⟨b, ba + o, none⟩) l cap ∧ l ≤ cap ∧ ba + o + cap * es ≤ cs) ∨ (l = 0 ∧ ∃ a, v = .slice (some a) 0 0))
  | .nsl, v => v = .slice none 0 0
  | .mp f, v => ∃ b ba cs, ρ f 0 = some (b, ba, cs) ∧ v = .map (some b)
  | .nmp, v => v = .map none
  | .fn f a c, v => (∃ xs ys, v = .func (.func f) xs ys ∧ VRs ρ a xs.toList ∧ VRs ρ c ys.toList) ∨ (f = yid ∧ c = [] ∧ ∃ q b ba cs, a = [.bad, .mp q] ∧ ρ q 0 = some (b, ba, cs) ∧ v = .func (.yield b) #[] #[])
  | .nfn, v => v = .nilFunc
  | .ifc t x, v => (∃ y, v = .iface t y ∧ VR ρ x y) ∨ ∃ k lo hi n, x = .tup [.bad, .int k lo, .int k hi] ∧ lo ≤ n ∧ n ≤ hi ∧ v = .int k n
  | .nif, v => v = .nilIface
  | .agg l, v => ∃ cs, v = .agg cs ∧ VRs ρ l cs.toList ∧ ∀ c ∈ cs.toList, c.oneCell' = true
  | .tup l, v => ∃ cs, v = .tuple cs ∧ VRs ρ l cs.toList
  | .int k n, v => v = .int k n
def VRs (ρ : Rho) : List AV → List Value → Prop
  | [], [] => True
  | a :: l, v :: m => VR ρ a v ∧ VRs ρ l m
  | _, _ => False
end
def Le (ρ ρ' : Rho) : Prop := ∀ f e x, ρ f e = some x → ρ' f e = some x
theorem Le.refl (ρ : Rho) : Le ρ ρ := fun _ _ _ h => h
theorem Le.trans {a b c : Rho} (h : Le a b) (k : Le b c) : Le a c := fun f e x hx => k f e x (h f e x hx)
mutual
theorem VR.mono {ρ ρ' : Rho} (h : Le ρ ρ') : ∀ (a : AV) (v : Value), VR ρ a v → VR ρ' a v
  | .bad, _, r => r
  | .bool _, _, r => r
  | .str _ _, _, r => r
  | .ptr .., _, ⟨b, ba, cs, r, e⟩ => ⟨b, ba, cs, h _ _ _ r, e⟩
  | .nul, _, r => r
  | .slc .., _, ⟨b, ba, cs, cap, r, e⟩ => ⟨b, ba, cs, cap, h _ _ _ r, e⟩
  | .nsl, _, r => r
  | .mp _, _, ⟨b, ba, cs, r, e⟩ => ⟨b, ba, cs, h _ _ _ r, e⟩
  | .nmp, _, r => r
  | .fn _ a c, _, .inl ⟨xs, ys, e, r1, r2⟩ => .inl ⟨xs, ys, e, VRs.mono h a _ r1, VRs.mono h c _ r2⟩
  | .fn _ _ _, _, .inr ⟨e1, e2, q, b, ba, cs, e3, r, e4⟩ => .inr ⟨e1, e2, q, b, ba, cs, e3, h _ _ _ r, e4⟩
  | .nfn, _, r => r
  | .ifc _ x, _, .inl ⟨y, e, r⟩ => .inl ⟨y, e, VR.mono h x y r⟩
  | .ifc _ _, _, .inr r => .inr r
  | .nif, _, r => r
  | .agg l, _, ⟨cs, e, r, fl⟩ => ⟨cs, e, VRs.mono h l _ r, fl⟩
  | .tup l, _, ⟨cs, e, r⟩ => ⟨cs, e, VRs.mono h l _ r⟩
  | .int .., _, r => r
theorem VRs.mono {ρ ρ' : Rho} (h : Le ρ ρ') : ∀ (a : List AV) (v : List Value), VRs ρ a v → VRs ρ' a v
  | [], [], _ => trivial
  | a :: l, v :: m, ⟨r1, r2⟩ => ⟨VR.mono h a v r1, VRs.mono h l m r2⟩
end
theorem VRs.length {ρ : Rho} : ∀ {a : List AV} {v : List Value}, VRs ρ a v → a.length = v.length := by
  intro a
  induction a with
  | nil => intro v h; cases v with
    | nil => rfl
    | cons x v => exact h.elim
  | cons x a ih => intro v h; cases v with
    | nil => exact h.elim
    | cons y v => simp [ih h.2]
theorem VRs.get {ρ : Rho} : ∀ {a : List AV} {v : List Value} {i : Nat} {x : AV}, VRs ρ a v → a[i]? = some x → ∃ y, v[i]? = some y ∧ VR ρ x y := by
  intro a
  induction a with
  | nil => intro v i x _ h; simp at h
  | cons z a ih => intro v i x h hi; cases v with
    | nil => exact h.elim
    | cons y v => cases i with
      | zero => simp at hi; subst hi; exact ⟨y, rfl, h.1⟩
      | succ i => obtain ⟨u, h1, h2⟩ := ih h.2 (by simpa using hi); exact ⟨u, by simpa using h1, h2⟩
theorem VRs.of_get {ρ : Rho} : ∀ {a : List AV} {v : List Value}, a.length = v.length → (∀ (i : Nat) (x : AV) (y : Value), a[i]? = some x → v[i]? = some y → VR ρ x y) → VRs ρ a v := by
  intro a
  induction a with
  | nil => intro v h _; cases v with
    | nil => trivial
    | cons _ _ => simp at h
  | cons z a ih => intro v h hg; cases v with
    | nil => simp at h
    | cons y v => exact ⟨hg 0 z y rfl rfl, ih (by simpa using h) fun i x y h1 h2 => hg (i + 1) x y (by simpa using h1) (by simpa using h2)⟩
theorem VRs.append {ρ : Rho} : ∀ {a b : List AV} {v u : List Value}, VRs ρ a v → VRs ρ b u → VRs ρ (a ++ b) (v ++ u) := by
  intro a
  induction a with
  | nil => intro b v u h h'; cases v with
    | nil => exact h'
    | cons _ _ => exact h.elim
  | cons x a ih => intro b v u h h'; cases v with
    | nil => exact h.elim
    | cons y v => exact ⟨h.1, ih h.2 h'⟩
theorem VR.fn_any {ρ : Rho} {f : Nat} {a c : List AV} {v : Value} (h : VR ρ (.fn f a c) v) : ∃ g xs ys, v = .func g xs ys := by
  rcases h with ⟨_, _, rfl, _⟩ | ⟨_, _, _, _, _, _, _, _, rfl⟩ <;> exact ⟨_, _, _, rfl⟩
theorem flat_of {ρ : Rho} {a : AV} {v : Value} (h : VR ρ a v) (hf : flat a = true) : v.oneCell' = true := by
  cases a <;> first
    | (cases hf; done)
    | (unfold VR at h; first
        | (rcases h with ⟨_, _, rfl, _⟩ | ⟨_, _, _, _, _, _, _, _, rfl⟩ <;> rfl)
        | (rcases h with ⟨_, rfl, _⟩ | ⟨_, _, _, _, _, _, _, rfl⟩ <;> rfl)
        | (subst h; rfl)
        | (obtain ⟨_, rfl, _⟩ := h; rfl)
        | (obtain ⟨_, _, rfl, _⟩ := h; rfl)
        | (obtain ⟨_, _, _, _, rfl⟩ := h; rfl)
        | (obtain ⟨_, _, _, _, _, h⟩ := h; rcases h with ⟨rfl, _⟩ | ⟨_, _, rfl⟩ <;> rfl))
theorem asIntT_ok {v : AV} {k : Option AV → IntKind → Int → Out} {r : AV} {h : Hp} (e : v.asIntT k = .ok r h) : (∃ kd n, v = .int kd n ∧ k none kd n = .ok r h) ∨ (∃ t x, v = .ifc t x ∧ k (some x) .i64 0 = .ok r h) := by
  cases v <;> first | exact .inl ⟨_, _, rfl, e⟩ | exact .inr ⟨_, _, rfl, e⟩ | cases e
theorem isBad_ok {v : AV} (h : isBad v = true) : v = .bad := by cases v <;> first | rfl | cases h
theorem ivl_vr {x : AV} {K : IntKind → Int → Int → Out} {r : AV} {h : Hp} (e : ivlK x K = .ok r h) : ∃ kd lo hi, K kd lo hi = .ok r h ∧ ∀ ρ t v, VR ρ (.ifc t x) v → ∃ n, lo ≤ n ∧ n ≤ hi ∧ v = .int kd n := by
  unfold ivlK at e
  cases x <;> first | (cases e; done) | skip
  rename_i l
  obtain ⟨b, hb, e1⟩ := nthK_ok (show nthK l 0 _ = .ok r h from e)
  obtain ⟨hbad, e2⟩ := bc_ok e1
  have hbad := isBad_ok hbad
  subst hbad
  obtain ⟨y, hy, e3⟩ := nthK_ok e2
  obtain ⟨kd, lo, rfl, e4⟩ := asInt_ok e3
  obtain ⟨z, hz, e5⟩ := nthK_ok e4
  obtain ⟨kd', hi, rfl, e6⟩ := asInt_ok e5
  obtain ⟨_, e7⟩ := bc_ok e6
  refine ⟨kd, lo, hi, e7, fun ρ t v hv => ?_⟩
  rcases hv with ⟨u, _, cs, _, hv⟩ | ⟨k', lo', hi', n, hl, h1, h2, h3⟩
  · exfalso
    cases l with
    | nil => cases hb
    | cons a l =>
      simp at hb
      subst hb
      cases hcs : cs.toList with
      | nil => rw [hcs] at hv; exact hv.elim
      | cons c cs' => rw [hcs] at hv; exact hv.1.elim
  · cases hl
    simp at hy hz
    obtain ⟨rfl, rfl⟩ := hy
    obtain ⟨_, rfl⟩ := hz
    exact ⟨n, h1, h2, h3⟩
end Go.Am

namespace Go.Am
open Go

def Hp.look (h : Hp) (f : Pth) : Option Fam := h.t.look f
noncomputable def Body.cell? : Body → Nat → Option AV
  | .byt n len, i => if i < len then some (.int .u8 (Int.ofNat (n / 256 ^ i % 256))) else none
  | .arr t es len z, i => if i < es * len then ((t.look (Pth.ofNat (i / es))).getD z)[i % es]? else none
  | .map _, _ => none
  | .lop _ _ _, _ => none
  | .itr _, _ => none
def BodyOk : Body → Prop
  | .byt n len => n < 256 ^ len
  | .arr t es _ z => z.length = es ∧ ∀ p row, t.look p = some row → row.length = es
  | .map _ => True
  | .lop _ _ _ => True
  | .itr _ => True
def Body.isMap : Body → Bool
  | .map _ => true
  | .lop _ _ _ => true
  | .itr _ => true
  | _ => false
def CellR (ρ : Rho) (w : World) (b i : Nat) (v : AV) : Prop := ∃ v', w.cell? ⟨b, i, none⟩ = some v' ∧ VR ρ v v' ∧ v'.oneCell' = true
def BlkOk (w : World) (b cs : Nat) : Prop := ∃ c el fz, w.heap[b]? = some (.cells c el fz) ∧ c.size = cs ∧ (fz.1 = fz.2 ∨ cs ≤ fz.1)
def EntR (ρ : Rho) (l : List (AV × AV)) (es : List MapEntry) : Prop := VRs ρ (l.map (·.1)) (es.map (·.key)) ∧ VRs ρ (l.map (·.2)) (es.map (·.val))
def stR : Nat → LoopState
  | 0 => .ready
  | 1 => .busy
  | 2 => .done
  | _ => .exhausted
def pendR : Ex → Option Code
  | .nrm => none
  | .ext i => some (.exit i)
  | .ret => some .ret
structure LopR (ρ : Rho) (st : Nat) (p : Ex) (d : LopD) (r : Loop) : Prop where
  st : r.state = stR st
  pend : r.pending = pendR p
  ps : r.params.toList = d.ps
  assign : r.assign = d.assign
  body : r.body = d.body
  size : r.tmps.size = d.T
  slots : ∀ t v, Nat.testBit d.N t = true → d.fr.look (Pth.ofNat t) = some v → VR ρ v (r.tmps.getD t undef)
theorem LopR.mono {ρ ρ' : Rho} (h : Le ρ ρ') {st : Nat} {p : Ex} {d : LopD} {r : Loop} (x : LopR ρ st p d r) : LopR ρ' st p d r :=
  ⟨x.st, x.pend, x.ps, x.assign, x.body, x.size, fun t v a b => VR.mono h _ _ (x.slots t v a b)⟩
def Born (es : Array MapEntry) (ck : Nat) : Prop := (∀ x ∈ es.toList, x.born < ck) ∧ (es.toList.map (·.born)).Nodup
theorem Born.nil {ck : Nat} : Born #[] ck := ⟨fun x h => by simp at h, by simp⟩
def ItrR (ρ : Rho) : Option Pth → Option Nat → Prop
  | none, none => True
  | some q, some b => ∃ ba cs, ρ q 0 = some (b, ba, cs)
  | _, _ => False
theorem ItrR.mono {ρ ρ' : Rho} (h : Le ρ ρ') : ∀ {m : Option Pth} {o : Option Nat}, ItrR ρ m o → ItrR ρ' m o
  | none, none, _ => trivial
  | some _, some _, ⟨ba, cs, r⟩ => ⟨ba, cs, h _ _ _ r⟩
  | none, some _, r => r.elim
  | some _, none, r => r.elim
structure FamR (ρ : Rho) (w : World) (f : Pth) (F : Fam) : Prop where
  bok : BodyOk F.body
  cur : ∃ x, ρ f F.ep = some x
  le : ∀ e x, ρ f e = some x → e ≤ F.ep
  map : ∀ l, F.body = .map l → F.ep = 0 ∧ ∃ x es ck, ρ f 0 = some x ∧ w.heap[x.1]? = some (.map es ck) ∧ EntR ρ l es.toList ∧ Born es ck
  arr : F.body.isMap = false → ∀ e x, ρ f e = some x → BlkOk w x.1 x.2.2 ∧ ∀ i v, F.body.cell? i = some v → (e = F.ep ∨ i < F.old) → CellR ρ w x.1 (x.2.1 + i) v
  lop : ∀ st p d, F.body = .lop st p d → F.ep = 0 ∧ ∃ x r, ρ f 0 = some x ∧ w.heap[x.1]? = some (.loop r) ∧ LopR ρ st p d r
  el : ∀ k, F.elem = k + 1 → F.old ≤ big → ∀ e x, ρ f e = some x → x.2.1 = 0 ∧ ∃ c fz, w.heap[x.1]? = some (.cells c k fz)
  itr : ∀ m, F.body = .itr m → F.ep = 0 ∧ ∃ x mo since last, ρ f 0 = some x ∧ w.heap[x.1]? = some (.mapIter mo since #[] last) ∧ ItrR ρ m mo ∧ x.2.1 = 0
structure Rel (ρ : Rho) (g : Pth → Option Fam) (w : World) : Prop where
  fam : ∀ f F, g f = some F → FamR ρ w f F
  sep : ∀ f F e x f' F' e' x', g f = some F → g f' = some F' → ρ f e = some x → ρ f' e' = some x' → x.1 = x'.1 → f = f' ∧ x.2.1 = x'.2.1
  lt : ∀ f e x, ρ f e = some x → x.1 < w.heap.size
structure Tr (ρ : Rho) (h : Hp) (w : World) (ρ' : Rho) (h' : Hp) (w' : World) : Prop where
  rel : Rel ρ' h'.look w'
  mono : Le ρ ρ'
  new : ∀ f e x, ρ' f e = some x → ρ f e = none → ((h.nx.toNat ≤ f.toNat ∧ f.toNat < h'.nx.toNat) ∨ ∃ F, h.look f = some F) ∧
    (w.heap.size ≤ x.1 ∨ ∃ f2 F e2 x2, (h.look f2 = some F ∧ F.old ≤ big) ∧ ρ f2 e2 = some x2 ∧ x2.1 = x.1)
  nx : h.nx.toNat ≤ h'.nx.toNat
  live : ∀ f F, h'.look f = some F → (∃ F0, h.look f = some F0) ∨ (h.nx.toNat ≤ f.toNat ∧ f.toNat < h'.nx.toNat)
  frame : ∀ k, k < w.heap.size → (∀ f F e x, h.look f = some F → F.old ≤ big → ρ f e = some x → x.1 ≠ k) → w'.heap[k]? = w.heap[k]?
  size : w.heap.size ≤ w'.heap.size
  os : w'.os = w.os
  tape : w'.tape = w.tape
  output : w'.output = w.output
  liveW : ∀ f F, h'.look f = some F → F.old ≤ big → (∃ F0, h.look f = some F0 ∧ F0.old ≤ big) ∨ (h.nx.toNat ≤ f.toNat ∧ f.toNat < h'.nx.toNat)
def Fresh (ρ : Rho) (h h' : Hp) : Prop := ∀ f e, h.nx.toNat ≤ f.toNat → f.toNat < h'.nx.toNat → ρ f e = none
theorem Fresh.mono {ρ : Rho} {h h1 h2 : Hp} (k : Fresh ρ h h2) (n : h1.nx.toNat ≤ h2.nx.toNat) : Fresh ρ h h1 := fun f e a b => k f e a (by omega)
theorem Fresh.next {ρ ρ1 : Rho} {h h1 h2 : Hp} {w w1 : World} (r : Rel ρ h.look w) (t : Tr ρ h w ρ1 h1 w1) (k : Fresh ρ h h2) : Fresh ρ1 h1 h2 := by
  intro f e a b
  have hn := t.nx
  have h0 : ∀ e, ρ f e = none := fun e => k f e (by omega) b
  cases hx : ρ1 f e with
  | none => rfl
  | some x =>
    rcases (t.new f e x hx (h0 e)).1 with ⟨_, h2⟩ | ⟨F, hF⟩
    · omega
    · obtain ⟨y, hy⟩ := (r.fam f F hF).cur
      rw [h0] at hy; cases hy
theorem Tr.refl {ρ : Rho} {h : Hp} {w : World} (r : Rel ρ h.look w) : Tr ρ h w ρ h w :=
  ⟨r, Le.refl ρ, fun f e x h1 h2 => (by rw [h1] at h2; cases h2), Nat.le_refl _, fun f F hF => .inl ⟨F, hF⟩, fun _ _ _ => rfl, Nat.le_refl _, rfl, rfl, rfl, fun f F hF hb => .inl ⟨F, hF, hb⟩⟩
theorem Tr.trans {ρ ρ1 ρ2 : Rho} {h h1 h2 : Hp} {w w1 w2 : World} (_r : Rel ρ h.look w) (t : Tr ρ h w ρ1 h1 w1) (u : Tr ρ1 h1 w1 ρ2 h2 w2) (k : Fresh ρ h h2) : Tr ρ h w ρ2 h2 w2 := by
  have n1 := t.nx
  have n2 := u.nx
  have own : ∀ f F e x, h1.look f = some F → F.old ≤ big → ρ1 f e = some x → w.heap.size ≤ x.1 ∨ ∃ f2 F e2 x2, (h.look f2 = some F ∧ F.old ≤ big) ∧ ρ f2 e2 = some x2 ∧ x2.1 = x.1 := by
    intro f F e x hF hb hx
    cases hr : ρ f e with
    | none => exact (t.new f e x hx hr).2
    | some y =>
      have : y = x := by have := t.mono f e y hr; rw [hx] at this; cases this; rfl
      subst this
      rcases t.liveW f F hF hb with ⟨F0, h0⟩ | ⟨a, b⟩
      · exact .inr ⟨f, F0, e, y, h0, hr, rfl⟩
      · rw [k f e a (by omega)] at hr; cases hr
  refine ⟨u.rel, t.mono.trans u.mono, ?_, by omega, ?_, ?_, Nat.le_trans t.size u.size, u.os.trans t.os, u.tape.trans t.tape, u.output.trans t.output, ?_⟩
  rotate_right
  · intro f F hF hb
    rcases u.liveW f F hF hb with ⟨F0, h0, hb0⟩ | ⟨a, b⟩
    · rcases t.liveW f F0 h0 hb0 with h3 | ⟨a, b⟩
      · exact .inl h3
      · exact .inr ⟨a, by omega⟩
    · exact .inr ⟨by omega, b⟩
  · intro f e x hx h0
    cases h1x : ρ1 f e with
    | none =>
      obtain ⟨a, b⟩ := u.new f e x hx h1x
      refine ⟨?_, ?_⟩
      · rcases a with ⟨a1, a2⟩ | ⟨F, hF⟩
        · exact .inl ⟨by omega, a2⟩
        · rcases t.live f F hF with h3 | ⟨a1, a2⟩
          · exact .inr h3
          · exact .inl ⟨a1, by omega⟩
      · rcases b with b | ⟨f2, F, e2, x2, hF, hx2, hb⟩
        · exact .inl (Nat.le_trans t.size b)
        · rw [← hb]; exact own f2 F e2 x2 hF.1 hF.2 hx2
    | some y =>
      have : y = x := by have := u.mono f e y h1x; rw [hx] at this; cases this; rfl
      subst this
      obtain ⟨a, b⟩ := t.new f e y h1x h0
      exact ⟨a.imp (fun ⟨p, q⟩ => ⟨p, by omega⟩) id, b⟩
  · intro f F hF
    rcases u.live f F hF with ⟨F0, h0⟩ | ⟨a, b⟩
    · rcases t.live f F0 h0 with h3 | ⟨a, b⟩
      · exact .inl h3
      · exact .inr ⟨a, by omega⟩
    · exact .inr ⟨by omega, b⟩
  · intro kk hk hno
    rw [u.frame kk (Nat.lt_of_lt_of_le hk t.size) ?_, t.frame kk hk hno]
    intro f F e x hF hb hx hxk
    rcases own f F e x hF hb hx with h3 | ⟨f2, F2, e2, x2, h4, h5, h6⟩
    · omega
    · exact hno f2 F2 e2 x2 h4.1 h4.2 h5 (h6.trans hxk)

/-! ### A world that has only grown beyond what ρ names, or been drawn from -/
theorem CellR.mono {ρ ρ' : Rho} {w w' : World} {b i : Nat} {v : AV} (h : Le ρ ρ') (hb : w'.heap[b]? = w.heap[b]?) (r : CellR ρ w b i v) : CellR ρ' w' b i v := by
  obtain ⟨v', h1, h2, h3⟩ := r
  exact ⟨v', by rw [← h1]; unfold World.cell?; rw [hb], VR.mono h _ _ h2, h3⟩
theorem BlkOk.mono {w w' : World} {b cs : Nat} (hb : w'.heap[b]? = w.heap[b]?) (r : BlkOk w b cs) : BlkOk w' b cs := by
  obtain ⟨c, el, fz, h1, h2⟩ := r
  exact ⟨c, el, fz, hb.trans h1, h2⟩
theorem EntR.mono {ρ ρ' : Rho} (h : Le ρ ρ') {l : List (AV × AV)} {es : List MapEntry} (r : EntR ρ l es) : EntR ρ' l es := ⟨VRs.mono h _ _ r.1, VRs.mono h _ _ r.2⟩
/-- a family whose blocks are as they were, and that has got no new place -/
theorem FamR.mono {ρ ρ' : Rho} {w w' : World} {f : Pth} {F : Fam} (h : Le ρ ρ') (hn : ∀ e x, ρ' f e = some x → ρ f e = some x)
    (hb : ∀ e x, ρ f e = some x → w'.heap[x.1]? = w.heap[x.1]?) (r : FamR ρ w f F) : FamR ρ' w' f F := by
  refine ⟨r.bok, r.cur.imp fun x hx => h _ _ _ hx, fun e x hx => r.le e x (hn e x hx), ?_, ?_, ?_, fun k hk hb2 e x hx => ?_, fun m hm => ?_⟩
  · intro l hl
    obtain ⟨h0, x, es, ck, h1, h2, h3⟩ := r.map l hl
    exact ⟨h0, x, es, ck, h _ _ _ h1, (hb _ _ h1).trans h2, h3.1.mono h, h3.2⟩
  · intro hm e x hx
    have hx' := hn e x hx
    obtain ⟨h1, h2⟩ := r.arr hm e x hx'
    exact ⟨h1.mono (hb _ _ hx'), fun i v hi ho => (h2 i v hi ho).mono h (hb _ _ hx')⟩
  · intro st p d hl
    obtain ⟨h0, x, r, h1, h2, h3⟩ := r.lop st p d hl
    exact ⟨h0, x, r, h _ _ _ h1, (hb _ _ h1).trans h2, h3.mono h⟩
  · obtain ⟨h1, c, fz, h2⟩ := r.el k hk hb2 e x (hn e x hx)
    exact ⟨h1, c, fz, (hb _ _ (hn e x hx)).trans h2⟩
  · obtain ⟨h0, x, mo, si, la, h1, h2, h3⟩ := r.itr m hm
    exact ⟨h0, x, mo, si, la, h _ _ _ h1, (hb _ _ h1).trans h2, h3.1.mono h, h3.2⟩
/-- less is named: the rest is as it was -/
theorem Rel.sub {ρ : Rho} {g g' : Pth → Option Fam} {w : World} (r : Rel ρ g w) (h : ∀ f F, g' f = some F → g f = some F) : Rel ρ g' w :=
  ⟨fun f F hF => r.fam f F (h f F hF), fun f F e x f' F' e' x' h1 h2 h3 h4 h5 => r.sep f F e x f' F' e' x' (h _ _ h1) (h _ _ h2) h3 h4 h5, r.lt⟩
theorem Rel.world {ρ : Rho} {g : Pth → Option Fam} {w w' : World} (r : Rel ρ g w) (h : w'.heap = w.heap) : Rel ρ g w' :=
  ⟨fun f F hF => (r.fam f F hF).mono (Le.refl ρ) (fun _ _ h => h) (fun _ _ _ => by rw [h]), r.sep, fun f e x hx => by rw [h]; exact r.lt f e x hx⟩

/-! ### Reading -/
theorem famK_ok {h : Hp} {f : Pth} {ep off n : Nat} {k : Fam → Out} {r : AV} {hF : Hp} (e : famK h f ep off n k = .ok r hF) :
    ∃ F, h.look f = some F ∧ (ep = F.ep ∨ off + n ≤ F.old) ∧ k F = .ok r hF := by
  obtain ⟨nx, t⟩ := h
  have e' : hpGet t f (.no 44) (fun fam => Fam.rec (motive := fun _ => Nat → Nat → Nat → (Fam → Out) → Out) (fun e ep' old b ep off n k => bc (Nat.beq ep ep') (k (Fam.mk e ep' old b)) (bc (Nat.ble (Nat.add off n) old) (k (Fam.mk e ep' old b)) (.no 45))) fam ep off n k) = .ok r hF := e
  rw [hpGet_eq] at e'
  cases hl : t.look f with
  | none => rw [hl] at e'; cases e'
  | some F =>
    rw [hl] at e'
    obtain ⟨el, ep', old, b⟩ := F
    have e2 : bc (Nat.beq ep ep') (k (Fam.mk el ep' old b)) (bc (Nat.ble (Nat.add off n) old) (k (Fam.mk el ep' old b)) (.no 45)) = .ok r hF := e'
    refine ⟨_, hl, ?_⟩
    rw [bc_eq] at e2
    split at e2
    · rename_i hb; exact ⟨.inl (Nat.eq_of_beq_eq_true hb), e2⟩
    · obtain ⟨h1, h2⟩ := bc_ok e2; exact ⟨.inr (Nat.le_of_ble_eq_true h1), h2⟩
theorem famR_ok {h : Hp} {f : Pth} {ep : Nat} {k : Fam → Out} {r : AV} {hF : Hp} (e : famR h f ep k = .ok r hF) :
    ∃ F, h.look f = some F ∧ ep = F.ep ∧ k F = .ok r hF := by
  obtain ⟨nx, t⟩ := h
  have e' : hpGet t f (.no 44) (fun fam => Fam.rec (motive := fun _ => Nat → (Fam → Out) → Out) (fun e ep' old b ep k => bc (Nat.beq ep ep') (k (Fam.mk e ep' old b)) (.no 46)) fam ep k) = .ok r hF := e
  rw [hpGet_eq] at e'
  cases hl : t.look f with
  | none => rw [hl] at e'; cases e'
  | some F =>
    rw [hl] at e'
    obtain ⟨el, ep', old, b⟩ := F
    have e2 : bc (Nat.beq ep ep') (k (Fam.mk el ep' old b)) (.no 46) = .ok r hF := e'
    obtain ⟨h1, h2⟩ := bc_ok e2
    exact ⟨_, hl, Nat.eq_of_beq_eq_true h1, h2⟩
theorem famW_ok {h : Hp} {f : Pth} {ep : Nat} {k : Fam → Out} {r : AV} {hF : Hp} (e : famW h f ep k = .ok r hF) :
    ∃ F, h.look f = some F ∧ ep = F.ep ∧ F.old ≤ big ∧ k F = .ok r hF := by
  obtain ⟨nx, t⟩ := h
  have e' : hpGet t f (.no 44) (fun fam => Fam.rec (motive := fun _ => Nat → (Fam → Out) → Out) (fun e ep' old b ep k => bc (Nat.beq ep ep') (bc (Nat.ble old big) (k (Fam.mk e ep' old b)) (.no 116)) (.no 46)) fam ep k) = .ok r hF := e
  rw [hpGet_eq] at e'
  cases hl : t.look f with
  | none => rw [hl] at e'; cases e'
  | some F =>
    rw [hl] at e'
    obtain ⟨el, ep', old, b⟩ := F
    have e2 : bc (Nat.beq ep ep') (bc (Nat.ble old big) (k (Fam.mk el ep' old b)) (.no 116)) (.no 46) = .ok r hF := e'
    obtain ⟨h1, h2⟩ := bc_ok e2
    obtain ⟨h3, h4⟩ := bc_ok h2
    exact ⟨_, hl, Nat.eq_of_beq_eq_true h1, Nat.le_of_ble_eq_true h3, h4⟩
theorem bodyK_eq (F : Fam) (k : Body → Out) : F.bodyK k = k F.body := rfl
theorem rdCell_ok {b : Body} {off : Nat} {k : AV → Out} {r : AV} {hF : Hp} (e : rdCell b off k = .ok r hF) : b.isMap = false ∧ ∃ v, b.cell? off = some v ∧ k v = .ok r hF := by
  cases b with
  | byt n len =>
    have e' : Bool.rec (motive := fun _ => Nat → Nat → (AV → Out) → Out) (fun _ _ _ => .no 41) (fun n off k => natK (Nat.mod (Nat.shiftRight n (Nat.mul 8 off)) 256) fun c => k (.int .u8 (Int.ofNat c))) (Nat.blt off len) n off k = .ok r hF := e
    cases hb : Nat.blt off len with
    | false => rw [hb] at e'; cases e'
    | true =>
      rw [hb] at e'
      have e2 : natK (Nat.mod (Nat.shiftRight n (Nat.mul 8 off)) 256) (fun c => k (.int .u8 (Int.ofNat c))) = .ok r hF := e'
      rw [natK_eq, shr8] at e2
      have hlt : off < len := by simpa [Nat.blt_eq] using hb
      exact ⟨rfl, _, by simp only [Body.cell?, hlt, if_true]; rfl, e2⟩
  | arr t es len z =>
    have e' : Bool.rec (motive := fun _ => PT (List AV) → Nat → List AV → Nat → (AV → Out) → Out) (fun _ _ _ _ _ => .no 41)
      (fun t es z off k => natK (Nat.div off es) fun i => rwGet t (Pth.ofNat i) (nthK z (Nat.mod off es) k) (fun row => nthK row (Nat.mod off es) k)) (Nat.blt off (Nat.mul es len)) t es z off k = .ok r hF := e
    cases hb : Nat.blt off (Nat.mul es len) with
    | false => rw [hb] at e'; cases e'
    | true =>
      rw [hb] at e'
      have e2 : natK (Nat.div off es) (fun i => rwGet t (Pth.ofNat i) (nthK z (Nat.mod off es) k) (fun row => nthK row (Nat.mod off es) k)) = .ok r hF := e'
      rw [natK_eq, rwGet_eq] at e2
      have hlt : off < es * len := by simpa [Nat.blt_eq] using hb
      refine ⟨rfl, ?_⟩
      simp only [Body.cell?, hlt, if_true]
      change (match t.look (Pth.ofNat (off / es)) with | some x => nthK x (off % es) k | none => nthK z (off % es) k) = .ok r hF at e2
      cases hl : t.look (Pth.ofNat (off / es)) with
      | none => rw [hl] at e2; exact nthK_ok e2
      | some row => rw [hl] at e2; exact nthK_ok e2
  | map l => cases e
  | lop _ _ _ => cases e
  | itr _ => cases e
/-- what a read cell says in the world -/
theorem Rel.read {ρ : Rho} {g : Pth → Option Fam} {w : World} (R : Rel ρ g w) {f : Pth} {F : Fam} (hF : g f = some F) (hm : F.body.isMap = false) {e : Nat} {x : Nat × Nat × Nat} (hx : ρ f e = some x) {i : Nat} {v : AV}
    (hc : F.body.cell? i = some v) (ho : e = F.ep ∨ i < F.old) : CellR ρ w x.1 (x.2.1 + i) v := ((R.fam f F hF).arr hm e x hx).2 i v hc ho
end Go.Am

namespace Go.Am
open Go

theorem kEq_ok {a b : IntKind} (h : kEq a b = true) : a = b := by cases a <;> cases b <;> first | rfl | cases h
theorem cellsK_ok {b : Body} : ∀ {n off : Nat} {k : List AV → Out} {r : AV} {hF : Hp}, cellsK b n off k = .ok r hF →
    ∃ l : List AV, l.length = n ∧ (n = 0 ∨ b.isMap = false) ∧ (∀ (j : Nat) v, l[j]? = some v → b.cell? (off + j) = some v) ∧ k l = .ok r hF := by
  intro n
  induction n with
  | zero => intro off k r hF e; exact ⟨[], rfl, .inl rfl, fun j v h => by simp at h, e⟩
  | succ n ih =>
    intro off k r hF e
    have e' : rdCell b off (fun v => cellsK b n (Nat.succ off) fun l => k (v :: l)) = .ok r hF := e
    obtain ⟨hm, v, hv, e2⟩ := rdCell_ok e'
    obtain ⟨l, hl, _, hc, e3⟩ := ih e2
    refine ⟨v :: l, by simp [hl], .inr hm, ?_, e3⟩
    intro j u hj
    cases j with
    | zero => simp at hj; subst hj; exact hv
    | succ j => have := hc j u (by simpa using hj); rw [show off + (j + 1) = off.succ + j by omega]; exact this
theorem rowK_ok {b : Body} (hb : BodyOk b) {n off : Nat} {k : List AV → Out} {r : AV} {hF : Hp} (e : rowK b n off k = .ok r hF) :
    ∃ l : List AV, l.length = n ∧ (n = 0 ∨ b.isMap = false) ∧ (∀ (j : Nat) v, l[j]? = some v → b.cell? (off + j) = some v) ∧ k l = .ok r hF := by
  cases b with
  | byt m len => exact cellsK_ok (b := .byt m len) e
  | map l => cases e
  | lop _ _ _ => cases e
  | itr _ => cases e
  | arr t es len z =>
    have e' : Bool.rec (motive := fun _ => PT (List AV) → Nat → Nat → List AV → Nat → Nat → (List AV → Out) → Out) (fun t es len z n off k => cellsK (.arr t es len z) n off k)
      (fun t es len z _ off k => natK (Nat.div off es) fun i => Bool.rec (motive := fun _ => PT (List AV) → List AV → Nat → (List AV → Out) → Out) (fun _ _ _ _ => .no 41) (fun t z i k => rwGet t (Pth.ofNat i) (k z) k) (Nat.blt i len) t z i k)
      (Bool.rec (fun _ => false) (fun b => b) (Nat.beq n es) (Nat.beq (Nat.mod off es) 0)) t es len z n off k = .ok r hF := e
    cases h1 : Nat.beq n es with
    | false => rw [h1] at e'; exact cellsK_ok (b := .arr t es len z) e'
    | true =>
      rw [h1] at e'
      cases h2 : Nat.beq (Nat.mod off es) 0 with
      | false => rw [h2] at e'; exact cellsK_ok (b := .arr t es len z) e'
      | true =>
        rw [h2] at e'
        have hn : n = es := Nat.eq_of_beq_eq_true h1
        have hz : off % es = 0 := Nat.eq_of_beq_eq_true h2
        subst hn
        have e2 : natK (Nat.div off n) (fun i => Bool.rec (motive := fun _ => PT (List AV) → List AV → Nat → (List AV → Out) → Out) (fun _ _ _ _ => .no 41) (fun t z i k => rwGet t (Pth.ofNat i) (k z) k) (Nat.blt i len) t z i k) = .ok r hF := e'
        rw [natK_eq] at e2
        cases h3 : Nat.blt (Nat.div off n) len with
        | false => rw [h3] at e2; cases e2
        | true =>
          rw [h3] at e2
          have e3 : rwGet t (Pth.ofNat (Nat.div off n)) (k z) k = .ok r hF := e2
          rw [rwGet_eq] at e3
          have hlt : off / n < len := by have : Nat.div off n < len := by simpa [Nat.blt_eq] using h3
                                         exact this
          have hoff : off = n * (off / n) := by have := Nat.div_add_mod off n; omega
          have hcell : ∀ (row : List AV), row.length = n → ((t.look (Pth.ofNat (off / n))).getD z) = row → ∀ (j : Nat) v, row[j]? = some v → (Body.arr t n len z).cell? (off + j) = some v := by
            intro row hlen hrow j v hj
            have hjn : j < n := by have := (List.getElem?_eq_some_iff.1 hj).1; omega
            have hd : (off + j) / n = off / n := by
              rw [hoff, Nat.mul_add_div (by omega), Nat.div_eq_of_lt hjn]
              rw [Nat.mul_div_cancel_left _ (by omega)]; omega
            have hmod : (off + j) % n = j := by
              rw [hoff, Nat.mul_add_mod, Nat.mod_eq_of_lt hjn]
            have hl : off + j < n * len := by
              have : n * (off / n) + n ≤ n * len := by rw [← Nat.mul_succ]; exact Nat.mul_le_mul_left n hlt
              omega
            simp only [Body.cell?, hl, if_true, hd, hmod, hrow, hj]
          cases hl : t.look (Pth.ofNat (off / n)) with
          | none =>
            change (match t.look (Pth.ofNat (off / n)) with | some x => k x | none => k z) = .ok r hF at e3
            rw [hl] at e3
            exact ⟨z, hb.1, .inr rfl, hcell z hb.1 (by rw [hl]; rfl), e3⟩
          | some row =>
            change (match t.look (Pth.ofNat (off / n)) with | some x => k x | none => k z) = .ok r hF at e3
            rw [hl] at e3
            exact ⟨row, hb.2 _ _ hl, .inr rfl, hcell row (hb.2 _ _ hl) (by rw [hl]; rfl), e3⟩
theorem rowsK_ok {b : Body} (hb : BodyOk b) {es : Nat} (hes : 1 ≤ es) : ∀ {m off : Nat} {k : List (List AV) → Out} {r : AV} {hF : Hp}, rowsK b es m off k = .ok r hF →
    ∃ rows : List (List AV), rows.length = m ∧ (m = 0 ∨ b.isMap = false) ∧ (∀ (i : Nat) row, rows[i]? = some row → row.length = es ∧ ∀ (j : Nat) v, row[j]? = some v → b.cell? (off + i * es + j) = some v) ∧ k rows = .ok r hF := by
  intro m
  induction m with
  | zero => intro off k r hF e; exact ⟨[], rfl, .inl rfl, fun i row h => by simp at h, e⟩
  | succ m ih =>
    intro off k r hF e
    have e' : rowK b es off (fun row => rowsK b es m (Nat.add off es) fun l => k (row :: l)) = .ok r hF := e
    obtain ⟨l, hl, hm, hc, e2⟩ := rowK_ok hb e'
    obtain ⟨rows, hr, _, hrows, e3⟩ := ih e2
    refine ⟨l :: rows, by simp [hr], .inr (hm.resolve_left (by omega)), ?_, e3⟩
    intro i row hi
    cases i with
    | zero => simp at hi; subst hi; exact ⟨hl, fun j v hj => by simpa using hc j v hj⟩
    | succ i =>
      obtain ⟨h1, h2⟩ := hrows i row (by simpa using hi)
      refine ⟨h1, fun j v hj => ?_⟩
      have := h2 j v hj
      rw [show off + (i + 1) * es + j = Nat.add off es + i * es + j by show _ = off + es + i * es + j; rw [Nat.succ_mul]; omega]
      exact this
theorem byteNat (c : Nat) (h : c < 256) : (UInt8.ofNat c).toNat = c := by simp [UInt8.toNat_ofNat, Nat.mod_eq_of_lt h]
/-- the bytes of a number -/
def bytesLE (n : Nat) : Nat → List UInt8
  | 0 => []
  | l + 1 => UInt8.ofNat (n % 256) :: bytesLE (n / 256) l
theorem bytesLE_length : ∀ (l n : Nat), (bytesLE n l).length = l := by
  intro l
  induction l with
  | zero => intro n; rfl
  | succ l ih => intro n; simp [bytesLE, ih]
theorem bytesLE_get : ∀ (l n i : Nat), i < l → (bytesLE n l)[i]? = some (UInt8.ofNat (n / 256 ^ i % 256)) := by
  intro l
  induction l with
  | zero => intro n i h; omega
  | succ l ih =>
    intro n i h
    cases i with
    | zero => simp [bytesLE]
    | succ i => simp only [bytesLE, List.getElem?_cons_succ]; rw [ih _ _ (by omega), Nat.div_div_eq_div_mul, Nat.pow_succ, Nat.mul_comm]
theorem leNat_bytesLE : ∀ (l n : Nat), leNat (bytesLE n l) = n % 256 ^ l := by
  intro l
  induction l with
  | zero => intro n; simp [bytesLE, leNat, Nat.mod_one]
  | succ l ih =>
    intro n
    rw [bytesLE, leNat_cons, ih, byteNat _ (Nat.mod_lt _ (by omega)), Nat.pow_succ, Nat.mul_comm (256 ^ l), Nat.mod_mul]
theorem bytesK_ok {b : Body} : ∀ {m off : Nat} {k : Nat → Out} {r : AV} {hF : Hp}, bytesK b m off k = .ok r hF →
    ∃ bs : List UInt8, bs.length = m ∧ (m = 0 ∨ b.isMap = false) ∧ (∀ (j : Nat) x, bs[j]? = some x → b.cell? (off + j) = some (.int .u8 (Int.ofNat x.toNat))) ∧ k (leNat bs) = .ok r hF := by
  cases b with
  | map l => intro m off k r hF e; cases e
  | lop _ _ _ => intro m off k r hF e; cases e
  | itr _ => intro m off k r hF e; cases e
  | byt n len =>
    intro m off k r hF e
    have e' : bc (Nat.ble (Nat.add off m) len) (natK (Nat.mod (Nat.shiftRight n (Nat.mul 8 off)) (Nat.shiftLeft 1 (Nat.mul 8 m))) k) (.no 41) = .ok r hF := e
    obtain ⟨h1, h2⟩ := bc_ok e'
    have hle : off + m ≤ len := Nat.le_of_ble_eq_true h1
    rw [natK_eq, shr8, shl8, Nat.one_mul] at h2
    refine ⟨bytesLE (n / 256 ^ off) m, bytesLE_length _ _, .inr rfl, ?_, by rw [leNat_bytesLE]; exact h2⟩
    intro j x hj
    have hjm : j < m := by have := (List.getElem?_eq_some_iff.1 hj).1; rw [bytesLE_length] at this; exact this
    rw [bytesLE_get _ _ _ hjm] at hj
    cases hj
    rw [byteNat _ (Nat.mod_lt _ (by omega))]
    simp only [Body.cell?, show off + j < len by omega, if_true]
    rw [Nat.div_div_eq_div_mul, ← Nat.pow_add]
  | arr t es len z =>
    suffices H : ∀ (m off : Nat) (k : Nat → Out) (r : AV) (hF : Hp), Nat.rec (motive := fun _ => Body → Nat → (Nat → Out) → Out) (fun _ _ k => k 0) (fun _ ih b off k => rdCell b off fun v => v.asInt fun kd c => bc (kEq kd .u8) (Int.rec (motive := fun _ => Body → Nat → (Body → Nat → (Nat → Out) → Out) → (Nat → Out) → Out) (fun c b off ih k => bc (Nat.blt c 256) (ih b (Nat.succ off) fun r => k (Nat.add c (Nat.mul 256 r))) (.no 64)) (fun _ _ _ _ _ => .no 64) c b off ih k) (.no 64)) m (.arr t es len z) off k = .ok r hF →
        ∃ bs : List UInt8, bs.length = m ∧ (m = 0 ∨ (Body.arr t es len z).isMap = false) ∧ (∀ (j : Nat) x, bs[j]? = some x → (Body.arr t es len z).cell? (off + j) = some (.int .u8 (Int.ofNat x.toNat))) ∧ k (leNat bs) = .ok r hF by
      intro m off k r hF e; exact H m off k r hF e
    intro m
    induction m with
    | zero => intro off k r hF e; exact ⟨[], rfl, .inl rfl, fun j x h => by simp at h, e⟩
    | succ m ih =>
      intro off k r hF e
      obtain ⟨hm, v, hv, e2⟩ := rdCell_ok e
      obtain ⟨kd, c, rfl, e3⟩ := asInt_ok e2
      obtain ⟨hk, e4⟩ := bc_ok e3
      have hk := kEq_ok hk
      subst hk
      cases c with
      | negSucc c => cases e4
      | ofNat c =>
        obtain ⟨h1, h2⟩ := bc_ok e4
        have hc : c < 256 := by simpa [Nat.blt_eq] using h1
        obtain ⟨bs, hl, _, hg, e5⟩ := ih _ _ _ _ h2
        refine ⟨UInt8.ofNat c :: bs, by simp [hl], .inr rfl, ?_, by rw [leNat_cons, byteNat c hc]; exact e5⟩
        intro j x hj
        cases j with
        | zero => simp at hj; subst hj; rw [byteNat c hc]; exact hv
        | succ j => have := hg j x (by simpa using hj); rw [show off + (j + 1) = off.succ + j by omega]; exact this
end Go.Am

namespace Go.Am
open Go

/-! ### Bytes as a list -/
theorem bytes_of {n len : Nat} (h : BodyOk (.byt n len)) : ∃ bs : List UInt8, n = leNat bs ∧ len = bs.length :=
  ⟨bytesLE n len, by rw [leNat_bytesLE, Nat.mod_eq_of_lt h], (bytesLE_length _ _).symm⟩
theorem cell_byt (bs : List UInt8) (i : Nat) : (Body.byt (leNat bs) bs.length).cell? i = (bs[i]?).map fun x => .int .u8 (Int.ofNat x.toNat) := by
  simp only [Body.cell?]
  by_cases h : i < bs.length
  · simp only [h, if_true]
    have hb : bs[i]? = some bs[i] := List.getElem?_eq_getElem h
    rw [leNat_byte bs i _ hb, hb]; rfl
  · simp [h]
theorem leNat_set : ∀ (bs : List UInt8) (i : Nat) (o c : UInt8), bs[i]? = some o → leNat (bs.set i c) = leNat bs - o.toNat * 256 ^ i + c.toNat * 256 ^ i ∧ o.toNat * 256 ^ i ≤ leNat bs := by
  intro bs
  induction bs with
  | nil => intro i o c h; simp at h
  | cons b bs ih =>
    intro i o c h
    cases i with
    | zero => simp at h; subst h; simp [leNat_cons]; omega
    | succ i =>
      obtain ⟨h1, h2⟩ := ih i o c (by simpa using h)
      simp only [List.set_cons_succ, leNat_cons, h1, Nat.pow_succ]
      generalize leNat bs = N at *
      have e1 : o.toNat * (256 ^ i * 256) = 256 * (o.toNat * 256 ^ i) := by rw [← Nat.mul_assoc, Nat.mul_comm]
      have e2 : c.toNat * (256 ^ i * 256) = 256 * (c.toNat * 256 ^ i) := by rw [← Nat.mul_assoc, Nat.mul_comm]
      rw [e1, e2]
      generalize o.toNat * 256 ^ i = X at *
      generalize c.toNat * 256 ^ i = Y at *
      omega

/-! ### What a write does to a body -/
structure WrSpec (b : Body) (off : Nat) (l : List AV) (b' : Body) : Prop where
  ok : BodyOk b'
  map : b'.isMap = false
  has : ∀ j, j < l.length → (b.cell? (off + j)).isSome = true
  cell : ∀ i, b'.cell? i = if off ≤ i ∧ i < off + l.length then l[i - off]? else b.cell? i
/-- the same, but that the places need not have been known -/
structure WrSpecX (b : Body) (off : Nat) (l : List AV) (b' : Body) : Prop where
  ok : BodyOk b'
  map : b'.isMap = false
  cell : ∀ i, b'.cell? i = if off ≤ i ∧ i < off + l.length then l[i - off]? else b.cell? i
theorem WrSpec.toX {b : Body} {off : Nat} {l : List AV} {b' : Body} (S : WrSpec b off l b') : WrSpecX b off l b' := ⟨S.ok, S.map, S.cell⟩
theorem WrSpec.nil {b : Body} (h : BodyOk b) (hm : b.isMap = false) (off : Nat) : WrSpec b off [] b :=
  ⟨h, hm, fun j hj => by simp at hj, fun i => by simp; intro h1 h2; omega⟩
theorem WrSpec.append {b b1 b2 : Body} {off : Nat} {l m : List AV} (h : WrSpec b off l b1) (k : WrSpec b1 (off + l.length) m b2) : WrSpec b off (l ++ m) b2 := by
  refine ⟨k.ok, k.map, ?_, ?_⟩
  · intro j hj
    by_cases hl : j < l.length
    · exact h.has j hl
    · have := k.has (j - l.length) (by simp at hj; omega)
      rw [h.cell, if_neg (by omega)] at this
      rwa [show off + l.length + (j - l.length) = off + j by omega] at this
  · intro i
    rw [k.cell, h.cell]
    by_cases h1 : off ≤ i
    · by_cases h2 : i < off + l.length
      · rw [if_neg (by omega), if_pos ⟨h1, h2⟩, if_pos ⟨h1, by simp; omega⟩, List.getElem?_append_left (by omega)]
      · by_cases h3 : i < off + l.length + m.length
        · rw [if_pos ⟨by omega, h3⟩, if_pos ⟨h1, by simp; omega⟩, List.getElem?_append_right (by omega)]
          congr 1; omega
        · rw [if_neg (by omega), if_neg (by omega), if_neg (by simp; omega)]
    · rw [if_neg (by omega), if_neg (by omega), if_neg (by omega)]
theorem cell_arr_row {t : PT (List AV)} {es len : Nat} {z : List AV} {i : Nat} (h : i < es * len) : (Body.arr t es len z).cell? i = ((t.look (Pth.ofNat (i / es))).getD z)[i % es]? := by
  simp only [Body.cell?, h, if_true]
/-- a row put in -/
theorem row_put {t : PT (List AV)} {es len : Nat} {z row : List AV} (hb : BodyOk (.arr t es len z)) (hr : row.length = es) (p : Pth) : BodyOk (.arr (t.upd p (some row)) es len z) := by
  refine ⟨hb.1, fun q r hq => ?_⟩
  rw [look_upd] at hq
  split at hq
  · cases hq; exact hr
  · exact hb.2 _ _ hq
theorem wrCell_ok {b : Body} (hb : BodyOk b) {off : Nat} {v : AV} {k : Body → Out} {r : AV} {hF : Hp} (e : wrCell b off v k = .ok r hF) :
    b.isMap = false ∧ ∃ b', WrSpec b off [v] b' ∧ k b' = .ok r hF := by
  cases b with
  | map l => cases e
  | lop _ _ _ => cases e
  | itr _ => cases e
  | byt n len =>
    obtain ⟨kd, c, rfl, e2⟩ := asInt_ok (show AV.asInt v _ = .ok r hF from e)
    cases c with
    | negSucc c => cases e2
    | ofNat c =>
      obtain ⟨h1, e3⟩ := bc_ok e2
      obtain ⟨h2, e4⟩ := bc_ok e3
      obtain ⟨h3, e5⟩ := bc_ok e4
      have h2 := kEq_ok h2
      subst h2
      have hlt : off < len := by simpa [Nat.blt_eq] using h1
      have hc : c < 256 := by simpa [Nat.blt_eq] using h3
      obtain ⟨bs, rfl, rfl⟩ := bytes_of hb
      have hg : bs[off]? = some bs[off] := List.getElem?_eq_getElem hlt
      rw [natK_eq, shr8, shl8, shl8] at e5
      obtain ⟨s1, s2⟩ := leNat_set bs off _ (UInt8.ofNat c) hg
      have hN : Nat.add (Nat.sub (leNat bs) (Nat.mod (leNat bs / 256 ^ off) 256 * 256 ^ off)) (c * 256 ^ off) = leNat (bs.set off (UInt8.ofNat c)) := by
        rw [s1, byteNat c hc]
        show leNat bs - (leNat bs / 256 ^ off % 256) * 256 ^ off + c * 256 ^ off = _
        rw [leNat_byte bs off _ hg]
      rw [hN] at e5
      refine ⟨rfl, .byt (leNat (bs.set off (UInt8.ofNat c))) bs.length, ⟨?_, rfl, ?_, ?_⟩, e5⟩
      · have := leNat_lt (bs.set off (UInt8.ofNat c)); rw [List.length_set] at this; exact this
      · intro j hj; simp at hj; subst hj; rw [cell_byt]; simp [hlt]
      · intro i
        have e1 := cell_byt (bs.set off (UInt8.ofNat c)) i
        rw [List.length_set] at e1
        rw [e1, cell_byt]
        by_cases hi : i = off
        · subst hi; rw [if_pos ⟨Nat.le_refl _, by simp⟩]; simp [hlt, byteNat c hc]
        · rw [if_neg (by simp; omega), List.getElem?_set_ne (by omega)]
  | arr t es len z =>
    obtain ⟨h1, e2⟩ := bc_ok (show bc (Nat.blt off (Nat.mul es len)) _ (.no 41) = .ok r hF from e)
    have hlt : off < es * len := by simpa [Nat.blt_eq] using h1
    rw [natK_eq, rwGet_eq] at e2
    have hes : 0 < es := by rcases Nat.eq_zero_or_pos es with h | h
                            · subst h; simp at hlt
                            · exact h
    have key : ∀ row : List AV, row.length = es → (t.look (Pth.ofNat (off / es))).getD z = row → WrSpec (.arr t es len z) off [v] (.arr (t.upd (Pth.ofNat (off / es)) (some (row.set (off % es) v))) es len z) := by
      intro row hl hrow
      refine ⟨row_put hb (by simpa using hl) _, rfl, ?_, ?_⟩
      · intro j hj; simp at hj; subst hj
        rw [Nat.add_zero, cell_arr_row hlt, hrow]; simp [hl, Nat.mod_lt off hes]
      · intro i
        by_cases hi : i < es * len
        · rw [cell_arr_row hi, cell_arr_row hi, look_upd]
          by_cases hq : i / es = off / es
          · rw [hq, if_pos rfl]
            by_cases hm : i % es = off % es
            · have : i = off := by have a := Nat.div_add_mod i es; have b := Nat.div_add_mod off es; rw [← a, ← b, hq, hm]
              subst this
              rw [if_pos ⟨Nat.le_refl _, by simp⟩]; simp [hl, Nat.mod_lt i hes]
            · have hne : i ≠ off := fun h => hm (by rw [h])
              rw [if_neg (by simp; omega)]
              simp only [Option.getD_some]
              rw [List.getElem?_set_ne (Ne.symm hm), hrow]
          · have hne : i ≠ off := fun h => hq (by rw [h])
            rw [if_neg (fun h => hq (ofNat_inj h)), if_neg (by simp; omega)]
        · have h1 : (Body.arr t es len z).cell? i = none := by simp [Body.cell?, hi]
          have h2 : (Body.arr (t.upd (Pth.ofNat (off / es)) (some (row.set (off % es) v))) es len z).cell? i = none := by simp [Body.cell?, hi]
          rw [h1, h2, if_neg (by simp; omega)]
    refine ⟨rfl, ?_⟩
    change (match t.look (Pth.ofNat (off / es)) with
      | some row => k (.arr (rwSet t (Pth.ofNat (off / es)) (some (setNth row (off % es) v))) es len z)
      | none => k (.arr (rwSet t (Pth.ofNat (off / es)) (some (setNth z (off % es) v))) es len z)) = .ok r hF at e2
    cases hl : t.look (Pth.ofNat (off / es)) with
    | none =>
      rw [hl] at e2
      have e3 : k (.arr (rwSet t (Pth.ofNat (off / es)) (some (setNth z (off % es) v))) es len z) = .ok r hF := e2
      rw [rwSet_eq, setNth_eq] at e3; exact ⟨_, key z hb.1 (by rw [hl]; rfl), e3⟩
    | some row =>
      rw [hl] at e2
      have e3 : k (.arr (rwSet t (Pth.ofNat (off / es)) (some (setNth row (off % es) v))) es len z) = .ok r hF := e2
      rw [rwSet_eq, setNth_eq] at e3; exact ⟨_, key row (hb.2 _ _ hl) (by rw [hl]; rfl), e3⟩
theorem wrCells_ok : ∀ {l : List AV} {b : Body} {off : Nat} {k : Body → Out} {r : AV} {hF : Hp}, BodyOk b → b.isMap = false → wrCells l b off k = .ok r hF → ∃ b', WrSpec b off l b' ∧ k b' = .ok r hF := by
  intro l
  induction l with
  | nil => intro b off k r hF hb hm e; exact ⟨b, .nil hb hm off, e⟩
  | cons v l ih =>
    intro b off k r hF hb hm e
    obtain ⟨_, b1, s1, e1⟩ := wrCell_ok hb (show wrCell b off v (fun b => wrCells l b (Nat.succ off) k) = .ok r hF from e)
    obtain ⟨b2, s2, e2⟩ := ih s1.ok s1.map e1
    exact ⟨b2, by simpa using s1.append (by simpa using s2), e2⟩
theorem wrRow_ok {b : Body} (hb : BodyOk b) {n off : Nat} {l : List AV} (hl : l.length = n) {k : Body → Out} {r : AV} {hF : Hp} (e : wrRow b n off l k = .ok r hF) :
    b.isMap = false ∧ ∃ b', WrSpec b off l b' ∧ k b' = .ok r hF := by
  cases b with
  | map l => cases e
  | lop _ _ _ => cases e
  | itr _ => cases e
  | byt m len => exact ⟨rfl, wrCells_ok hb rfl (show wrCells l (.byt m len) off k = .ok r hF from e)⟩
  | arr t es len z =>
    refine ⟨rfl, ?_⟩
    have e' : Bool.rec (motive := fun _ => PT (List AV) → Nat → Nat → List AV → Nat → List AV → (Body → Out) → Out) (fun t es len z off l k => wrCells l (.arr t es len z) off k)
      (fun t es len z off l k => natK (Nat.div off es) fun i => bc (Nat.blt i len) (k (.arr (rwSet t (Pth.ofNat i) (some l)) es len z)) (.no 41))
      (Bool.rec (fun _ => false) (fun b => b) (Nat.beq n es) (Nat.beq (Nat.mod off es) 0)) t es len z off l k = .ok r hF := e
    cases h1 : Nat.beq n es with
    | false => rw [h1] at e'; exact wrCells_ok hb rfl e'
    | true =>
      rw [h1] at e'
      cases h2 : Nat.beq (Nat.mod off es) 0 with
      | false => rw [h2] at e'; exact wrCells_ok hb rfl e'
      | true =>
        rw [h2] at e'
        have hn : n = es := Nat.eq_of_beq_eq_true h1
        have hz : off % es = 0 := Nat.eq_of_beq_eq_true h2
        subst hn
        have e2 : natK (Nat.div off n) (fun i => bc (Nat.blt i len) (k (.arr (rwSet t (Pth.ofNat i) (some l)) n len z)) (.no 41)) = .ok r hF := e'
        rw [natK_eq] at e2
        obtain ⟨h3, e3⟩ := bc_ok e2
        have hlt : off / n < len := by have : Nat.div off n < len := by simpa [Nat.blt_eq] using h3
                                       exact this
        rw [rwSet_eq] at e3
        refine ⟨_, ?_, e3⟩
        have hoff : off = n * (off / n) := by have := Nat.div_add_mod off n; omega
        have hmax : n * (off / n) + n ≤ n * len := by rw [← Nat.mul_succ]; exact Nat.mul_le_mul_left n hlt
        change WrSpec (.arr t n len z) off l (.arr (t.upd (Pth.ofNat (off / n)) (some l)) n len z)
        rcases Nat.eq_zero_or_pos n with h0 | hpos
        · subst h0
          have : l = [] := List.eq_nil_of_length_eq_zero hl
          subst this
          refine ⟨row_put hb rfl _, rfl, fun j hj => by simp at hj, fun i => ?_⟩
          simp [Body.cell?]
        refine ⟨row_put hb hl _, rfl, ?_, ?_⟩
        · intro j hj
          have hjn : j < n := by omega
          have hd : (off + j) / n = off / n := by
            rw [hoff, Nat.mul_add_div (by omega), Nat.div_eq_of_lt hjn, Nat.mul_div_cancel_left _ (by omega)]; omega
          have hmod : (off + j) % n = j := by rw [hoff, Nat.mul_add_mod, Nat.mod_eq_of_lt hjn]
          rw [cell_arr_row (by omega), hd, hmod]
          cases hk : t.look (Pth.ofNat (off / n)) with
          | none => simp [hb.1, hjn]
          | some row => simp [hb.2 _ _ hk, hjn]
        · intro i
          by_cases hi : i < n * len
          · rw [cell_arr_row hi, cell_arr_row hi, look_upd]
            have hdm := Nat.div_add_mod i n
            have hml := Nat.mod_lt i hpos
            by_cases hq : i / n = off / n
            · rw [hq, if_pos rfl]
              have hge : off ≤ i := by rw [hoff, ← hdm, hq]; omega
              have hlt2 : i < off + l.length := by rw [hl]; rw [hq] at hdm; omega
              rw [if_pos ⟨hge, hlt2⟩]
              simp only [Option.getD_some]
              congr 1
              rw [hq] at hdm; omega
            · rw [if_neg (fun h => hq (ofNat_inj h)), if_neg]
              intro ⟨h4, h5⟩
              apply hq
              rw [hl] at h5
              have h6 : i - off < n := by omega
              have : i = n * (off / n) + (i - off) := by omega
              rw [this, Nat.mul_add_div hpos, Nat.div_eq_of_lt h6]; omega
          · have h1 : (Body.arr t n len z).cell? i = none := by simp [Body.cell?, hi]
            have h2 : (Body.arr (t.upd (Pth.ofNat (off / n)) (some l)) n len z).cell? i = none := by simp [Body.cell?, hi]
            rw [h1, h2, if_neg (by rw [hl]; omega)]
theorem wrRows_ok {es : Nat} : ∀ {rows : List (List AV)} {b : Body} {off : Nat} {k : Body → Out} {r : AV} {hF : Hp}, BodyOk b → b.isMap = false → (∀ row ∈ rows, row.length = es) → wrRows rows es b off k = .ok r hF → ∃ b', WrSpec b off rows.flatten b' ∧ k b' = .ok r hF := by
  intro rows
  induction rows with
  | nil => intro b off k r hF hb hm _ e; exact ⟨b, .nil hb hm off, e⟩
  | cons row rows ih =>
    intro b off k r hF hb hm hl e
    obtain ⟨_, b1, s1, e1⟩ := wrRow_ok hb (hl row (by simp)) (show wrRow b es off row (fun b => wrRows rows es b (Nat.add off es) k) = .ok r hF from e)
    obtain ⟨b2, s2, e2⟩ := ih s1.ok s1.map (fun x hx => hl x (by simp [hx])) e1
    refine ⟨b2, ?_, e2⟩
    rw [List.flatten_cons]
    exact s1.append (by rw [hl row (by simp)]; exact s2)
theorem wrBytes_ok {b : Body} (hb : BodyOk b) {off : Nat} {xs : List UInt8} {k : Body → Out} {r : AV} {hF : Hp} (e : wrBytes b off xs.length (leNat xs) k = .ok r hF) :
    b.isMap = false ∧ ∃ b', WrSpecX b off (xs.map fun x => .int .u8 (Int.ofNat x.toNat)) b' ∧ k b' = .ok r hF := by
  cases b with
  | map l => cases e
  | lop _ _ _ => cases e
  | itr _ => cases e
  | arr t es len z => cases e
  | byt n len =>
    have e' : bc (Nat.ble (Nat.add off xs.length) len) (natK (Nat.add (Nat.add (Nat.mod n (Nat.shiftLeft 1 (Nat.mul 8 off))) (Nat.shiftLeft (leNat xs) (Nat.mul 8 off))) (Nat.shiftLeft (Nat.shiftRight n (Nat.mul 8 (Nat.add off xs.length))) (Nat.mul 8 (Nat.add off xs.length)))) fun c => k (.byt c len))
      (bc (Nat.ble off len) (natK (Nat.add (Nat.mod n (Nat.shiftLeft 1 (Nat.mul 8 off))) (Nat.shiftLeft (leNat xs) (Nat.mul 8 off))) fun c => natK (Nat.add off xs.length) fun l => k (.byt c l)) (.no 41)) = .ok r hF := e
    obtain ⟨bs, rfl, rfl⟩ := bytes_of hb
    rw [bc_eq] at e'
    split at e'
    · rename_i h1
      have e2 := e'
      have hle : off + xs.length ≤ bs.length := Nat.le_of_ble_eq_true h1
      rw [natK_eq, shl8, shl8, shl8, shr8, Nat.one_mul] at e2
      have hN : Nat.add (Nat.add (Nat.mod (leNat bs) (256 ^ off)) (leNat xs * 256 ^ off)) (leNat bs / 256 ^ Nat.add off xs.length * 256 ^ Nat.add off xs.length) = leNat (bs.take off ++ xs ++ bs.drop (off + xs.length)) := by
        show leNat bs % 256 ^ off + leNat xs * 256 ^ off + leNat bs / 256 ^ (off + xs.length) * 256 ^ (off + xs.length) = _
        rw [leNat_append, leNat_append, leNat_take, leNat_drop _ _ hle, List.length_append, List.length_take, Nat.min_eq_left (by omega)]
      rw [hN] at e2
      have hlen : (bs.take off ++ xs ++ bs.drop (off + xs.length)).length = bs.length := by simp; omega
      refine ⟨rfl, .byt (leNat (bs.take off ++ xs ++ bs.drop (off + xs.length))) bs.length, ⟨?_, rfl, ?_⟩, e2⟩
      · have := leNat_lt (bs.take off ++ xs ++ bs.drop (off + xs.length)); rw [hlen] at this; exact this
      · intro i
        have e1 := cell_byt (bs.take off ++ xs ++ bs.drop (off + xs.length)) i
        rw [hlen] at e1
        rw [e1, cell_byt, List.length_map]
        by_cases h4 : i < off
        · rw [if_neg (by omega), List.append_assoc, List.getElem?_append_left (by simp; omega), List.getElem?_take_of_lt h4]
        · by_cases h5 : i < off + xs.length
          · rw [if_pos ⟨by omega, h5⟩, List.append_assoc, List.getElem?_append_right (by simp; omega), List.getElem?_append_left (by simp; omega), List.getElem?_map]
            congr 2; simp; omega
          · rw [if_neg (by omega), List.getElem?_append_right (by simp; omega), List.getElem?_drop]
            congr 2; simp; omega
    · rename_i h1
      obtain ⟨h2, e2⟩ := bc_ok e'
      have hle : off ≤ bs.length := Nat.le_of_ble_eq_true h2
      have hgt : bs.length < off + xs.length := by
        rcases Nat.lt_or_ge bs.length (off + xs.length) with h | h
        · exact h
        · exact absurd (Nat.ble_eq_true_of_le h) h1
      rw [natK_eq, natK_eq, shl8, shl8, Nat.one_mul] at e2
      have hN : Nat.add (Nat.mod (leNat bs) (256 ^ off)) (leNat xs * 256 ^ off) = leNat (bs.take off ++ xs) := by
        show leNat bs % 256 ^ off + leNat xs * 256 ^ off = _
        rw [leNat_append, leNat_take, List.length_take, Nat.min_eq_left hle]
      rw [hN] at e2
      have hlen : (bs.take off ++ xs).length = off + xs.length := by simp; omega
      refine ⟨rfl, _, ⟨?_, rfl, ?_⟩, e2⟩
      · have := leNat_lt (bs.take off ++ xs); rw [hlen] at this; exact this
      · intro i
        have e1 := cell_byt (bs.take off ++ xs) i
        rw [hlen] at e1
        show (Body.byt (leNat (bs.take off ++ xs)) (off + xs.length)).cell? i = _
        rw [e1, cell_byt, List.length_map]
        by_cases h4 : i < off
        · rw [if_neg (by omega), List.getElem?_append_left (by simp; omega), List.getElem?_take_of_lt h4]
        · by_cases h5 : i < off + xs.length
          · rw [if_pos ⟨by omega, h5⟩, List.getElem?_append_right (by simp; omega), List.getElem?_map]
            congr 2; simp; omega
          · rw [if_neg (by omega), List.getElem?_eq_none (by rw [hlen]; omega), List.getElem?_eq_none (by omega)]
end Go.Am

namespace Go.Am
open Go

theorem look_put (h : Hp) (f : Pth) (x : Option Fam) (g : Pth) : (putFam h f x).look g = if g = f then x else h.look g := by
  obtain ⟨nx, t⟩ := h
  show (hpSet t f x).look g = _
  rw [hpSet_eq, look_upd]; rfl
theorem nx_put (h : Hp) (f : Pth) (x : Option Fam) : (putFam h f x).nx = h.nx := by cases h; rfl
theorem minN_eq (a b : Nat) : minN a b = min a b := by
  unfold minN
  cases h : Nat.ble a b with
  | true => have := Nat.le_of_ble_eq_true h; show a = _; omega
  | false => have : ¬ a ≤ b := fun k => by rw [Nat.ble_eq_true_of_le k] at h; cases h
             show b = _; omega
theorem wrote_eq (F : Fam) (off : Nat) (b : Body) : F.wrote off b = ⟨F.elem, F.ep, min F.old off, b⟩ := by
  obtain ⟨e, ep, old, body⟩ := F
  show Fam.mk e ep (minN old off) b = _; rw [minN_eq]

theorem heap_setCells_other (b : Nat) : ∀ (vs : List Value) (o : Nat) (w : World) (k : Nat), k ≠ b → (w.setCells b o vs).heap[k]? = w.heap[k]? := by
  intro vs
  induction vs with
  | nil => intro o w k _; rfl
  | cons v vs ih => intro o w k h; rw [World.setCells, ih _ _ _ h, heap_setCell_other _ _ _ _ h]
theorem setCells_size (b : Nat) : ∀ (vs : List Value) (o : Nat) (w : World), (w.setCells b o vs).heap.size = w.heap.size := by
  intro vs
  induction vs with
  | nil => intro o w; rfl
  | cons v vs ih => intro o w; rw [World.setCells, ih]; simp
theorem setCells_rest (b : Nat) : ∀ (vs : List Value) (o : Nat) (w : World), (w.setCells b o vs).os = w.os ∧ (w.setCells b o vs).tape = w.tape ∧ (w.setCells b o vs).output = w.output := by
  intro vs
  induction vs with
  | nil => intro o w; exact ⟨rfl, rfl, rfl⟩
  | cons v vs ih => intro o w; exact ih _ _
theorem blk_setCell {w : World} {b o k cs : Nat} {v : Value} (h : BlkOk w k cs) : BlkOk (w.setCell ⟨b, o, none⟩ v) k cs := by
  obtain ⟨c, el, fz, h1, h2, h3⟩ := h
  by_cases hk : k = b
  · subst hk
    obtain ⟨lo, hi⟩ := fz
    refine ⟨c.setIfInBounds o v, el, (lo, hi), ?_, by simpa using h2, h3⟩
    simp only [World.setCell, Array.getElem?_modify, if_true, h1]; rfl
  · exact ⟨c, el, fz, by rw [heap_setCell_other _ _ _ _ hk]; exact h1, h2, h3⟩
theorem blk_setCells (b : Nat) : ∀ (vs : List Value) (o : Nat) {w : World} {k cs : Nat}, BlkOk w k cs → BlkOk (w.setCells b o vs) k cs := by
  intro vs
  induction vs with
  | nil => intro o w k cs h; exact h
  | cons v vs ih => intro o w k cs h; exact ih _ (blk_setCell h)
theorem frozen_blk {w : World} {b cs i : Nat} {u : Value} (h : BlkOk w b cs) (hc : w.cell? ⟨b, i, none⟩ = some u) : w.frozen? ⟨b, i, none⟩ = false ∧ i < cs := by
  obtain ⟨c, el, ⟨lo, hi⟩, h1, h2, h3⟩ := h
  have hi' : i < c.size := by
    simp only [World.cell?, h1] at hc
    simp at hc
    exact (Array.getElem?_eq_some_iff.1 hc).1
  refine ⟨?_, by omega⟩
  simp only [World.frozen?, h1]
  simp only [Bool.and_eq_false_iff, decide_eq_false_iff_not]
  rcases h3 with h3 | h3 <;> simp at h3 <;> omega

theorem el_setCells (b : Nat) {k : Nat} {el : Nat} : ∀ (vs : List Value) (o : Nat) {w : World}, (∃ c fz, w.heap[k]? = some (.cells c el fz)) → ∃ c fz, (w.setCells b o vs).heap[k]? = some (.cells c el fz) := by
  intro vs
  induction vs with
  | nil => intro o w h; exact h
  | cons v vs ih =>
    intro o w h
    refine ih _ ?_
    obtain ⟨c, fz, h1⟩ := h
    by_cases hk : k = b
    · subst hk
      obtain ⟨lo, hi⟩ := fz
      exact ⟨c.setIfInBounds o v, (lo, hi), by simp only [World.setCell, Array.getElem?_modify, if_true, h1]; rfl⟩
    · exact ⟨c, fz, by rw [heap_setCell_other _ _ _ _ hk]; exact h1⟩
/-- a write of cells, into the family's newest place -/
theorem Rel.writeX {ρ : Rho} {h : Hp} {w : World} (R : Rel ρ h.look w) {f : Pth} {F : Fam} (hF : h.look f = some F) (hwr : F.old ≤ big) (hm : F.body.isMap = false) {x : Nat × Nat × Nat} (hx : ρ f F.ep = some x)
    {off : Nat} {l : List AV} {b' : Body} (S : WrSpecX F.body off l b') {vs : List Value} (hv : VRs ρ l vs) (hf : ∀ v ∈ vs, v.oneCell' = true) (hex : ∀ j, j < vs.length → ∃ u, w.cell? ⟨x.1, x.2.1 + off + j, none⟩ = some u) :
    (∀ j, j < vs.length → (w.cell? ⟨x.1, x.2.1 + off + j, none⟩).isSome = true) ∧ (∀ j, j < vs.length → w.frozen? ⟨x.1, x.2.1 + off + j, none⟩ = false) ∧
    Tr ρ h w ρ (putFam h f (some (F.wrote off b'))) (w.setCells x.1 (x.2.1 + off) vs) := by
  have hlen := hv.length
  have FR := R.fam f F hF
  have hblk := (FR.arr hm _ _ hx).1
  have hsome : ∀ j, j < vs.length → (w.cell? ⟨x.1, x.2.1 + off + j, none⟩).isSome = true := fun j hj => by obtain ⟨u, hu⟩ := hex j hj; rw [hu]; rfl
  refine ⟨hsome, fun j hj => by obtain ⟨u, hu⟩ := hex j hj; exact (frozen_blk hblk hu).1, ?_⟩
  have hrest := setCells_rest x.1 vs (x.2.1 + off) w
  have hlook : ∀ g, (putFam h f (some (F.wrote off b'))).look g = if g = f then some (F.wrote off b') else h.look g := look_put h f _
  have hother : ∀ g G e y, h.look g = some G → g ≠ f → ρ g e = some y → y.1 ≠ x.1 := by
    intro g G e y hg hne hy heq
    exact hne (R.sep g G e y f F F.ep x hg hF hy hx heq).1
  -- a cell of a place of f behind the write
  have hcell : ∀ e y i v, ρ f e = some y → b'.cell? i = some v → (e = F.ep ∨ i < min F.old off) → CellR ρ (w.setCells x.1 (x.2.1 + off) vs) y.1 (y.2.1 + i) v := by
    intro e y i v hy hi ho
    by_cases hin : off ≤ i ∧ i < off + l.length
    · have he : e = F.ep := by rcases ho with ho | ho
                               · exact ho
                               · omega
      subst he
      rw [hx] at hy; cases hy
      rw [S.cell, if_pos hin] at hi
      obtain ⟨u, hu, hr⟩ := hv.get hi
      have hj : i - off < vs.length := (List.getElem?_eq_some_iff.1 hu).1
      refine ⟨u, ?_, hr, hf u (List.mem_of_getElem? hu)⟩
      have := World.cell?_setCells_in x.1 vs (x.2.1 + off) w hsome (i - off) hj
      rw [show x.2.1 + i = x.2.1 + off + (i - off) by omega, this, ← hu, List.getElem?_eq_getElem hj]
    · rw [S.cell, if_neg hin] at hi
      obtain ⟨u, hu, h2⟩ := R.read hF hm hy hi (by rcases ho with ho | ho
                                                   · exact .inl ho
                                                   · exact .inr (by omega))
      refine ⟨u, ?_, h2⟩
      rw [World.cell?_setCells_out, hu]
      intro hb _
      have hbase := (R.sep f F e y f F F.ep x hF hF hy hx hb).2
      show y.2.1 + i < x.2.1 + off ∨ x.2.1 + off + vs.length ≤ y.2.1 + i
      rw [hbase]; omega
  refine ⟨⟨?_, ?_, ?_⟩, Le.refl ρ, fun g e y h1 h2 => (by rw [h1] at h2; cases h2), by rw [nx_put]; exact Nat.le_refl _, ?_, ?_, by rw [setCells_size]; exact Nat.le_refl _, hrest.1, hrest.2.1, hrest.2.2, ?_⟩
  rotate_right
  · intro g G hG hb
    rw [hlook] at hG
    split at hG
    · rename_i he; subst he; exact .inl ⟨F, hF, hwr⟩
    · exact .inl ⟨G, hG, hb⟩
  · intro g G hG
    rw [hlook] at hG
    by_cases hgf : g = f
    · subst hgf
      rw [if_pos rfl] at hG; cases hG
      rw [wrote_eq]
      refine ⟨S.ok, FR.cur, FR.le, fun l hl => ?_, fun _ e y hy => ⟨blk_setCells _ _ _ (FR.arr hm e y hy).1, fun i v hi ho => hcell e y i v hy hi ho⟩, fun st p d hl => ?_, fun k hk _ e y hy => ?_, fun m hm => ?_⟩
      · have := S.map
        rw [show b' = Body.map l from hl] at this; cases this
      · have := S.map
        rw [show b' = Body.lop st p d from hl] at this; cases this
      · obtain ⟨h1, h2⟩ := FR.el k hk hwr e y hy
        exact ⟨h1, el_setCells _ _ _ h2⟩
      · have := S.map
        rw [show b' = Body.itr m from hm] at this; cases this
    · rw [if_neg hgf] at hG
      exact (R.fam g G hG).mono (Le.refl ρ) (fun _ _ h => h) fun e y hy => heap_setCells_other _ _ _ _ _ (hother g G e y hG hgf hy)
  · have hl2 : ∀ g G, (putFam h f (some (F.wrote off b'))).look g = some G → ∃ G', h.look g = some G' := by
      intro g G hG
      rw [hlook] at hG
      split at hG
      · rename_i he; subst he; exact ⟨F, hF⟩
      · exact ⟨G, hG⟩
    intro g G e y g' G' e' y' h1 h2 h3 h4 h5
    obtain ⟨A, hA⟩ := hl2 g G h1
    obtain ⟨B, hB⟩ := hl2 g' G' h2
    exact R.sep g A e y g' B e' y' hA hB h3 h4 h5
  · intro g e y hy; rw [setCells_size]; exact R.lt g e y hy
  · intro g G hG
    rw [hlook] at hG
    split at hG
    · rename_i he; subst he; exact .inl ⟨F, hF⟩
    · exact .inl ⟨G, hG⟩
  · intro k hk hno
    refine heap_setCells_other _ _ _ _ _ ?_
    intro he
    exact hno f F F.ep x hF hwr hx he.symm

theorem Rel.write {ρ : Rho} {h : Hp} {w : World} (R : Rel ρ h.look w) {f : Pth} {F : Fam} (hF : h.look f = some F) (hwr : F.old ≤ big) (hm : F.body.isMap = false) {x : Nat × Nat × Nat} (hx : ρ f F.ep = some x)
    {off : Nat} {l : List AV} {b' : Body} (S : WrSpec F.body off l b') {vs : List Value} (hv : VRs ρ l vs) (hf : ∀ v ∈ vs, v.oneCell' = true) :
    (∀ j, j < vs.length → (w.cell? ⟨x.1, x.2.1 + off + j, none⟩).isSome = true) ∧ (∀ j, j < vs.length → w.frozen? ⟨x.1, x.2.1 + off + j, none⟩ = false) ∧
    Tr ρ h w ρ (putFam h f (some (F.wrote off b'))) (w.setCells x.1 (x.2.1 + off) vs) := by
  have hlen := hv.length
  have hex : ∀ j, j < vs.length → ∃ u, w.cell? ⟨x.1, x.2.1 + off + j, none⟩ = some u := by
    intro j hj
    obtain ⟨v, hv⟩ := Option.isSome_iff_exists.1 (S.has j (by omega))
    obtain ⟨u, hu, _⟩ := R.read hF hm hx hv (.inl rfl)
    exact ⟨u, by rw [show x.2.1 + off + j = x.2.1 + (off + j) by omega]; exact hu⟩
  exact R.writeX hF hwr hm hx S.toX hv hf hex

/-! ### New families -/
theorem alloc_new (w : World) (o : Obj) : (w.alloc o).heap[w.heap.size]? = some o := by
  show (w.heap.push o)[w.heap.size]? = _; rw [Array.getElem?_push, if_pos rfl]
theorem alloc_old (w : World) (o : Obj) (k : Nat) (h : k < w.heap.size) : (w.alloc o).heap[k]? = w.heap[k]? := by
  show (w.heap.push o)[k]? = _; rw [Array.getElem?_push, if_neg (by omega)]
def upd1 (ρ : Rho) (id : Pth) (e : Nat) (x : Nat × Nat × Nat) : Rho := fun f e' => if f = id ∧ e' = e then some x else ρ f e'
theorem upd1_same (ρ : Rho) (id : Pth) (e : Nat) (x : Nat × Nat × Nat) : upd1 ρ id e x id e = some x := by simp [upd1]
theorem upd1_le {ρ : Rho} {id : Pth} {e : Nat} {x : Nat × Nat × Nat} (h : ρ id e = none) : Le ρ (upd1 ρ id e x) := by
  intro f e' y hy
  unfold upd1
  split
  · rename_i hc; obtain ⟨rfl, rfl⟩ := hc; rw [h] at hy; cases hy
  · exact hy
theorem upd1_inv {ρ : Rho} {id : Pth} {e : Nat} {x : Nat × Nat × Nat} {f : Pth} {e' : Nat} {y : Nat × Nat × Nat} (h : upd1 ρ id e x f e' = some y) : (f = id ∧ e' = e ∧ y = x) ∨ ρ f e' = some y := by
  unfold upd1 at h
  split at h
  · rename_i hc; cases h; exact .inl ⟨hc.1, hc.2, rfl⟩
  · exact .inr h
/-- what is asked of a new block for a family -/
def NewOk (ρ : Rho) (o : Obj) (cs el : Nat) (b : Body) : Prop :=
  BodyOk b ∧ (((b = .map [] ∧ o = .map #[] 0) ∨ (∃ d r, b = .lop 0 .nrm d ∧ o = .loop r ∧ LopR ρ 0 .nrm d r) ∨ ∃ m mo since last, b = .itr m ∧ o = .mapIter mo since #[] last ∧ ItrR ρ m mo) ∨ (b.isMap = false ∧ ∃ c el fz, o = .cells c el fz ∧ (fz.1 = fz.2 ∨ cs ≤ fz.1) ∧ c.size = cs ∧ ∀ i v, b.cell? i = some v → ∃ v', c[i]? = some v' ∧ VR ρ v v' ∧ v'.oneCell' = true)) ∧ ∀ k, el = k + 1 → ∃ c fz, o = .cells c k fz
theorem Rel.allocG {ρ : Rho} {g : Pth → Option Fam} {w w0 : World} (R : Rel ρ g w) (hw : w0.heap = w.heap) {id : Pth} (hn : ∀ e, ρ id e = none) {el : Nat} {b : Body} {o : Obj} {cs : Nat} (N : NewOk ρ o cs el b) :
    Rel (upd1 ρ id 0 (w.heap.size, 0, cs)) (fun f => if f = id then some ⟨el, 0, big, b⟩ else g f) (w0.alloc o) := by
  have hle : Le ρ (upd1 ρ id 0 (w.heap.size, 0, cs)) := upd1_le (hn 0)
  have hsz : w0.heap.size = w.heap.size := by rw [hw]
  have hnew : (w0.alloc o).heap[w.heap.size]? = some o := by rw [← hsz]; exact alloc_new w0 o
  have hold : ∀ k, k < w.heap.size → (w0.alloc o).heap[k]? = w.heap[k]? := fun k hk => by rw [alloc_old w0 o k (by omega), hw]
  refine ⟨?_, ?_, ?_⟩
  · intro f F hF
    by_cases hf : f = id
    · subst hf
      rw [if_pos rfl] at hF; cases hF
      have hinv : ∀ e y, upd1 ρ f 0 (w.heap.size, 0, cs) f e = some y → e = 0 ∧ y = (w.heap.size, 0, cs) := by
        intro e y hy
        rcases upd1_inv hy with ⟨_, h1, h2⟩ | h1
        · exact ⟨h1, h2⟩
        · rw [hn] at h1; cases h1
      refine ⟨N.1, ⟨_, upd1_same _ _ _ _⟩, fun e y hy => by rw [(hinv e y hy).1]; exact Nat.le_refl _, ?_, ?_, ?_, fun k hk _ e y hy => ?_, fun m hm => ?_⟩
      · intro l hl
        simp only at hl
        rcases N.2.1 with (⟨h1, h2⟩ | ⟨d, r, h1, _⟩ | ⟨m0, mo, si, la, h1, _⟩) | ⟨h1, _⟩
        · rw [h1] at hl; cases hl
          subst h2
          exact ⟨rfl, _, #[], 0, upd1_same _ _ _ _, hnew, ⟨trivial, trivial⟩, Born.nil⟩
        · rw [h1] at hl; cases hl
        · rw [h1] at hl; cases hl
        · rw [hl] at h1; cases h1
      · intro hm e y hy
        obtain ⟨rfl, rfl⟩ := hinv e y hy
        simp only at hm
        rcases N.2.1 with (⟨h1, _⟩ | ⟨d, r, h1, _⟩ | ⟨m0, mo, si, la, h1, _⟩) | ⟨_, c, el', fz, h2, hfz, h3, h4⟩
        · rw [h1] at hm; cases hm
        · rw [h1] at hm; cases hm
        · rw [h1] at hm; cases hm
        · subst h2
          refine ⟨⟨c, el', fz, hnew, h3, hfz⟩, fun i v hi _ => ?_⟩
          obtain ⟨v', h5, h6, h7⟩ := h4 i v hi
          refine ⟨v', ?_, VR.mono hle _ _ h6, h7⟩
          show (w0.alloc _).cell? ⟨w.heap.size, 0 + i, none⟩ = some v'
          rw [Nat.zero_add]; unfold World.cell?; rw [hnew]; simpa using h5
      · intro st p d hl
        simp only at hl
        rcases N.2.1 with (⟨h1, _⟩ | ⟨d', r, h1, h2, h3⟩ | ⟨m0, mo, si, la, h1, _⟩) | ⟨h1, _⟩
        · rw [h1] at hl; cases hl
        · rw [h1] at hl; cases hl
          subst h2
          exact ⟨rfl, _, r, upd1_same _ _ _ _, hnew, h3.mono hle⟩
        · rw [h1] at hl; cases hl
        · rw [hl] at h1; cases h1
      · obtain ⟨rfl, rfl⟩ := hinv e y hy
        obtain ⟨c, fz, ho⟩ := N.2.2 k hk
        subst ho
        exact ⟨rfl, c, fz, hnew⟩
      · simp only at hm
        rcases N.2.1 with (⟨h1, _⟩ | ⟨d', r, h1, _⟩ | ⟨m0, mo, si, la, h1, h2, h3⟩) | ⟨h1, _⟩
        · rw [h1] at hm; cases hm
        · rw [h1] at hm; cases hm
        · rw [h1] at hm; cases hm
          subst h2
          exact ⟨rfl, _, mo, si, la, upd1_same _ _ _ _, hnew, h3.mono hle, rfl⟩
        · rw [hm] at h1; cases h1
    · rw [if_neg hf] at hF
      refine (R.fam f F hF).mono hle (fun e y hy => ?_) fun e y hy => hold _ (R.lt f e y hy)
      rcases upd1_inv hy with ⟨h1, _⟩ | h1
      · exact absurd h1 hf
      · exact h1
  · intro f F e x f' F' e' x' h1 h2 h3 h4 h5
    rcases upd1_inv h3 with ⟨a1, a2, a3⟩ | a <;> rcases upd1_inv h4 with ⟨b1, b2, b3⟩ | b
    · subst a3; subst b3; exact ⟨a1.trans b1.symm, rfl⟩
    · subst a3; have := R.lt f' e' x' b; simp at h5; omega
    · subst b3; have := R.lt f e x a; simp at h5; omega
    · have hf : f ≠ id := fun he => by rw [he, hn] at a; cases a
      have hf' : f' ≠ id := fun he => by rw [he, hn] at b; cases b
      rw [if_neg hf] at h1; rw [if_neg hf'] at h2
      exact R.sep f F e x f' F' e' x' h1 h2 a b h5
  · intro f e x hx
    rw [World.size_alloc, hsz]
    rcases upd1_inv hx with ⟨_, _, h1⟩ | h1
    · subst h1; exact Nat.lt_succ_self _
    · exact Nat.lt_succ_of_lt (R.lt f e x h1)
theorem newFam_ok {h : Hp} {e : Nat} {b : Body} {k : Pth → Hp → Out} {r : AV} {hF : Hp} (hh : newFam h e b k = .ok r hF) : k h.nx ⟨h.nx.succ, h.t.upd h.nx (some ⟨e, 0, big, b⟩)⟩ = .ok r hF := by
  obtain ⟨nx, t⟩ := h
  have : k nx ⟨nx.succ, hpSet t nx (some ⟨e, 0, big, b⟩)⟩ = .ok r hF := hh
  rw [hpSet_eq] at this; exact this
noncomputable def grow (h : Hp) (F : Fam) : Hp := ⟨h.nx.succ, h.t.upd h.nx (some F)⟩
theorem look_grow (h : Hp) (F : Fam) : (grow h F).look = fun f => if f = h.nx then some F else h.look f := by
  funext f; exact look_upd _ _ _ _
theorem Rel.alloc {ρ : Rho} {h : Hp} {w w0 : World} (R : Rel ρ h.look w) (hw : w0.heap = w.heap) (hos : w0.os = w.os) (ht : w0.tape = w.tape) (hout : w0.output = w.output) {el : Nat} {b : Body} {o : Obj} {cs : Nat}
    (hfr : Fresh ρ h (grow h ⟨el, 0, big, b⟩)) (N : NewOk ρ o cs el b) :
    Tr ρ h w (upd1 ρ h.nx 0 (w.heap.size, 0, cs)) (grow h ⟨el, 0, big, b⟩) (w0.alloc o) := by
  have hn : ∀ e, ρ h.nx e = none := fun e => hfr h.nx e (Nat.le_refl _) (by show _ < (Pth.succ h.nx).toNat; rw [Pth.toNat_succ]; omega)
  have hsz : w0.heap.size = w.heap.size := by rw [hw]
  have hnx : (grow h ⟨el, 0, big, b⟩).nx.toNat = h.nx.toNat + 1 := Pth.toNat_succ _
  refine ⟨by rw [look_grow]; exact R.allocG hw hn N, upd1_le (hn 0), ?_, by omega, ?_, ?_, by rw [World.size_alloc]; omega, hos, ht, hout, ?_⟩
  rotate_right
  · intro f F hF hb
    rw [look_grow] at hF
    by_cases hf : f = h.nx
    · subst hf; exact .inr ⟨Nat.le_refl _, by omega⟩
    · exact .inl ⟨F, by simpa [hf] using hF, hb⟩
  · intro f e x h1 h2
    rcases upd1_inv h1 with ⟨a, _, c⟩ | h3
    · subst a; subst c; exact ⟨.inl ⟨Nat.le_refl _, by omega⟩, .inl (Nat.le_refl _)⟩
    · rw [h3] at h2; cases h2
  · intro f F hF
    rw [look_grow] at hF
    by_cases hf : f = h.nx
    · subst hf; exact .inr ⟨Nat.le_refl _, by omega⟩
    · exact .inl ⟨F, by simpa [hf] using hF⟩
  · intro k hk _
    rw [alloc_old w0 o k (by omega), hw]
end Go.Am

namespace Go.Am
open Go

theorem wrap_small (k : IntKind) (n : Nat) (h : n ≤ maxN k) : k.wrap (Int.ofNat n) = Int.ofNat n := by
  have : (Int.ofNat n : Int) = (n : Int) := rfl
  rw [this]
  cases k <;> simp [IntKind.wrap, IntKind.bits, IntKind.signed, maxN] at * <;> omega
theorem ofNat_eq (n : Nat) : Int.ofNat n = (n : Int) := rfl
theorem fitN_eq (k : IntKind) (n : Nat) (K : KI) : fitN k n K = K (k.wrap (Int.ofNat n)) := by
  have e : fitN k n K = Bool.rec (motive := fun _ => IntKind → Nat → KI → Out) (fun k n K => K (k.wrap (Int.ofNat n))) (fun _ n K => natK n fun n => K (Int.ofNat n)) (Nat.ble n (maxN k)) k n K := rfl
  rw [e]
  cases h : Nat.ble n (maxN k) with
  | false => rfl
  | true => show natK n (fun n => K (Int.ofNat n)) = _; rw [natK_eq, wrap_small k n (Nat.le_of_ble_eq_true h)]
theorem addK_eq (k : IntKind) (a b : Int) (K : KI) : addK k a b K = K (k.wrap (a + b)) := by
  cases a with
  | negSucc m => rfl
  | ofNat m => cases b with
    | negSucc n => rfl
    | ofNat n => show fitN k (m + n) K = _; rw [fitN_eq]; rfl
theorem mulK_eq (k : IntKind) (a b : Int) (K : KI) : mulK k a b K = K (k.wrap (a * b)) := by
  cases a with
  | negSucc m => rfl
  | ofNat m => cases b with
    | negSucc n => rfl
    | ofNat n => show fitN k (m * n) K = _; rw [fitN_eq]; rfl
theorem subK_eq (k : IntKind) (a b : Int) (K : KI) : subK k a b K = K (k.wrap (a - b)) := by
  cases a with
  | negSucc m => rfl
  | ofNat m => cases b with
    | negSucc n => rfl
    | ofNat n =>
      have e : subK k (Int.ofNat m) (Int.ofNat n) K = Bool.rec (motive := fun _ => IntKind → Nat → Nat → KI → Out) (fun k m n K => K (k.wrap (Int.ofNat m - Int.ofNat n))) (fun k m n K => fitN k (Nat.sub m n) K) (Nat.ble n m) k m n K := rfl
      rw [e]
      cases h : Nat.ble n m with
      | false => rfl
      | true =>
        show fitN k (m - n) K = _
        rw [fitN_eq]
        have := Nat.le_of_ble_eq_true h
        rw [show (Int.ofNat (m - n) : Int) = Int.ofNat m - Int.ofNat n from by simp only [ofNat_eq]; omega]
theorem quoK_ok {k : IntKind} {a b : Int} {K : KI} {r : AV} {h : Hp} (e : quoK k a b K = .ok r h) : b ≠ 0 ∧ K (k.wrap (a.tdiv b)) = .ok r h := by
  have gen : ∀ a b : Int, bc (decide (b = 0)) (.no 31) (K (k.wrap (Int.tdiv a b))) = .ok r h → b ≠ 0 ∧ K (k.wrap (a.tdiv b)) = .ok r h := by
    intro a b e
    rw [bc_eq] at e
    by_cases hb : b = 0
    · simp [hb] at e
    · simp [hb] at e; exact ⟨hb, e⟩
  cases a with
  | negSucc m => exact gen _ _ e
  | ofNat m => cases b with
    | negSucc n => exact gen _ _ e
    | ofNat n =>
      have e' : Bool.rec (motive := fun _ => IntKind → Nat → Nat → KI → Out) (fun k m n K => fitN k (Nat.div m n) K) (fun _ _ _ _ => .no 31) (Nat.beq n 0) k m n K = .ok r h := e
      cases hb : Nat.beq n 0 with
      | true => rw [hb] at e'; cases e'
      | false =>
        rw [hb] at e'
        have e2 : fitN k (m / n) K = .ok r h := e'
        rw [fitN_eq] at e2
        refine ⟨fun h0 => ?_, e2⟩
        have : n = 0 := by simpa using h0
        subst this; cases hb
theorem remK_ok {k : IntKind} {a b : Int} {K : KI} {r : AV} {h : Hp} (e : remK k a b K = .ok r h) : b ≠ 0 ∧ K (a.tmod b) = .ok r h := by
  have gen : ∀ a b : Int, bc (decide (b = 0)) (.no 31) (K (Int.tmod a b)) = .ok r h → b ≠ 0 ∧ K (a.tmod b) = .ok r h := by
    intro a b e
    rw [bc_eq] at e
    by_cases hb : b = 0
    · simp [hb] at e
    · simp [hb] at e; exact ⟨hb, e⟩
  cases a with
  | negSucc m => exact gen _ _ e
  | ofNat m => cases b with
    | negSucc n => exact gen _ _ e
    | ofNat n =>
      have e' : Bool.rec (motive := fun _ => Nat → Nat → KI → Out) (fun m n K => natK (Nat.mod m n) fun r => K (Int.ofNat r)) (fun _ _ _ => .no 31) (Nat.beq n 0) m n K = .ok r h := e
      cases hb : Nat.beq n 0 with
      | true => rw [hb] at e'; cases e'
      | false =>
        rw [hb] at e'
        have e2 : natK (Nat.mod m n) (fun r => K (Int.ofNat r)) = .ok r h := e'
        rw [natK_eq] at e2
        refine ⟨fun h0 => ?_, e2⟩
        have : n = 0 := by simpa using h0
        subst this; cases hb
theorem maxN_lt (k : IntKind) : maxN k < 2 ^ k.bits := by cases k <;> decide
theorem maxN_pow (k : IntKind) : ∃ j, maxN k + 1 = 2 ^ j ∧ j ≤ k.bits := by
  cases k
  · exact ⟨7, by decide, by decide⟩
  · exact ⟨15, by decide, by decide⟩
  · exact ⟨31, by decide, by decide⟩
  · exact ⟨63, by decide, by decide⟩
  · exact ⟨8, by decide, by decide⟩
  · exact ⟨16, by decide, by decide⟩
  · exact ⟨32, by decide, by decide⟩
  · exact ⟨64, by decide, by decide⟩
theorem bv_ofNat (k : IntKind) (m : Nat) (h : m ≤ maxN k) : (BitVec.ofInt k.bits (Int.ofNat m)).toNat = m := by
  have := maxN_lt k
  rw [show BitVec.ofInt k.bits (Int.ofNat m) = BitVec.ofNat k.bits m from BitVec.ofInt_natCast _ _, BitVec.toNat_ofNat, Nat.mod_eq_of_lt (by omega)]
theorem and_true {a b : Bool} (h : Bool.rec (motive := fun _ => Bool → Bool) (fun _ => false) (fun b => b) a b = true) : a = true ∧ b = true := by cases a <;> cases b <;> first | exact ⟨rfl, rfl⟩ | cases h
theorem landK_eq (k : IntKind) (a b : Int) (K : KI) : landK k a b K = K (k.wrap (BitVec.ofInt k.bits a &&& BitVec.ofInt k.bits b).toNat) := by
  cases a with
  | negSucc m => rfl
  | ofNat m => cases b with
    | negSucc n => rfl
    | ofNat n =>
      have e : landK k (Int.ofNat m) (Int.ofNat n) K = Bool.rec (motive := fun _ => IntKind → Nat → Nat → KI → Out) (fun k m n K => bitsGen (fun _ a b => a &&& b) k (Int.ofNat m) (Int.ofNat n) K) (fun _ m n K => natK (Nat.land m n) fun r => K (Int.ofNat r)) (Bool.rec (motive := fun _ => Bool → Bool) (fun _ => false) (fun b => b) (Nat.ble m (maxN k)) (Nat.ble n (maxN k))) k m n K := rfl
      rw [e]
      cases h : (Bool.rec (motive := fun _ => Bool → Bool) (fun _ => false) (fun b => b) (Nat.ble m (maxN k)) (Nat.ble n (maxN k)) : Bool) with
      | false => rfl
      | true =>
        obtain ⟨h1, h2⟩ := and_true h
        have h1 := Nat.le_of_ble_eq_true h1
        have h2 := Nat.le_of_ble_eq_true h2
        show natK (Nat.land m n) (fun r => K (Int.ofNat r)) = _
        rw [natK_eq, BitVec.toNat_and, bv_ofNat k m h1, bv_ofNat k n h2]
        have : m &&& n ≤ maxN k := Nat.le_trans Nat.and_le_left h1
        rw [show ((m &&& n : Nat) : Int) = Int.ofNat (m &&& n) from rfl, wrap_small k _ this]; rfl
theorem lorK_eq (k : IntKind) (a b : Int) (K : KI) : lorK k a b K = K (k.wrap (BitVec.ofInt k.bits a ||| BitVec.ofInt k.bits b).toNat) := by
  cases a with
  | negSucc m => rfl
  | ofNat m => cases b with
    | negSucc n => rfl
    | ofNat n =>
      have e : lorK k (Int.ofNat m) (Int.ofNat n) K = Bool.rec (motive := fun _ => IntKind → Nat → Nat → KI → Out) (fun k m n K => bitsGen (fun _ a b => a ||| b) k (Int.ofNat m) (Int.ofNat n) K) (fun _ m n K => natK (Nat.lor m n) fun r => K (Int.ofNat r)) (Bool.rec (motive := fun _ => Bool → Bool) (fun _ => false) (fun b => b) (Nat.ble m (maxN k)) (Nat.ble n (maxN k))) k m n K := rfl
      rw [e]
      cases h : (Bool.rec (motive := fun _ => Bool → Bool) (fun _ => false) (fun b => b) (Nat.ble m (maxN k)) (Nat.ble n (maxN k)) : Bool) with
      | false => rfl
      | true =>
        obtain ⟨h1, h2⟩ := and_true h
        have h1 := Nat.le_of_ble_eq_true h1
        have h2 := Nat.le_of_ble_eq_true h2
        show natK (Nat.lor m n) (fun r => K (Int.ofNat r)) = _
        rw [natK_eq, BitVec.toNat_or, bv_ofNat k m h1, bv_ofNat k n h2]
        obtain ⟨j, hj, _⟩ := maxN_pow k
        have : m ||| n < 2 ^ j := Nat.or_lt_two_pow (by omega) (by omega)
        rw [show ((m ||| n : Nat) : Int) = Int.ofNat (m ||| n) from rfl, wrap_small k _ (by omega)]; rfl
theorem xorK_eq (k : IntKind) (a b : Int) (K : KI) : xorK k a b K = K (k.wrap (BitVec.ofInt k.bits a ^^^ BitVec.ofInt k.bits b).toNat) := by
  cases a with
  | negSucc m => rfl
  | ofNat m => cases b with
    | negSucc n => rfl
    | ofNat n =>
      have e : xorK k (Int.ofNat m) (Int.ofNat n) K = Bool.rec (motive := fun _ => IntKind → Nat → Nat → KI → Out) (fun k m n K => bitsGen (fun _ a b => a ^^^ b) k (Int.ofNat m) (Int.ofNat n) K) (fun _ m n K => natK (Nat.xor m n) fun r => K (Int.ofNat r)) (Bool.rec (motive := fun _ => Bool → Bool) (fun _ => false) (fun b => b) (Nat.ble m (maxN k)) (Nat.ble n (maxN k))) k m n K := rfl
      rw [e]
      cases h : (Bool.rec (motive := fun _ => Bool → Bool) (fun _ => false) (fun b => b) (Nat.ble m (maxN k)) (Nat.ble n (maxN k)) : Bool) with
      | false => rfl
      | true =>
        obtain ⟨h1, h2⟩ := and_true h
        have h1 := Nat.le_of_ble_eq_true h1
        have h2 := Nat.le_of_ble_eq_true h2
        show natK (Nat.xor m n) (fun r => K (Int.ofNat r)) = _
        rw [natK_eq, BitVec.toNat_xor, bv_ofNat k m h1, bv_ofNat k n h2]
        obtain ⟨j, hj, _⟩ := maxN_pow k
        have : m ^^^ n < 2 ^ j := Nat.xor_lt_two_pow (by omega) (by omega)
        rw [show ((m ^^^ n : Nat) : Int) = Int.ofNat (m ^^^ n) from rfl, wrap_small k _ (by omega)]; rfl
theorem shlK_ok {k : IntKind} {a b : Int} {K : KI} {r : AV} {h : Hp} (e : shlK k a b K = .ok r h) : 0 ≤ b ∧ K (k.wrap (a * 2 ^ min b.toNat k.bits)) = .ok r h := by
  have gen : ∀ a b : Int, bc (decide (b < 0)) (.no 32) (K (k.wrap (a * (2 ^ (min b.toNat k.bits))))) = .ok r h → 0 ≤ b ∧ K (k.wrap (a * 2 ^ min b.toNat k.bits)) = .ok r h := by
    intro a b e
    rw [bc_eq] at e
    by_cases hb : b < 0
    · simp [hb] at e
    · simp [hb] at e; exact ⟨by omega, e⟩
  cases a with
  | negSucc m => exact gen _ _ e
  | ofNat m => cases b with
    | negSucc n => exact gen _ _ e
    | ofNat n =>
      have e2 : fitN k (Nat.shiftLeft m (min n k.bits)) K = .ok r h := e
      rw [fitN_eq, show Nat.shiftLeft m (min n k.bits) = m <<< (min n k.bits) from rfl, Nat.shiftLeft_eq] at e2
      refine ⟨Int.natCast_nonneg n, ?_⟩
      rw [← e2]
      congr 2
theorem shrK_ok {k : IntKind} {a b : Int} {K : KI} {r : AV} {h : Hp} (e : shrK k a b K = .ok r h) : 0 ≤ b ∧ K (a.fdiv (2 ^ min b.toNat k.bits)) = .ok r h := by
  have gen : ∀ a b : Int, bc (decide (b < 0)) (.no 32) (K (a.fdiv (2 ^ (min b.toNat k.bits)))) = .ok r h → 0 ≤ b ∧ K (a.fdiv (2 ^ min b.toNat k.bits)) = .ok r h := by
    intro a b e
    rw [bc_eq] at e
    by_cases hb : b < 0
    · simp [hb] at e
    · simp [hb] at e; exact ⟨by omega, e⟩
  cases a with
  | negSucc m => exact gen _ _ e
  | ofNat m => cases b with
    | negSucc n => exact gen _ _ e
    | ofNat n =>
      have e2 : natK (Nat.shiftRight m (min n k.bits)) (fun r => K (Int.ofNat r)) = .ok r h := e
      rw [natK_eq, show Nat.shiftRight m (min n k.bits) = m >>> (min n k.bits) from rfl, Nat.shiftRight_eq_div_pow] at e2
      refine ⟨Int.natCast_nonneg n, ?_⟩
      rw [← e2]
      congr 1
      show (Int.ofNat m).fdiv (2 ^ min n k.bits) = _
      rw [show ((2 : Int) ^ min n k.bits) = ((2 ^ min n k.bits : Nat) : Int) from by push_cast; rfl, ofNat_eq, Int.fdiv_eq_ediv_of_nonneg _ (Int.natCast_nonneg _)]
      rfl
theorem nbeq (m n : Nat) : Nat.beq m n = decide (m = n) := by
  rw [Bool.eq_iff_iff, decide_eq_true_iff]; exact ⟨Nat.eq_of_beq_eq_true, fun h => by rw [h]; exact Nat.beq_refl n⟩
theorem ieq_eq (a b : Int) (K : KB) : ieq a b K = K (a == b) := by
  cases a <;> cases b
  · rename_i m n; show K (Nat.beq m n) = _; rw [nbeq]; congr 1; rw [Bool.eq_iff_iff]; simp; omega
  · rename_i m n; show K false = _; congr 1
  · rename_i m n; show K false = _; congr 1
  · rename_i m n; show K (Nat.beq m n) = _; rw [nbeq]; congr 1; rw [Bool.eq_iff_iff]; simp
theorem blt_dec (m n : Nat) : Nat.blt m n = decide (m < n) := by
  rw [Bool.eq_iff_iff]; simp [Nat.blt_eq]
theorem ilt_eq (a b : Int) (K : KB) : ilt a b K = K (decide (a < b)) := by
  cases a <;> cases b
  · rename_i m n; show K (Nat.blt m n) = _; rw [blt_dec]; congr 1; rw [Bool.eq_iff_iff]; simp
  · rename_i m n; show K false = _; congr 1
  · rename_i m n; show K true = _; congr 1; symm; rw [decide_eq_true_iff]; simp only [ofNat_eq]; omega
  · rename_i m n; show K (Nat.blt n m) = _; rw [blt_dec]; congr 1; rw [Bool.eq_iff_iff]; simp; omega
theorem neg_eq (b : Bool) : neg b = !b := by cases b <;> rfl
theorem strEq_eq (a b : List UInt8) (K : KB) : strEq (leNat a) a.length (leNat b) b.length K = K (a == b) := by
  have e : strEq (leNat a) a.length (leNat b) b.length K = Bool.rec (motive := fun _ => Nat → Nat → KB → Out) (fun _ _ K => K false) (fun n n' K => K (Nat.beq n n')) (Nat.beq a.length b.length) (leNat a) (leNat b) K := rfl
  rw [e]
  cases h : Nat.beq a.length b.length with
  | false =>
    show K false = _
    congr 1
    symm; rw [beq_eq_false_iff_ne]
    intro h'; subst h'; rw [Nat.beq_refl] at h; cases h
  | true =>
    show K (Nat.beq (leNat a) (leNat b)) = _
    congr 1
    have hl := Nat.eq_of_beq_eq_true h
    rw [nbeq, Bool.eq_iff_iff]
    simp only [beq_iff_eq, decide_eq_true_iff]
    exact ⟨leNat_inj a b hl, fun h => by rw [h]⟩
theorem strLt_eq : ∀ (b a : List UInt8), strLt b.length (leNat a) a.length (leNat b) = Op.bytesLess a b := by
  intro b
  induction b with
  | nil => intro a; cases a <;> rfl
  | cons y b ih =>
    intro a
    cases a with
    | nil => rfl
    | cons x a =>
      have hx := x.toNat_lt
      have hy := y.toNat_lt
      have e : strLt (y :: b).length (leNat (x :: a)) (x :: a).length (leNat (y :: b)) =
        (Bool.rec (Bool.rec false (strLt b.length (Nat.shiftRight (leNat (x :: a)) 8) a.length (Nat.shiftRight (leNat (y :: b)) 8)) (Nat.beq (Nat.mod (leNat (x :: a)) 256) (Nat.mod (leNat (y :: b)) 256))) true (Nat.blt (Nat.mod (leNat (x :: a)) 256) (Nat.mod (leNat (y :: b)) 256)) : Bool) := rfl
      rw [e]
      have s1 : Nat.shiftRight (leNat (x :: a)) 8 = leNat a := by
        show leNat (x :: a) >>> 8 = _; rw [Nat.shiftRight_eq_div_pow, leNat_cons]; omega
      have s2 : Nat.shiftRight (leNat (y :: b)) 8 = leNat b := by
        show leNat (y :: b) >>> 8 = _; rw [Nat.shiftRight_eq_div_pow, leNat_cons]; omega
      have m1 : Nat.mod (leNat (x :: a)) 256 = x.toNat := by show leNat (x :: a) % 256 = _; rw [leNat_cons]; omega
      have m2 : Nat.mod (leNat (y :: b)) 256 = y.toNat := by show leNat (y :: b) % 256 = _; rw [leNat_cons]; omega
      rw [s1, s2, m1, m2, ih, blt_dec]
      simp only [Op.bytesLess]
      have c1 : decide (x < y) = decide (x.toNat < y.toNat) := by rw [Bool.eq_iff_iff]; simp [UInt8.lt_iff_toNat_lt]
      have c2 : (x == y) = Nat.beq x.toNat y.toNat := by
        rw [nbeq, Bool.eq_iff_iff]; simp [UInt8.toNat_inj]
      rw [c1, c2]
      cases decide (x.toNat < y.toNat) <;> cases Nat.beq x.toNat y.toNat <;> rfl
end Go.Am

namespace Go.Am
open Go

/-! ### Operands -/
def Gl (P : Program) (ρ : Rho) : Prop := ∀ g, g ≤ P.globals.size → ∃ cs, ρ (Pth.ofNat g) 0 = some (g, 0, cs)
theorem Gl.mono {P : Program} {ρ ρ' : Rho} (h : Le ρ ρ') (g : Gl P ρ) : Gl P ρ' := fun i hi => (g i hi).imp fun _ hc => h _ _ _ hc
/-- what the slots say: those of N stand in the tree, the others in the list -/
def StR (N : Nat) (ρ : Rho) (env : Env) (fr : Fr) (tmps : Array Value) : Prop := ∀ t v, (if Nat.testBit N t = true then fr.look (Pth.ofNat t) else env.look t) = some v → VR ρ v (tmps.getD t undef)
structure Cx (P : Program) (N : Nat) (ρ : Rho) (env : Env) (fr : Fr) (a : Act) : Prop where
  st : StR N ρ env fr a.tmps
  gl : Gl P ρ
theorem ofVal1_ok {ρ : Rho} {v : Value} {a : AV} (h : ofVal1 v = some a) : VR ρ a v ∧ v.oneCell' = true := by
  unfold ofVal1 at h
  split at h <;> first
    | (cases h; first
        | exact ⟨⟨_, rfl, rfl, rfl⟩, rfl⟩
        | exact ⟨rfl, rfl⟩)
    | (split at h
       · cases h; rename_i h1 h2; exact ⟨.inl ⟨_, _, rfl, by rw [h1]; trivial, by rw [h2]; trivial⟩, rfl⟩
       · cases h)
    | cases h
theorem ofVals_ok {ρ : Rho} : ∀ {l : List Value} {m : List AV}, ofVals l = some m → VRs ρ m l ∧ ∀ v ∈ l, v.oneCell' = true := by
  intro l
  induction l with
  | nil => intro m h; cases h; exact ⟨trivial, fun v hv => by simp at hv⟩
  | cons v l ih =>
    intro m h
    unfold ofVals at h
    split at h
    · rename_i a m' h1 h2
      cases h
      obtain ⟨r1, f1⟩ := ofVal1_ok (ρ := ρ) h1
      obtain ⟨r2, f2⟩ := ih h2
      exact ⟨⟨r1, r2⟩, fun u hu => by rcases List.mem_cons.1 hu with rfl | hu
                                      · exact f1
                                      · exact f2 u hu⟩
    · cases h
theorem ofVal_ok {ρ : Rho} {v : Value} {a : AV} (h : ofVal v = some a) : VR ρ a v := by
  unfold ofVal at h
  split at h
  · split at h
    · rename_i l hl; cases h
      obtain ⟨r, f⟩ := ofVals_ok (ρ := ρ) hl
      exact ⟨_, rfl, r, f⟩
    · cases h
  · split at h
    · rename_i l hl; cases h
      exact ⟨_, rfl, (ofVals_ok (ρ := ρ) hl).1⟩
    · cases h
  · exact (ofVal1_ok h).1
theorem opdC_ok {P : Program} {N : Nat} {x : Operand} {f : Env → Fr → (AV → Out) → Out} (hf : opdC P N x = .mk f) {env : Env} {fr : Fr} {k : AV → Out} {r : AV} {hF : Hp} (e : f env fr k = .ok r hF) :
    ∃ v, k v = .ok r hF ∧ ∀ ρ a, Cx P N ρ env fr a → VR ρ v (a.eval x) := by
  cases x with
  | tmp t =>
    have hf' : Bool.rec (motive := fun _ => Nat → OpdF) (fun t => .mk fun env _ k => Env.getK env t k) (fun t => GetF.rec (fun g => .mk fun _ fr k => g fr k) (frGetC (Pth.ofNat t))) (Nat.testBit N t) t = OpdF.mk f := hf
    cases hb : Nat.testBit N t with
    | false =>
      rw [hb] at hf'
      cases hf'
      obtain ⟨v, h1, h2⟩ := envGet_ok e
      exact ⟨v, h2, fun ρ a c => c.st t v (by rw [hb]; simpa using h1)⟩
    | true =>
      rw [hb] at hf'
      cases hg : frGetC (Pth.ofNat t) with
      | mk g =>
        have hf2 : GetF.rec (motive := fun _ => OpdF) (fun g => .mk fun _ fr k => g fr k) (frGetC (Pth.ofNat t)) = OpdF.mk f := hf'
        rw [hg] at hf2
        cases hf2
        have e2 : g fr k = .ok r hF := e
        rw [frGetC_eq _ _ hg] at e2
        cases hl : fr.look (Pth.ofNat t) with
        | none => rw [hl] at e2; cases e2
        | some v => rw [hl] at e2; exact ⟨v, e2, fun ρ a c => c.st t v (by rw [hb, if_pos rfl]; exact hl)⟩
  | const v =>
    have hf' : (match ofVal v with | some a => OpdF.mk fun _ _ k => k a | none => .mk fun _ _ _ => .no 4) = OpdF.mk f := hf
    cases ha : ofVal v with
    | none => rw [ha] at hf'; cases hf'; cases e
    | some a => rw [ha] at hf'; cases hf'; exact ⟨a, e, fun ρ _ _ => ofVal_ok ha⟩
  | global g =>
    have hf' : (match Nat.blt g P.globals.size with | true => OpdF.mk fun _ _ k => k (.ptr (Pth.ofNat g) 0 0) | false => .mk fun _ _ _ => .no 5) = OpdF.mk f := hf
    cases hb : Nat.blt g P.globals.size with
    | false => rw [hb] at hf'; cases hf'; cases e
    | true =>
      rw [hb] at hf'; cases hf'
      refine ⟨_, e, fun ρ a c => ?_⟩
      obtain ⟨cs, hc⟩ := c.gl g (Nat.le_of_lt (by simpa [Nat.blt_eq] using hb))
      exact ⟨g, 0, cs, hc, rfl⟩
  | func g =>
    have hf' : (OpdF.mk fun _ _ k => k (.fn g [] [])) = OpdF.mk f := hf
    cases hf'
    exact ⟨_, e, fun ρ a c => .inl ⟨#[], #[], rfl, trivial, trivial⟩⟩
theorem opdsC_ok {P : Program} {N : Nat} : ∀ {l : List Operand} {f : Env → Fr → (List AV → Out) → Out}, opdsC P N l = .mk f → ∀ {env : Env} {fr : Fr} {k : List AV → Out} {r : AV} {hF : Hp}, f env fr k = .ok r hF →
    ∃ vs, k vs = .ok r hF ∧ vs.length = l.length ∧ ∀ ρ a, Cx P N ρ env fr a → VRs ρ vs (l.map a.eval) := by
  intro l
  induction l with
  | nil => intro f hf env fr k r hF e; cases hf; exact ⟨[], e, rfl, fun _ _ _ => trivial⟩
  | cons x l ih =>
    intro f hf env fr k r hF e
    cases hx : opdC P N x with
    | mk g =>
      cases hl : opdsC P N l with
      | mk gs =>
        have hf' : OpdF.rec (motive := fun _ => OpdsF) (fun x => OpdsF.rec (motive := fun _ => OpdsF) (fun r => .mk fun env fr k => x env fr fun v => r env fr fun l => k (v :: l)) (opdsC P N l)) (opdC P N x) = OpdsF.mk f := hf
        rw [hx, hl] at hf'
        cases hf'
        obtain ⟨v, e1, h1⟩ := opdC_ok hx e
        obtain ⟨vs, e2, h2, h3⟩ := ih hl e1
        exact ⟨v :: vs, e2, by simp [h2], fun ρ a c => ⟨h1 ρ a c, h3 ρ a c⟩⟩
theorem optC_ok {P : Program} {N : Nat} {x : Option Operand} {f : Env → Fr → (Option AV → Out) → Out} (hf : optC P N x = .mk f) {env : Env} {fr : Fr} {k : Option AV → Out} {r : AV} {hF : Hp} (e : f env fr k = .ok r hF) :
    ∃ v, k v = .ok r hF ∧ ∀ ρ a, Cx P N ρ env fr a → match v, x.map a.eval with | none, none => True | some v, some u => VR ρ v u | _, _ => False := by
  cases x with
  | none => cases hf; exact ⟨none, e, fun _ _ _ => trivial⟩
  | some x =>
    cases hx : opdC P N x with
    | mk g =>
      have hf' : OpdF.rec (motive := fun _ => OptF) (fun x => .mk fun env fr k => x env fr fun v => k (some v)) (opdC P N x) = OptF.mk f := hf
      rw [hx] at hf'; cases hf'
      obtain ⟨v, e1, h1⟩ := opdC_ok hx e
      exact ⟨some v, e1, fun ρ a c => h1 ρ a c⟩
end Go.Am

/- Walks and laws, joined: part A. No condition. -/
import Derived.Calls
import Derived.ChangeArms
import Derived.Great.BuildSlice
import Derived.Laws.AppendOwn
import Derived.Laws.BytesArg
import Derived.Laws.Externs
import Derived.Laws.IdiomCopy
import Derived.Laws.IdiomStrings
import Derived.Laws.MakeOwn
import Derived.Laws.Runes
import Derived.Laws.Tables
import Derived.Lib.Builder
import Derived.Lib.BytesEntry
import Derived.Lib.IndexEntry
import Derived.Lib.MakeNoZero
import Derived.Lib.ReflectliteSlice
import Derived.Lib.UnsafeStr
import Derived.LoopN
import Derived.LoopNIn
import Derived.Orders
import Derived.OrdersIn
import Derived.RangeFuncIn
import Derived.RangeFuncRecord
import Derived.WalkKit
import Derived.WalkLawsBesides
import Derived.ChangeSame
import Derived.HandedShaped
import Derived.Lay
import Derived.MakeChecks
import Derived.Stop.Joined
import Derived.Carry
import Derived.ChangeCalls
import Derived.OpenShut
import Derived.Below
import Derived.KernelRfl
import Derived.Deep.DeepHandedRow
import Derived.LaidLaws
import Derived.Lib.Hide
import Derived.ChangeSlices
import Derived.OwnWalk
import Derived.Shelf.LaysM
import Derived.Shelf.Strconv.Itoa0
import Derived.Shelf.Strconv.Itoa1
import Derived.Shelf.Strconv.Itoa2
import Derived.Shelf.Strconv.Itoa3
import Derived.Shelf.Strconv.Itoa4
import Derived.Shelf.Strings.Trim
import Derived.Test.YthffpbkndnhlfaaGreatDoorProg
import Derived.ProofKit
import Derived.IntWalk
import Derived.Laws.BitsAllLaws
import Derived.RegionTactic
import Derived.Lib.Walk
import Derived.Lib.ItoaMem
import Derived.BigCall
import Derived.BigGuard
import Derived.Deep.QuietTactic
import Derived.BigQuiet
import Derived.Shelf.Small.Strs
import Derived.Shelf.Strings.Search3
import Derived.Shelf.Bytes.SlJoin
import Derived.Maps.AppendAt
import Derived.Laws.AppendOwnNone
import Derived.Lib.AppendStr
import Derived.Lib.ItoaNum
import Derived.Lib.TrimByte
import Derived.Tactics2
import Derived.BigRegion
import Derived.Laws.OwnMore
import Derived.Deep.Draws
import Derived.Laws.Rows
import Derived.Test.YthffpbkndnhlfaaGreatDoorRows
import Derived.Lib.ItoaLen
set_option linter.unusedSimpArgs false
set_option linter.unusedVariables false
set_option maxRecDepth 100000
set_option maxHeartbeats 32000000
namespace Go.Am
open Go Go.RowKit Go.WideShapes Go.ChangeShapes
theorem less_tri : ∀ (a b : List UInt8), (!(Op.bytesLess a b || a == b)) = Op.bytesLess b a := by
 intro a
 induction a with
 | nil => intro b; cases b <;> rfl
 | cons x a ih =>
  intro b
  cases b with
  | nil => rfl
  | cons y b =>
   simp only [Op.bytesLess, List.cons_beq_cons]
   rw [← ih b]
   have hx : (x < y) ∨ x = y ∨ y < x := by
    rcases Nat.lt_trichotomy x.toNat y.toNat with h | h | h
    ·exact .inl (UInt8.lt_iff_toNat_lt.2 h)
    ·exact .inr (.inl (UInt8.toNat_inj.1 h))
    ·exact .inr (.inr (UInt8.lt_iff_toNat_lt.2 h))
   rcases hx with h | h | h
   ·have h1 : ¬ y < x := by rw [UInt8.lt_iff_toNat_lt] at *; omega
    have h2 : ¬ y = x := by intro e; subst e; exact h1 h
    simp [h, h1, h2]
   ·subst h
    have h1 : ¬ x < x := by rw [UInt8.lt_iff_toNat_lt]; omega
    simp [h1]
   ·have h1 : ¬ x < y := by rw [UInt8.lt_iff_toNat_lt] at *; omega
    have h2 : ¬ x = y := by intro e; subst e; exact h1 h
    simp [h, h1, h2]
theorem law_post {H : Type} {enc : TypeId × Value → H} {P : Program} {f : Func} {s : ChangeSpec} {apart fresh handsOn : Bool} {W W' : World} {args : Array Value} {ds : List (DataW H)} {before : List MemPlace} {t : TypeId}
 (hW : DataW.Whole enc P f.params.toList s.vars apart W args.toList ds [] before) (hv : s.vars = []) (hs : s.fn H (ds ++ []) = { results := [.lit (.bool true)], args := ds }) (ht : f.resultTypes = #[t]) (hb : P.underlying t = some .bool)
 (hargs : DataW.TrodAll enc P W' 0 (fun b => decide (b < W.heap.size)) true f.params.toList args.toList ds before) (hk : Below W.heap.size W W') : s.post enc P f apart fresh handsOn false W args (.bool true) W' := by
 refine ⟨ds, [], before, [], before, [], hW, ?_, ?_, ?_, World.keptBut_mono (fun p hp => ⟨hp, .inr (.inl hp)⟩) (hk.frame (· ∈ before)), fun h => by cases h⟩
 ·rw [hs, ht]; exact trodAll_mk1 (shut_bool hb true)
 ·rw [hs]; exact hargs
 ·rw [hs, hv]; rfl
theorem globals_lie {P : Program} {w : World} (hsh : w.ShapedOpen P) (hl : Nat.ble (P.globals.size + 1) (begin P (fun _ _ => 0) default).world.heap.size = true) : P.globals.size < w.heap.size := by
 obtain ⟨o, _, h1, _⟩ := hsh.2 P.globals.size (Nat.le_refl _) (Nat.le_of_ble_eq_true hl)
 exact (Array.getElem?_eq_some_iff.1 h1).1
theorem trod_all_below {H : Type} {enc : TypeId × Value → H} {P : Program} (lo : laidOutB P = true) {W W' : World} (hb : Below W.heap.size W W') :
 ∀ {ts : List TypeId} {vs : List Value} {ds : List (DataW H)} {ps : List MemPlace}, (ts.all fun t => P.readableRec t && decide (t < P.types.size)) = true → DataW.TrodAll enc P W 0 (fun _ => true) true ts vs ds ps → (∀ x ∈ ps, x.block < W.heap.size) →
  DataW.TrodAll enc P W' 0 (fun b => decide (b < W.heap.size)) true ts vs ds ps := by
 intro ts
 induction ts with
 | nil =>
  intro vs ds ps _ h _
  obtain ⟨rfl, rfl, rfl⟩ := trodAll_nil h
  exact trodAll_mk0
 | cons t ts ih =>
  intro vs ds ps hr h hlt
  rw [List.all_cons, Bool.and_eq_true] at hr
  obtain ⟨v, vs', d, ds', p, q, rfl, rfl, rfl, h1, h2⟩ := trodAll_cons h
  simp only [Bool.and_eq_true, decide_eq_true_eq] at hr
  exact trodAll_cons_mk (Below.trod lo hr.1.1 hr.1.2 h1 hb fun x hx => hlt x (List.mem_append_left _ hx)) (ih (by simpa using hr.2) h2 fun x hx => hlt x (List.mem_append_right _ hx))
theorem law_upto {C : Checked} {os : Os} (started : os.Started) {H : Type} {enc : TypeId × Value → H} {F : Stop.Interp} {f : FuncId} {fn : Func} {s : OpenSpec} {laid : List (String × DataW Unit)} {t : TypeId}
 (own : ownKnob C.prog.godebug = none) (noInit : C.prog.inits.idxOf? f = none) (hfn : C.prog.funcs[f]? = some fn) (hv : (s.at F).vars = []) (hvs : (s.at F).vars = s.vars) (hs : ∀ ds : List (DataW H), ds.length = fn.params.size → (s.at F).fn H (ds ++ []) = { results := [.lit (.bool true)], args := ds }) (ht : fn.resultTypes = #[t]) (hb : C.prog.underlying t = some .bool)
 (hl : Nat.ble (C.prog.globals.size + 1) (begin C.prog (fun _ _ => 0) default).world.heap.size = true) (lo : laidOutB C.prog = true) (hr : (fn.params.toList.all fun t => C.prog.readableRec t && decide (t < C.prog.types.size)) = true)
 (witness : ∃ (w : World) (tape : Tape) (i : Input), w.os = os ∧ (w.forCall tape i).Shaped C.prog ∧ i.vars = [] ∧ Input.okWide C.prog (w.forCall tape i) .any w.heap.size f i ∧
  s.preRow enc C.prog fn [] false laid (w.forCall tape i).memory i.args ∧ ({} : Assume).holds C.prog (lone (Frame.enter C.prog f i.args .normal) [] (w.forCall tape i)))
 (run : ∀ (W : World) (base : Nat) (args : Array Value) (ds : List (DataW H)) (before : List MemPlace), C.prog.globals.size < W.heap.size → laidMetH C.prog laid W → (∀ k, s.cond = some k → k H ds = true) → (∀ (j : Nat) t v, fn.params[j]? = some t → args[j]? = some v → Value.okWide C.prog W .any base t v) →
  DataW.TrodAll enc C.prog W 0 (fun _ => true) true fn.params.toList args.toList ds before → Calls C.prog f args W fun e W' => e = .returned (.bool true) ∧ Below W.heap.size W W') :
 ReturnsInHanded {} C os f .any (s.preRow enc C.prog fn [] false laid) ((s.at F).post enc C.prog fn false true false false) := by
 refine returnsInHanded_of_row own started noInit hfn witness ?_
 intro W base args ds gs before hval hW _ hk _ hL hsh _
 rw [← hvs] at hW
 have hg := globals_lie hsh hl
 have hW2 := hW
 have hlt : ∀ x ∈ before, x.block < W.heap.size := fun x hx => hW.lt x hx
 obtain ⟨p, q, hA0, hV, rfl, hfz, hnd⟩ := hW
 rw [hv] at hV
 obtain ⟨rfl, rfl⟩ := trodVars_none hV
 have hlen : ds.length = fn.params.size := by
  have : ∀ {ts : List TypeId} {vs : List Value} {ds : List (DataW H)} {ps : List MemPlace}, DataW.TrodAll enc C.prog W 0 (fun _ => true) true ts vs ds ps → ds.length = ts.length := by
   intro ts
   induction ts with
   | nil => intro vs ds ps h; obtain ⟨_, rfl, _⟩ := trodAll_nil h; rfl
   | cons t ts ih => intro vs ds ps h; obtain ⟨v, vs', d, ds', p, q, rfl, rfl, rfl, _, h2⟩ := trodAll_cons h; simp [ih h2]
  have := this hA0
  simpa using this
 simp only [List.append_nil] at hlt hW2
 refine (run W base args ds p hg hL (fun k h => by have := hk k h; rwa [List.append_nil] at this) hval hA0).mono fun e W' ⟨he, hk⟩ => ?_
 exact ⟨_, he, law_post hW2 hv (hs ds hlen) ht hb (trod_all_below lo hk hr hA0 hlt) hk⟩
theorem witness_upto {H : Type} {enc : TypeId × Value → H} {C : Checked} {os : Os} {f : FuncId} {fn : Func} {s : OpenSpec} {conds : List PathCond} {apart : Bool} {laid : List (String × DataW Unit)} (w0 : World) (args : Array Value) (hos : w0.os = os)
 (hsh : (w0.forCall (fun _ _ => 0) ⟨#[], args, []⟩).Shaped C.prog)
 (hok : Input.okWideB C.prog (w0.forCall (fun _ _ => 0) ⟨#[], args, []⟩) f ⟨#[], args, []⟩ = true)
 (hrow : s.preRow enc C.prog fn conds apart laid (w0.forCall (fun _ _ => 0) ⟨#[], args, []⟩).memory args) :
 ∃ (w : World) (tape : Tape) (i : Input), w.os = os ∧ (w.forCall tape i).Shaped C.prog ∧ i.vars = [] ∧ Input.okWide C.prog (w.forCall tape i) .any w.heap.size f i ∧
  s.preRow enc C.prog fn conds apart laid (w.forCall tape i).memory i.args ∧ ({} : Assume).holds C.prog (lone (Frame.enter C.prog f i.args .normal) [] (w.forCall tape i)) :=
 ⟨w0, fun _ _ => 0, ⟨#[], args, []⟩, hos, hsh, (Input.okWide_of_okWideB (base := 0) hok).1, (Input.okWide_of_okWideB hok).2, hrow, by
  simp only [Assume.holds]
  exact ⟨by simp, by simp, fun _ => Modest.zero, by simp, by simp⟩⟩
end Go.Am
namespace Go.Wk
open Go Go.RowKit Go.ChangeShapes
theorem hi_ {p : Prop} (h : p) : Hid p := Lib.hid h
theorem h3_ {p q r G : Prop} (hp : p) (hq : q) (hr : r) (k : RowKit.Hid p → RowKit.Hid q → RowKit.Hid r → G) : G := k hp hq hr
theorem h4_ {p q r s G : Prop} (hp : p) (hq : q) (hr : r) (hs : s) (k : RowKit.Hid p → RowKit.Hid q → RowKit.Hid r → RowKit.Hid s → G) : G := k hp hq hr hs
theorem h5_ {p q r s t G : Prop} (hp : p) (hq : q) (hr : r) (hs : s) (ht : t) (k : RowKit.Hid p → RowKit.Hid q → RowKit.Hid r → RowKit.Hid s → RowKit.Hid t → G) : G := k hp hq hr hs ht
theorem h6_ {p q r s t u G : Prop} (hp : p) (hq : q) (hr : r) (hs : s) (ht : t) (hu : u) (k : RowKit.Hid p → RowKit.Hid q → RowKit.Hid r → RowKit.Hid s → RowKit.Hid t → RowKit.Hid u → G) : G := k hp hq hr hs ht hu
theorem h7_ {p q r s t u v G : Prop} (hp : p) (hq : q) (hr : r) (hs : s) (ht : t) (hu : u) (hv : v) (k : RowKit.Hid p → RowKit.Hid q → RowKit.Hid r → RowKit.Hid s → RowKit.Hid t → RowKit.Hid u → RowKit.Hid v → G) : G := k hp hq hr hs ht hu hv
theorem h8_ {p q r s t u v x G : Prop} (hp : p) (hq : q) (hr : r) (hs : s) (ht : t) (hu : u) (hv : v) (hx : x) (k : RowKit.Hid p → RowKit.Hid q → RowKit.Hid r → RowKit.Hid s → RowKit.Hid t → RowKit.Hid u → RowKit.Hid v → RowKit.Hid x → G) : G := k hp hq hr hs ht hu hv hx
theorem h9_ {p q r s t u v x y G : Prop} (hp : p) (hq : q) (hr : r) (hs : s) (ht : t) (hu : u) (hv : v) (hx : x) (hy : y) (k : RowKit.Hid p → RowKit.Hid q → RowKit.Hid r → RowKit.Hid s → RowKit.Hid t → RowKit.Hid u → RowKit.Hid v → RowKit.Hid x → RowKit.Hid y → G) : G := k hp hq hr hs ht hu hv hx hy
theorem cell_lt {w : World} {a : Addr} {v : Value} (h : w.cell? a = some v) : a.block < w.heap.size := by
 rcases Nat.lt_or_ge a.block w.heap.size with h' | h'
 ·exact h'
 ·unfold World.cell? at h; rw [Array.getElem?_eq_none h'] at h; cases h
theorem add_none (b o j : Nat) : (⟨b, o, none⟩ : Addr).add j = ⟨b, o + j, none⟩ := by unfold Addr.add; split <;> simp_all
def Byt (w : World) (A : Option Addr) (bs : List UInt8) : Prop :=
 bs.length ≤ maxLen ∧ (0 < bs.length → ∃ b o, A = some ⟨b, o, none⟩ ∧ ∀ i (h : i < bs.length), w.cell? ⟨b, o + i, none⟩ = some (.int .u8 (bs[i].toNat : Int)))
theorem u8_lt (b : UInt8) : (b.toNat : Int) < 256 := by have := b.toNat_lt; omega
theorem Byt.nil {w : World} {A : Option Addr} : Byt w A [] := ⟨Nat.zero_le _, fun h => by simp at h⟩
theorem Byt.below {w w' : World} {A : Option Addr} {bs : List UInt8} (h : Byt w A bs) (hb : Below w.heap.size w w') : Byt w' A bs := by
 refine ⟨h.1, fun h0 => ?_⟩
 obtain ⟨b, o, e, hc⟩ := h.2 h0
 refine ⟨b, o, e, fun i hi => ?_⟩
 rw [hb.cell (p := ⟨b, o + i, none⟩) (cell_lt (hc i hi))]
 exact hc i hi
abbrev Part := Option Addr × Nat × List UInt8
def Parts (w : World) (A : Option Addr) (ps : List Part) : Prop :=
 ps.length ≤ maxLen ∧ (0 < ps.length → ∃ b o, A = some ⟨b, o, none⟩ ∧ ∀ i (h : i < ps.length), w.cell? ⟨b, o + i, none⟩ = some (.slice ps[i].1 ps[i].2.2.length ps[i].2.1)) ∧ ∀ p ∈ ps, Byt w p.1 p.2.2 ∧ (p.1 = none → p.2.1 = 0)
theorem Parts.below {w w' : World} {A : Option Addr} {ps : List Part} (h : Parts w A ps) (hb : Below w.heap.size w w') : Parts w' A ps := by
 refine ⟨h.1, fun h0 => ?_, fun p hp => ⟨(h.2.2 p hp).1.below hb, (h.2.2 p hp).2⟩⟩
 obtain ⟨b, o, e, hc⟩ := h.2.1 h0
 refine ⟨b, o, e, fun i hi => ?_⟩
 rw [hb.cell (p := ⟨b, o + i, none⟩) (cell_lt (hc i hi))]
 exact hc i hi
def valsB (bs : List UInt8) : List Value := bs.map fun b => .int .u8 (b.toNat : Int)
theorem valsB_len (bs : List UInt8) : (valsB bs).length = bs.length := by simp [valsB]
theorem valsB_one (bs : List UInt8) : ∀ u ∈ valsB bs, u.oneCell' = true := by
 intro u hu
 obtain ⟨b, _, rfl⟩ := List.mem_map.1 hu
 rfl
theorem valsB_app (a b : List UInt8) : valsB (a ++ b) = valsB a ++ valsB b := by simp [valsB]
theorem Byt.news {w : World} {a : Addr} {bs : List UInt8} (h : Byt w (some a) bs) : ∀ j u, (valsB bs)[j]? = some u → w.cell? (a.add j) = some u := by
 intro j u hu
 have hj : j < bs.length := by have := (List.getElem?_eq_some_iff.1 hu).1; rwa [valsB_len] at this
 obtain ⟨b, o, e, hc⟩ := h.2 (by omega)
 cases e
 rw [add_none, hc j hj, ← hu]
 simp [valsB, hj]
theorem own_byt {w : World} {B e : Nat} {v : Value} {bs : List UInt8} (h : w.ownsRow B e 1 v bs.length (valsB bs)) : ∃ A c, v = .slice A bs.length c ∧ (bs.length ≤ maxLen → Byt w A bs) := by
 rcases h.2 with ⟨rfl, h0⟩ | ⟨g, cap, cur, rfl, _, hh, hnc, hcm, hsz, htk⟩
 ·exact ⟨none, 0, by rw [h0], fun hm => ⟨hm, fun h1 => by omega⟩⟩
 ·refine ⟨_, _, rfl, fun hm => ⟨hm, fun h1 => ⟨g, 0, rfl, fun i hi => ?_⟩⟩⟩
  have hv : (valsB bs)[i]? = some (.int .u8 (bs[i].toNat : Int)) := by simp [valsB, hi]
  rw [← htk, List.getElem?_take_of_lt (by omega), Array.getElem?_toList] at hv
  rw [Nat.zero_add]
  unfold World.cell?
  rw [hh]
  simpa using hv

section
variable {H : Type} {enc : TypeId × Value → H} {P : Program} {w : World} {base : Nat} {sp : Nat → Bool} {held : Bool}
theorem wf_u8 {n : Int} (h : (Lit.int .u8 n).wf = true) : ∃ b : UInt8, n = (b.toNat : Int) := by
 have : 0 ≤ n ∧ n ≤ 255 := by simpa [Lit.wf, IntKind.min, IntKind.max, IntKind.signed, IntKind.bits] using h
 refine ⟨UInt8.ofNat n.toNat, ?_⟩
 have h2 : n.toNat < 256 := by omega
 rw [UInt8.toNat_ofNat_of_lt' h2]; omega
theorem open_byt {t e fuel : Nat} {cs : List Value} {x : DataW H × List MemPlace} (ht : P.underlying t = some (.slice e)) (he : P.underlying e = some (.int .u8)) (hc : P.cellsOf e = 1) (h : DataW.trod enc P w base sp held fuel t cs = some x) :
 ∃ A c bs, cs = [.slice A (bs : List UInt8).length c] ∧ Byt w A bs ∧ (A = none → c = 0) ∧ (bs : List UInt8).length ≤ c := by
 rcases open_ints ht he hc h with ⟨rfl, _⟩ | ⟨a, len, cap, zs, rfl, _, hlc, hcm, hz, _, hcell, hwf⟩
 ·exact ⟨none, 0, [], rfl, Byt.nil, fun _ => rfl, Nat.le_refl _⟩
 ·have hlz : len ≤ zs.length := by rw [hz]; split <;> omega
  have hbs : ∃ bs : List UInt8, bs.length = len ∧ ∀ i (h : i < bs.length), zs.getD i 0 = (bs[i].toNat : Int) := by
   refine ⟨(zs.take len).map fun n => UInt8.ofNat n.toNat, by simp; omega, fun i hi => ?_⟩
   have hil : i < len := by simp at hi; omega
   have hiz : i < zs.length := by omega
   obtain ⟨b, hb⟩ := wf_u8 (hwf zs[i] (List.getElem_mem hiz))
   rw [List.getElem_map, List.getElem_take, List.getD_eq_getElem?_getD, List.getElem?_eq_getElem hiz, Option.getD_some, hb]
   simp
  obtain ⟨bs, rfl, hb⟩ := hbs
  refine ⟨some a, cap, bs, rfl, ⟨by omega, fun h0 => ?_⟩, (fun h => by cases h), hlc⟩
  obtain ⟨b, o, spot⟩ := a
  have h1 := hcell 0 (by omega)
  have hspot : spot = none := by simpa [Addr.add] using World.cell?_spot h1
  subst hspot
  refine ⟨b, o, rfl, fun i hi => ?_⟩
  have := hcell i (by omega)
  rw [add_none, hb i hi] at this
  exact this
theorem list_of {α : Type} {n : Nat} {P : Nat → α → Prop} (h : ∀ i, i < n → ∃ x, P i x) : ∃ l : List α, l.length = n ∧ ∀ i (hi : i < l.length), P i l[i] := by
 induction n with
 | zero => exact ⟨[], rfl, fun i hi => by simp at hi⟩
 | succ n ih =>
  obtain ⟨l, h1, h2⟩ := ih fun i hi => h i (by omega)
  obtain ⟨x, hx⟩ := h n (by omega)
  refine ⟨l ++ [x], by simp [h1], fun i hi => ?_⟩
  by_cases hil : i < l.length
  ·rw [List.getElem_append_left hil]; exact h2 i hil
  ·have : i = l.length := by simp at hi; omega
   subst this
   simp; rw [h1]; exact hx
end
end Go.Wk
namespace Go.Proofs
section
open Go.Shelf
def Tryz.lays162_ren : Go.Shelf.Ren := ⟨fun | 162 => 139 | 232 => 170 | 227 => 171 | 234 => 172 | 236 => 173 | 228 => 197 | 271 => 198 | 151 => 199 | 120 => 214 | 197 => 215 | 152 => 216 | 260 => 223 | 137 => 84 | 119 => 224 | 224 => 221 | 225 => 220 | 217 => 120 | 266 => 156 | n => n, fun | 9 => 9 | 4 => 4 | 3 => 3 | 5 => 5 | 117 => 206 | 116 => 205 | 0 => 0 | 124 => 209 | 21 => 21 | 105 => 232 | 46 => 151 | 119 => 251 | 139 => 254 | 138 => 253 | n => n, fun | 3 => 4 | 4 => 5 | n => n⟩
theorem Tryz.lays162 : Go.Proofs.Lays.n162 Tryz.prog Tryz.lays162_ren := {
 mixed := by kernel_rfl
 f119 := Tryz.func224.trans (congrArg some (by kernel_rfl))
 f120 := Tryz.func214.trans (congrArg some (by kernel_rfl))
 f137 := Tryz.func84.trans (congrArg some (by kernel_rfl))
 f151 := Tryz.func199.trans (congrArg some (by kernel_rfl))
 f152 := Tryz.func216.trans (congrArg some (by kernel_rfl))
 f162 := Tryz.func139.trans (congrArg some (by kernel_rfl))
 f197 := Tryz.func215.trans (congrArg some (by kernel_rfl))
 f217 := Tryz.func120.trans (congrArg some (by kernel_rfl))
 f224 := Tryz.func221.trans (congrArg some (by kernel_rfl))
 f225 := Tryz.func220.trans (congrArg some (by kernel_rfl))
 f227 := Tryz.func171.trans (congrArg some (by kernel_rfl))
 f228 := Tryz.func197.trans (congrArg some (by kernel_rfl))
 f232 := Tryz.func170.trans (congrArg some (by kernel_rfl))
 f234 := Tryz.func172.trans (congrArg some (by kernel_rfl))
 f236 := Tryz.func173.trans (congrArg some (by kernel_rfl))
 f260 := Tryz.func223.trans (congrArg some (by kernel_rfl))
 f266 := Tryz.func156.trans (congrArg some (by kernel_rfl))
 f271 := Tryz.func198.trans (congrArg some (by kernel_rfl))
 t0 := Tryz.underlying0
 a0 := Tryz.isAgg0
 z0 := Tryz.sizeOf0
 v0 := Tryz.zeroValue0
 t3 := Tryz.underlying3
 a3 := Tryz.isAgg3
 z3 := Tryz.sizeOf3
 v3 := Tryz.zeroValue3
 t4 := Tryz.underlying4
 a4 := Tryz.isAgg4
 z4 := Tryz.sizeOf4
 v4 := Tryz.zeroValue4
 t5 := Tryz.underlying5
 a5 := Tryz.isAgg5
 z5 := Tryz.sizeOf5
 v5 := Tryz.zeroValue5
 t9 := Tryz.underlying9
 a9 := Tryz.isAgg9
 z9 := Tryz.sizeOf9
 v9 := Tryz.zeroValue9
 t21 := Tryz.underlying21
 a21 := Tryz.isAgg21
 z21 := Tryz.sizeOf21
 v21 := Tryz.zeroValue21
 t46 := Tryz.underlying151
 a46 := Tryz.isAgg151
 z46 := Tryz.sizeOf151
 v46 := Tryz.zeroValue151
 t105 := Tryz.underlying232
 a105 := Tryz.isAgg232
 z105 := Tryz.sizeOf232
 v105 := Tryz.zeroValue232
 t116 := Tryz.underlying205
 a116 := Tryz.isAgg205
 z116 := Tryz.sizeOf205
 t117 := Tryz.underlying206
 a117 := Tryz.isAgg206
 z117 := Tryz.sizeOf206
 v117 := Tryz.zeroValue206
 t119 := Tryz.underlying251
 a119 := Tryz.isAgg251
 z119 := Tryz.sizeOf251
 t124 := Tryz.underlying209
 a124 := Tryz.isAgg209
 z124 := Tryz.sizeOf209
 v124 := Tryz.zeroValue209
 t138 := Tryz.underlying253
 a138 := Tryz.isAgg253
 z138 := Tryz.sizeOf253
 v138 := Tryz.zeroValue253
 t139 := Tryz.underlying254
 a139 := Tryz.isAgg254
 z139 := Tryz.sizeOf254
 v139 := Tryz.zeroValue254
 g3 := by kernel_rfl
 g4 := by kernel_rfl }
open Go.RowKit in
theorem Tryz.strings_TrimRight_one (s : ByteArray) (c : UInt8) (hc : c.toNat < 128) (w : World) (hs : s.size ≤ 9223372036854775807) :
 Calls Tryz.prog 139 #[.string s, .string ⟨#[c]⟩] w fun e w' => e = .returned (.string ⟨(Lib.trimRightB s.data.toList c).toArray⟩) ∧ w' = w := Any.strings_TrimRight_one Tryz.lays162 s c hc w hs
def Tryz.lays283_ren : Go.Shelf.Ren := ⟨fun | 283 => 176 | n => n, fun | 3 => 3 | 9 => 9 | 4 => 4 | n => n, fun | n => n⟩
theorem Tryz.lays283 : Go.Proofs.Lays.n283 Tryz.prog Tryz.lays283_ren := {
 mixed := by kernel_rfl
 f283 := Tryz.func176.trans (congrArg some (by kernel_rfl))
 t3 := Tryz.underlying3
 a3 := Tryz.isAgg3
 z3 := Tryz.sizeOf3
 v3 := Tryz.zeroValue3
 t4 := Tryz.underlying4
 a4 := Tryz.isAgg4
 z4 := Tryz.sizeOf4
 v4 := Tryz.zeroValue4
 t9 := Tryz.underlying9
 a9 := Tryz.isAgg9
 z9 := Tryz.sizeOf9
 v9 := Tryz.zeroValue9 }
open Go.Lib in
theorem Tryz.internal_strconv_small (i : Nat) (h : i < 100) (w : World) :
 Calls Tryz.prog 176 #[.int .i64 i] w fun e w' => e = .returned (.string ⟨(Lib.decDigits i).toArray⟩) ∧ w' = w := Any.internal_strconv_small Tryz.lays283 i h w
def Tryz.laysM284_ren : Go.Shelf.Ren := ⟨fun | 284 => 177 | 129 => 201 | 317 => 200 | 318 => 202 | n => n, fun | 53 => 163 | 3 => 3 | 212 => 236 | 0 => 0 | 4 => 4 | 46 => 151 | 5 => 5 | 9 => 9 | n => n, fun | 17 => 1 | n => n⟩
theorem Tryz.laysM284 : Go.Proofs.LaysM.n284 Tryz.prog Tryz.laysM284_ren := {
 mixed := by kernel_rfl
 f129 := Tryz.func201.trans (congrArg some (by kernel_rfl))
 f284 := Tryz.func177.trans (congrArg some (by kernel_rfl))
 f317 := Tryz.func200.trans (congrArg some (by kernel_rfl))
 f318 := Tryz.func202.trans (congrArg some (by kernel_rfl))
 t0 := Tryz.underlying0
 a0 := Tryz.isAgg0
 z0 := Tryz.sizeOf0
 v0 := Tryz.zeroValue0
 t3 := Tryz.underlying3
 a3 := Tryz.isAgg3
 z3 := Tryz.sizeOf3
 v3 := Tryz.zeroValue3
 t4 := Tryz.underlying4
 a4 := Tryz.isAgg4
 z4 := Tryz.sizeOf4
 v4 := Tryz.zeroValue4
 t5 := Tryz.underlying5
 a5 := Tryz.isAgg5
 z5 := Tryz.sizeOf5
 v5 := Tryz.zeroValue5
 t9 := Tryz.underlying9
 a9 := Tryz.isAgg9
 z9 := Tryz.sizeOf9
 v9 := Tryz.zeroValue9
 t46 := Tryz.underlying151
 a46 := Tryz.isAgg151
 z46 := Tryz.sizeOf151
 v46 := Tryz.zeroValue151
 t53 := Tryz.underlying163
 a53 := Tryz.isAgg163
 z53 := Tryz.sizeOf163
 v53 := Tryz.zeroValue163
 t212 := Tryz.underlying236
 a212 := Tryz.isAgg236
 z212 := Tryz.sizeOf236
 v212 := Tryz.zeroValue236
 g17 := by kernel_rfl
 i0 := by kernel_rfl
 i3 := by kernel_rfl
 i4 := by kernel_rfl
 i5 := by kernel_rfl
 i9 := by kernel_rfl
 i46 := by kernel_rfl
 i53 := by kernel_rfl
 i212 := by kernel_rfl
 m17 := by kernel_rfl }
open Go.Lib in
theorem Tryz.internal_strconv_numDigits (u : Nat) (h1 : 1 ≤ u) (h2 : u < 18446744073709551616) (w : World) (htab : Lib.TabIs Tryz.prog w "internal/strconv.uint64pow10" .u64 Lib.pow10Tab) :
 Calls Tryz.prog 177 #[.int .u64 u] w fun e w' => e = .returned (.int .i64 (Lib.nDigits u)) ∧ w' = w := Any.internal_strconv_numDigits Tryz.laysM284 u h1 h2 w htab
def Tryz.lays285_ren : Go.Shelf.Ren := ⟨fun | 285 => 178 | n => n, fun | 37 => 22 | 53 => 163 | 3 => 3 | 4 => 4 | 51 => 185 | 9 => 9 | 5 => 5 | 0 => 0 | n => n, fun | n => n⟩
theorem Tryz.lays285 : Go.Proofs.Lays.n285 Tryz.prog Tryz.lays285_ren := {
 mixed := by kernel_rfl
 f285 := Tryz.func178.trans (congrArg some (by kernel_rfl))
 t0 := Tryz.underlying0
 a0 := Tryz.isAgg0
 z0 := Tryz.sizeOf0
 v0 := Tryz.zeroValue0
 t3 := Tryz.underlying3
 a3 := Tryz.isAgg3
 z3 := Tryz.sizeOf3
 v3 := Tryz.zeroValue3
 t4 := Tryz.underlying4
 a4 := Tryz.isAgg4
 z4 := Tryz.sizeOf4
 v4 := Tryz.zeroValue4
 t5 := Tryz.underlying5
 a5 := Tryz.isAgg5
 z5 := Tryz.sizeOf5
 v5 := Tryz.zeroValue5
 t9 := Tryz.underlying9
 a9 := Tryz.isAgg9
 z9 := Tryz.sizeOf9
 v9 := Tryz.zeroValue9
 t37 := Tryz.underlying22
 a37 := Tryz.isAgg22
 z37 := Tryz.sizeOf22
 v37 := Tryz.zeroValue22
 t51 := Tryz.underlying185
 a51 := Tryz.isAgg185
 z51 := Tryz.sizeOf185
 v51 := Tryz.zeroValue185
 t53 := Tryz.underlying163
 a53 := Tryz.isAgg163
 z53 := Tryz.sizeOf163
 v53 := Tryz.zeroValue163 }
open Go.RowKit Go.Sort Go.Lib in
theorem Tryz.internal_strconv_formatBase10 (blk off cap : Nat) (u : Nat) (d : Array UInt8) (w : World) (hH : Holds (fun (b : UInt8) => Value.int .u8 (b.toNat : Int)) w blk off d) (hu : u < 10 ^ d.size) (hu64 : u < 18446744073709551616) (hsz : d.size < 4611686018427387904) :
 Calls Tryz.prog 178 #[.slice (some ⟨blk, off, none⟩) d.size cap, .int .u64 u] w fun e w' =>
  e = .returned (.tuple #[]) ∧ ∃ (n v' : Nat) (dk : Array UInt8), w' = (putRow (fun (b : UInt8) => Value.int .u8 (b.toNat : Int)) w blk off dk).drewN n ∧ FmtInv d.size u 0 v' dk := Any.internal_strconv_formatBase10 Tryz.lays285 blk off cap u d w hH hu hu64 hsz
def Tryz.laysM173_ren : Go.Shelf.Ren := ⟨fun | 173 => 137 | 246 => 143 | 283 => 176 | 284 => 177 | 285 => 178 | 286 => 179 | 129 => 201 | 317 => 200 | 318 => 202 | 319 => 203 | 320 => 204 | 337 => 217 | 338 => 218 | n => n, fun | 2 => 2 | 3 => 3 | 9 => 9 | 4 => 4 | 171 => 212 | 0 => 0 | 53 => 163 | 37 => 22 | 5 => 5 | 173 => 215 | 212 => 236 | 51 => 185 | 20 => 20 | 213 => 237 | 46 => 151 | 232 => 248 | 233 => 249 | n => n, fun | 17 => 1 | 18 => 2 | 19 => 3 | n => n⟩
theorem Tryz.laysM173 : Go.Proofs.LaysM.n173 Tryz.prog Tryz.laysM173_ren := {
 mixed := by kernel_rfl
 f129 := Tryz.func201.trans (congrArg some (by kernel_rfl))
 f173 := Tryz.func137.trans (congrArg some (by kernel_rfl))
 f246 := Tryz.func143.trans (congrArg some (by kernel_rfl))
 f283 := Tryz.func176.trans (congrArg some (by kernel_rfl))
 f284 := Tryz.func177.trans (congrArg some (by kernel_rfl))
 f285 := Tryz.func178.trans (congrArg some (by kernel_rfl))
 f286 := Tryz.func179.trans (congrArg some (by kernel_rfl))
 f317 := Tryz.func200.trans (congrArg some (by kernel_rfl))
 f318 := Tryz.func202.trans (congrArg some (by kernel_rfl))
 f319 := Tryz.func203.trans (congrArg some (by kernel_rfl))
 f320 := Tryz.func204.trans (congrArg some (by kernel_rfl))
 f337 := Tryz.func217.trans (congrArg some (by kernel_rfl))
 f338 := Tryz.func218.trans (congrArg some (by kernel_rfl))
 t0 := Tryz.underlying0
 a0 := Tryz.isAgg0
 z0 := Tryz.sizeOf0
 v0 := Tryz.zeroValue0
 t2 := Tryz.underlying2
 a2 := Tryz.isAgg2
 z2 := Tryz.sizeOf2
 v2 := Tryz.zeroValue2
 t3 := Tryz.underlying3
 a3 := Tryz.isAgg3
 z3 := Tryz.sizeOf3
 v3 := Tryz.zeroValue3
 t4 := Tryz.underlying4
 a4 := Tryz.isAgg4
 z4 := Tryz.sizeOf4
 v4 := Tryz.zeroValue4
 t5 := Tryz.underlying5
 a5 := Tryz.isAgg5
 z5 := Tryz.sizeOf5
 v5 := Tryz.zeroValue5
 t9 := Tryz.underlying9
 a9 := Tryz.isAgg9
 z9 := Tryz.sizeOf9
 v9 := Tryz.zeroValue9
 t20 := Tryz.underlying20
 a20 := Tryz.isAgg20
 z20 := Tryz.sizeOf20
 v20 := Tryz.zeroValue20
 t37 := Tryz.underlying22
 a37 := Tryz.isAgg22
 z37 := Tryz.sizeOf22
 v37 := Tryz.zeroValue22
 t46 := Tryz.underlying151
 a46 := Tryz.isAgg151
 z46 := Tryz.sizeOf151
 v46 := Tryz.zeroValue151
 t51 := Tryz.underlying185
 a51 := Tryz.isAgg185
 z51 := Tryz.sizeOf185
 v51 := Tryz.zeroValue185
 t53 := Tryz.underlying163
 a53 := Tryz.isAgg163
 z53 := Tryz.sizeOf163
 v53 := Tryz.zeroValue163
 t171 := Tryz.underlying212
 a171 := Tryz.isAgg212
 z171 := Tryz.sizeOf212
 v171 := Tryz.zeroValue212
 t173 := Tryz.underlying215
 a173 := Tryz.isAgg215
 z173 := Tryz.sizeOf215
 v173 := Tryz.zeroValue215
 t212 := Tryz.underlying236
 a212 := Tryz.isAgg236
 z212 := Tryz.sizeOf236
 v212 := Tryz.zeroValue236
 t213 := Tryz.underlying237
 a213 := Tryz.isAgg237
 z213 := Tryz.sizeOf237
 t232 := Tryz.underlying248
 a232 := Tryz.isAgg248
 z232 := Tryz.sizeOf248
 v232 := Tryz.zeroValue248
 t233 := Tryz.underlying249
 a233 := Tryz.isAgg249
 z233 := Tryz.sizeOf249
 v233 := Tryz.zeroValue249
 g17 := by kernel_rfl
 g18 := by kernel_rfl
 g19 := by kernel_rfl
 i0 := by kernel_rfl
 i2 := by kernel_rfl
 i3 := by kernel_rfl
 i4 := by kernel_rfl
 i5 := by kernel_rfl
 i9 := by kernel_rfl
 i20 := by kernel_rfl
 i37 := by kernel_rfl
 i46 := by kernel_rfl
 i51 := by kernel_rfl
 i53 := by kernel_rfl
 i171 := by kernel_rfl
 i173 := by kernel_rfl
 i212 := by kernel_rfl
 i232 := by kernel_rfl
 i233 := by kernel_rfl
 m17 := by kernel_rfl
 m18 := by kernel_rfl
 m19 := by kernel_rfl }
open Go.RowKit Go.Sort Go.Lib in
theorem Tryz.strconv_FormatInt_10 (n : Int) (h0 : -9223372036854775808 ≤ n) (h1 : n ≤ 9223372036854775807) (w : World) (htab : Lib.TabIs Tryz.prog w "internal/strconv.uint64pow10" .u64 Lib.pow10Tab) :
 Calls Tryz.prog 137 #[.int .i64 n, .int .i64 10] w fun e w' => e = .returned (.string ⟨(Lib.itoa n).toArray⟩) ∧ ∃ k os, w' = grow (w.drewN k) os := Any.strconv_FormatInt_10 Tryz.laysM173 n h0 h1 w htab
end
end Go.Proofs
namespace Go.Proofs.YthffpbkndnhlfaaGreatDoor
open Go Go.RowKit Go.Wk
def i64 (n : Int) : Prop := -9223372036854775808 ≤ n ∧ n ≤ 9223372036854775807
theorem hidE (a : Int) : ∃ A : Int, Hid (A = a) := ⟨a, Lib.hid rfl⟩
theorem alloc_cell {w : World} {vs : Array Value} {e i : Nat} : (w.alloc (.cells vs e)).cell? ⟨w.heap.size, 0 + i, none⟩ = vs[i]? := by
 have h : (w.alloc (.cells vs e)).heap[w.heap.size]? = some (.cells vs e) := by
  show (w.heap.push _)[w.heap.size]? = _
  simp
 unfold World.cell?
 rw [h, Nat.zero_add]
 rfl
theorem bthen {a b c : World} (h : Below a.heap.size a b) (k : Below b.heap.size b c) : Below a.heap.size a c := h.trans (k.mono h.size)
section
open Go Go.RowKit Go.Wk Go.Sort Go.Lib
theorem holds_zero0 (w : World) (T : TypeId) (nd : Nat) (hs : nd ≤ 24) : Holds (fun (b : UInt8) => Value.int .u8 (b.toNat : Int)) (w.alloc (.cells Lib.zeros24 T)) w.heap.size 0 (Array.replicate nd (0 : UInt8)) := fun j hj => by
 have hj' : j < nd := by simpa using hj
 refine ⟨?_, World.frozen?_alloc_new _ _ _ _⟩
 rw [World.cell?_alloc_new, Lib.zeros24_at _ (by omega), getElem!_pos _ j hj]
 simp
theorem below_grow (w : World) (os : Array Obj) (k : Nat) : Below w.heap.size w ((grow w os).drewN k) :=
 ⟨rfl, rfl, rfl, by show w.heap.size ≤ (grow w os).heap.size; rw [size_grow]; omega, fun j hj => heap_grow_old w os hj⟩
abbrev Tab (w : World) : Prop := Lib.TabIs Tryz.prog w "internal/strconv.uint64pow10" .u64 Lib.pow10Tab
theorem int_FormatUint (u : Nat) (h : u < 18446744073709551616) (w : World) (htab : Tab w) :
 Calls Tryz.prog 169 #[.int .u64 u, .int .i64 10] w fun e w' => e = .returned (.string ⟨(Lib.decDigits u).toArray⟩) ∧ Below w.heap.size w w' := by
 by_cases hs : u < 100
 ·have hs2 : (u : Int) < 100 := by omega
  go_enter Tryz.func169, Tryz.ntmps169
  go_wp2_with (go_at_call 176; (with_reducible refine (Tryz.internal_strconv_small u hs _).mono ?_); rintro e w1 ⟨rfl, rfl⟩)
  go_ret
  exact ⟨rfl, Below.refl _ _⟩
 ·have hu1 : 1 ≤ u := by omega
  have hnd20 : Lib.nDigits u ≤ 20 := by have := Lib.numDigits_eq u hu1 h; split at this <;> omega
  have hb3 : Lib.nDigits u ≤ 23 := by omega
  have hal : Tryz.prog.arrayLen 212 = 24 := by kernel_rfl
  have hsl1 : ∀ W, (Instr.sliceAt 212 (.pointer (some ⟨w.heap.size, 0, none⟩)) none (some (.int .i64 (Lib.nDigits u : Int))) none).run Tryz.prog W = .ok (.slice (some ⟨w.heap.size, 0, none⟩) (Lib.nDigits u) 24) W := fun W => by
   rw [run_sliceAt_array_h W 212 ⟨w.heap.size, 0, none⟩ (by simp [Program.arrayLen, Program.elem, Tryz.underlying212]) .i64 (Lib.nDigits u : Int) (by omega) (by rw [hal]; omega)]
   go_simp
  have hH0 := holds_zero0 w 212 (Lib.nDigits u) (by omega)
  have hfmt := Tryz.internal_strconv_formatBase10 w.heap.size 0 24 u (Array.replicate (Lib.nDigits u) 0) (w.alloc (.cells Lib.zeros24 212)) hH0 (by rw [Array.size_replicate]; exact Lib.lt_pow_nDigits u) h (by rw [Array.size_replicate]; omega)
  rw [Array.size_replicate] at hfmt
  have HH0 := hi_ hH0
  have hnd := Tryz.internal_strconv_numDigits u hu1 h
  have hu3 : ¬ ((u : Int) < 100) := by omega
  clear hH0 hal
  go_enter Tryz.func169, Tryz.ntmps169
  go_wp2_with (go_at_call 177; (with_reducible refine (hnd _ (Lib.tabIs_alloc htab _)).mono ?_); rintro e w1 ⟨rfl, rfl⟩)
  refine hfmt.mono ?_
  rintro e w' ⟨rfl, k, v', dk, rfl, hF⟩
  have hcv : (convert 22 9 (.slice (some ⟨w.heap.size, 0, none⟩) (Lib.nDigits u) 24)).run Tryz.prog ((putRow (fun (b : UInt8) => Value.int .u8 (b.toNat : Int)) (w.alloc (.cells Lib.zeros24 212)) w.heap.size 0 dk).drewN k) = .ok (.string ⟨(Lib.decDigits u).toArray⟩) ((putRow (fun (b : UInt8) => Value.int .u8 (b.toNat : Int)) (w.alloc (.cells Lib.zeros24 212)) w.heap.size 0 dk).drewN k) := by
   have h := run_convert_bytes_back (P := Tryz.prog) ((putRow (fun (b : UInt8) => Value.int .u8 (b.toNat : Int)) (w.alloc (.cells Lib.zeros24 212)) w.heap.size 0 dk).drewN k) 22 9 5 ⟨w.heap.size, 0, none⟩ 24 (Lib.decDigits u) Tryz.underlying22 Tryz.underlying5 Tryz.underlying9 (fun j hj => by
    rw [Lib.add_plain, Lib.row_is_numeral hF j hj, World.cell?_drewN]
    exact cell?_putRow (fun (b : UInt8) => Value.int .u8 (b.toNat : Int)) _ w.heap.size 0 _ dk HH0.out (by rw [hF.size, Array.size_replicate]) j (by rw [hF.size]; rw [Lib.decDigits_length] at hj; exact hj))
   rw [Lib.decDigits_length] at h
   exact h
  have hbel : Below w.heap.size w ((putRow (fun (b : UInt8) => Value.int .u8 (b.toNat : Int)) (w.alloc (.cells Lib.zeros24 212)) w.heap.size 0 dk).drewN k) := by
   rw [alloc_eq_grow]
   obtain ⟨os', _, e⟩ := putRow_grow_new (fun (b : UInt8) => Value.int .u8 (b.toNat : Int)) w #[.cells Lib.zeros24 212] w.heap.size 0 dk (Nat.le_refl _)
   rw [e]
   exact below_grow w os' k
  generalize (putRow (fun (b : UInt8) => Value.int .u8 (b.toNat : Int)) (w.alloc (.cells Lib.zeros24 212)) w.heap.size 0 dk).drewN k = W at *
  go_wp2
  go_ret
  exact ⟨rfl, hbel⟩
theorem str_FormatUint (u : Nat) (h : u < 18446744073709551616) (w : World) (htab : Tab w) :
 Calls Tryz.prog 138 #[.int .u64 u, .int .i64 10] w fun e w' => e = .returned (.string ⟨(Lib.decDigits u).toArray⟩) ∧ Below w.heap.size w w' := by
 have c := int_FormatUint u h w htab
 go_enter Tryz.func138, Tryz.ntmps138
 go_wp2_with (go_at_call 169; (with_reducible refine c.mono ?_); rintro e w1 ⟨rfl, hw1⟩)
 go_ret
 exact ⟨rfl, hw1⟩
end
section
open Go Go.RowKit Go.Wk Go.Sort Go.Lib
theorem Tab.below {w w' : World} (h : Tab w) (hb : Below w.heap.size w w') : Tab w' := by
 unfold Tab TabIs World.var? at *
 cases hg : Tryz.prog.globalNamed "internal/strconv.uint64pow10" with
 | none => simp [hg] at h
 | some g =>
  simp only [hg, Option.bind_some] at h ⊢
  have hlt : g < w.heap.size := by
   rcases Nat.lt_or_ge g w.heap.size with h' | h'
   ·exact h'
   ·rw [Array.getElem?_eq_none h'] at h; simp at h
  rw [hb.block g hlt]
  exact h
theorem below_drawn (w : World) (n : Nat) : Below w.heap.size w (w.drewN n) := ⟨rfl, rfl, rfl, Nat.le_refl _, fun _ _ => rfl⟩
def str (l : List UInt8) : Value := .string ⟨l.toArray⟩
theorem str_FormatInt (n : Int) (h : i64 n) (w : World) (htab : Tab w) :
 Calls Tryz.prog 137 #[.int .i64 n, .int .i64 10] w fun e w' => e = .returned (.string ⟨(Lib.itoa n).toArray⟩) ∧ Below w.heap.size w w' := by
 refine (Tryz.strconv_FormatInt_10 n h.1 h.2 w htab).mono ?_
 rintro e w' ⟨rfl, k, os, rfl⟩
 exact ⟨rfl, below_grow w os k⟩
def fracL (r : Nat) : List UInt8 := ((decDigits (100000 + r)).drop 1).take 1 ++ trimRightB (((decDigits (100000 + r)).drop 1).drop 1) 48
def textL (n : Int) (whole : Bool) : List UInt8 := if whole then itoa n else (if n < 0 then [45] else []) ++ (decDigits (n.natAbs / 100000) ++ (46 :: fracL (n.natAbs % 100000)))
theorem bytes_ext {a b : ByteArray} (h : a.data.toList = b.data.toList) : a = b := by
 cases a; cases b; simp at h; rw [h]
theorem bytes_app (a b : ByteArray) : (a ++ b).data.toList = a.data.toList ++ b.data.toList := by simp
theorem bytes_cut (a : ByteArray) (i j : Nat) : (a.extract i j).data.toList = (a.data.toList.take j).drop i := by
 simp [ByteArray.data_extract, Array.toList_extract, List.extract]
 rw [List.drop_take]
theorem six (r : Nat) (h : r < 100000) : (decDigits (100000 + r)).length = 6 := by
 rw [decDigits_length]
 exact nDigits_unique 5 _ (by omega) (by omega)
theorem trim_le (l : List UInt8) (c : UInt8) : (trimRightB l c).length ≤ l.length := by
 unfold trimRightB
 rw [List.length_reverse]
 have := (List.dropWhile_sublist (fun x => x == c) (l := l.reverse)).length_le
 simpa using this
theorem fixed_Text (n : Int) (h : i64 n) (w : World) (htab : Tab w) :
 Calls Tryz.prog 103 #[.int .i64 n, .bool false] w fun e w' => e = .returned (str (textL n false)) ∧ Below w.heap.size w w' := by
 obtain ⟨m, hm⟩ : ∃ m, m = n.natAbs := ⟨_, rfl⟩
 have hm2 : m ≤ 9223372036854775808 := by unfold i64 at h; omega
 have f1 := fun w htab => str_FormatUint (100000 + m % 100000) (by omega) w htab
 have f2 := fun w htab => str_FormatUint (m / 100000) (by omega) w htab
 obtain ⟨P, hP⟩ : ∃ P : ByteArray, P = ⟨(decDigits (100000 + m % 100000)).toArray⟩ := ⟨_, rfl⟩
 have hPs : P.size = 6 := by rw [hP]; show (decDigits (100000 + m % 100000)).toArray.size = 6; rw [List.size_toArray]; exact six _ (Nat.mod_lt _ (by omega))
 have hDl : (decDigits (m / 100000)).length ≤ 20 := by
  rw [decDigits_length]
  by_cases h0 : m / 100000 = 0
  ·rw [h0, nDigits_small (by omega)]; omega
  ·have := Lib.numDigits_eq (m / 100000) (by omega) (by omega); split at this <;> omega
 obtain ⟨S, hS⟩ : ∃ S, S = textL n false := ⟨_, rfl⟩
 rw [← hS]
 have hS := hi_ (show S = (if n < 0 then [45] else []) ++ (decDigits (m / 100000) ++ (46 :: fracL (m % 100000))) by rw [hS, hm]; rfl)
 have hfr := hi_ (show fracL (m % 100000) = ((decDigits (100000 + m % 100000)).drop 1).take 1 ++ trimRightB (((decDigits (100000 + m % 100000)).drop 1).drop 1) 48 from rfl)
 generalize fracL (m % 100000) = F at *
 rw [← hP] at f1
 replace hP := hi_ hP
 obtain ⟨h1, h2⟩ := h
 obtain ⟨U, hU⟩ := hidE (m : Int)
 have g1 : ∀ w, Tab w → Calls Tryz.prog 138 #[.int .u64 (100000 + U % 100000), .int .i64 10] w fun e w' => e = .returned (.string P) ∧ Below w.heap.size w w' := by
  intro w ht; have := f1 w ht; rw [hU.out]
  rwa [show ((100000 + m % 100000 : Nat) : Int) = 100000 + (m : Int) % 100000 by omega] at this
 have g2 : ∀ w, Tab w → Calls Tryz.prog 138 #[.int .u64 (U / 100000), .int .i64 10] w fun e w' => e = .returned (str (decDigits (m / 100000))) ∧ Below w.heap.size w w' := by
  intro w ht; have := f2 w ht; rw [hU.out]
  rwa [show ((m / 100000 : Nat) : Int) = (m : Int) / 100000 by omega] at this
 have hU0 : 0 ≤ U ∧ U ≤ 9223372036854775808 := by rw [hU.out]; omega
 generalize decDigits (m / 100000) = D at *
 clear f1 f2
 have G1 := hi_ g1
 have G2 := hi_ g2
 clear g1 g2
 by_cases hn : n < 0
 ·have e1 : IntKind.u64.wrap (-IntKind.u64.wrap n) = U := by rw [hU.out, IntKind.wrap_u64, IntKind.wrap_u64]; omega
  clear hm hm2
  go_enter Tryz.func103, Tryz.ntmps103
  go_wp2_with (first
   | (go_at_call 138; (with_reducible refine (G1.out _ htab).mono ?_); rintro e w1 ⟨rfl, hw1⟩; have ht1 := htab.below hw1; have g2 := G2.out _ ht1; clear htab)
   | (go_at_call 138; (with_reducible refine g2.mono ?_); rintro e w2 ⟨rfl, hw2⟩))
  have hEs : (P.extract 1 6).size = 5 := by rw [ByteArray.size_extract]; omega
  generalize hE : P.extract 1 6 = E at *
  replace hE := hi_ hE
  have tr := fun w => Tryz.strings_TrimRight_one (E.extract 1 5) 48 (by decide) w (by rw [ByteArray.size_extract]; omega)
  obtain ⟨T, hT⟩ : ∃ T : ByteArray, T = ⟨(trimRightB (E.extract 1 5).data.toList 48).toArray⟩ := ⟨_, rfl⟩
  rw [← hT] at tr
  replace hT := hi_ hT
  have hTs : T.size ≤ 4 := by
   rw [hT.out]
   show (trimRightB (E.extract 1 5).data.toList 48).toArray.size ≤ 4
   rw [List.size_toArray]
   refine Nat.le_trans (trim_le _ _) ?_
   have : (E.extract 1 5).data.toList.length = (E.extract 1 5).size := by simp; omega
   rw [this, ByteArray.size_extract]; omega
  have hTs2 : ¬ 9223372036854775807 < 1 + T.size := by omega
  go_quiet ((go_at_call 139; refine Calls.quiet_of_same (tr _)))
  have hb1 := below_drawn w1 nq
  go_wp2_with (go_at_call 138; (with_reducible refine (G2.out _ (ht1.below hb1)).mono ?_); rintro e w2 ⟨rfl, hw2⟩; unfold str)
  go_ret
  refine ⟨?_, bthen (bthen hw1 hb1) hw2⟩
  unfold str
  refine congrArg (fun b => Ending.returned (.string b)) (bytes_ext ?_)
  rw [hS.out, if_pos hn]
  have hEd : E.data.toList = (decDigits (100000 + m % 100000)).drop 1 := by
   rw [← hE.out, bytes_cut, hP.out]
   show ((decDigits (100000 + m % 100000)).take 6).drop 1 = _
   rw [List.take_of_length_le (by rw [six _ (Nat.mod_lt _ (by omega))]; omega)]
  have hEl : E.data.toList.length = 5 := by rw [hEd, List.length_drop, six _ (Nat.mod_lt _ (by omega))]
  have hTd : T.data.toList = trimRightB (E.data.toList.drop 1) 48 := by
   rw [hT.out]
   show trimRightB (E.extract 1 5).data.toList 48 = _
   rw [bytes_cut, List.take_of_length_le (by omega)]
  have hF : (E.extract 0 1 ++ T).data.toList = F := by
   rw [hfr.out, bytes_app, bytes_cut, hTd, hEd]; rfl
  rw [bytes_app, bytes_app, bytes_app, hF]
  simp
 ·have e1 : IntKind.u64.wrap n = U := by rw [hU.out, IntKind.wrap_u64]; omega
  clear hm hm2
  go_enter Tryz.func103, Tryz.ntmps103
  go_wp2_with (first
   | (go_at_call 138; (with_reducible refine (G1.out _ htab).mono ?_); rintro e w1 ⟨rfl, hw1⟩; have ht1 := htab.below hw1; have g2 := G2.out _ ht1; clear htab)
   | (go_at_call 138; (with_reducible refine g2.mono ?_); rintro e w2 ⟨rfl, hw2⟩))
  have hEs : (P.extract 1 6).size = 5 := by rw [ByteArray.size_extract]; omega
  generalize hE : P.extract 1 6 = E at *
  replace hE := hi_ hE
  have tr := fun w => Tryz.strings_TrimRight_one (E.extract 1 5) 48 (by decide) w (by rw [ByteArray.size_extract]; omega)
  obtain ⟨T, hT⟩ : ∃ T : ByteArray, T = ⟨(trimRightB (E.extract 1 5).data.toList 48).toArray⟩ := ⟨_, rfl⟩
  rw [← hT] at tr
  replace hT := hi_ hT
  have hTs : T.size ≤ 4 := by
   rw [hT.out]
   show (trimRightB (E.extract 1 5).data.toList 48).toArray.size ≤ 4
   rw [List.size_toArray]
   refine Nat.le_trans (trim_le _ _) ?_
   have : (E.extract 1 5).data.toList.length = (E.extract 1 5).size := by simp; omega
   rw [this, ByteArray.size_extract]; omega
  have hTs2 : ¬ 9223372036854775807 < 1 + T.size := by omega
  go_quiet ((go_at_call 139; refine Calls.quiet_of_same (tr _)))
  have hb1 := below_drawn w1 nq
  go_wp2_with (go_at_call 138; (with_reducible refine (G2.out _ (ht1.below hb1)).mono ?_); rintro e w2 ⟨rfl, hw2⟩; unfold str)
  go_ret
  refine ⟨?_, bthen (bthen hw1 hb1) hw2⟩
  unfold str
  refine congrArg (fun b => Ending.returned (.string b)) (bytes_ext ?_)
  rw [hS.out, if_neg (by omega)]
  have hEd : E.data.toList = (decDigits (100000 + m % 100000)).drop 1 := by
   rw [← hE.out, bytes_cut, hP.out]
   show ((decDigits (100000 + m % 100000)).take 6).drop 1 = _
   rw [List.take_of_length_le (by rw [six _ (Nat.mod_lt _ (by omega))]; omega)]
  have hEl : E.data.toList.length = 5 := by rw [hEd, List.length_drop, six _ (Nat.mod_lt _ (by omega))]
  have hTd : T.data.toList = trimRightB (E.data.toList.drop 1) 48 := by
   rw [hT.out]
   show trimRightB (E.extract 1 5).data.toList 48 = _
   rw [bytes_cut, List.take_of_length_le (by omega)]
  have hF : (E.extract 0 1 ++ T).data.toList = F := by
   rw [hfr.out, bytes_app, bytes_cut, hTd, hEd]; rfl
  rw [bytes_app, bytes_app, bytes_app, hF]
  simp
theorem fixed_Text_whole (n : Int) (h : i64 n) (w : World) (htab : Tab w) :
 Calls Tryz.prog 103 #[.int .i64 n, .bool true] w fun e w' => e = .returned (str (textL n true)) ∧ Below w.heap.size w w' := by
 have c := str_FormatInt n h w htab
 have hS : textL n true = itoa n := rfl
 rw [hS]
 generalize itoa n = S at *
 go_enter Tryz.func103, Tryz.ntmps103
 go_wp2_with (go_at_call 137; (with_reducible refine c.mono ?_); rintro e w1 ⟨rfl, hw1⟩)
 go_ret
 exact ⟨rfl, hw1⟩
end
section
open Go Go.RowKit Go.Wk Go.Sort Go.Lib

end
end Go.Proofs.YthffpbkndnhlfaaGreatDoor
namespace Go.Proofs
section
open Go.Shelf
def Tryz.lays137_ren : Go.Shelf.Ren := ⟨fun | 137 => 84 | 217 => 120 | 266 => 156 | n => n, fun | 9 => 9 | 5 => 5 | 3 => 3 | n => n, fun | n => n⟩
theorem Tryz.lays137 : Go.Proofs.Lays.n137 Tryz.prog Tryz.lays137_ren := {
 mixed := by kernel_rfl
 f137 := Tryz.func84.trans (congrArg some (by kernel_rfl))
 f217 := Tryz.func120.trans (congrArg some (by kernel_rfl))
 f266 := Tryz.func156.trans (congrArg some (by kernel_rfl))
 t3 := Tryz.underlying3
 a3 := Tryz.isAgg3
 z3 := Tryz.sizeOf3
 v3 := Tryz.zeroValue3
 t5 := Tryz.underlying5
 a5 := Tryz.isAgg5
 z5 := Tryz.sizeOf5
 v5 := Tryz.zeroValue5
 t9 := Tryz.underlying9
 a9 := Tryz.isAgg9
 z9 := Tryz.sizeOf9
 v9 := Tryz.zeroValue9 }
open Go.RowKit in
theorem Tryz.strings_IndexByte (s : ByteArray) (c : Int) (w : World) :
 Calls Tryz.prog 84 #[.string s, .int .u8 c] w fun e w' => e = .returned (.int .i64 (Lib.indexByte s.data.toList c.toNat.toUInt8)) ∧ w' = w := Any.strings_IndexByte Tryz.lays137 s c w
def Tryz.lays144_ren : Go.Shelf.Ren := ⟨fun | 144 => 164 | 143 => 196 | 219 => 213 | 217 => 120 | 225 => 220 | 224 => 221 | 267 => 222 | 266 => 156 | 314 => 226 | n => n, fun | 9 => 9 | 4 => 4 | 3 => 3 | 5 => 5 | 46 => 151 | 146 => 186 | 51 => 185 | n => n, fun | 1 => 0 | n => n⟩
theorem Tryz.lays144 : Go.Proofs.Lays.n144 Tryz.prog Tryz.lays144_ren := {
 mixed := by kernel_rfl
 f143 := Tryz.func196.trans (congrArg some (by kernel_rfl))
 f144 := Tryz.func164.trans (congrArg some (by kernel_rfl))
 f217 := Tryz.func120.trans (congrArg some (by kernel_rfl))
 f219 := Tryz.func213.trans (congrArg some (by kernel_rfl))
 f224 := Tryz.func221.trans (congrArg some (by kernel_rfl))
 f225 := Tryz.func220.trans (congrArg some (by kernel_rfl))
 f266 := Tryz.func156.trans (congrArg some (by kernel_rfl))
 f267 := Tryz.func222.trans (congrArg some (by kernel_rfl))
 f314 := Tryz.func226.trans (congrArg some (by kernel_rfl))
 t3 := Tryz.underlying3
 a3 := Tryz.isAgg3
 z3 := Tryz.sizeOf3
 v3 := Tryz.zeroValue3
 t4 := Tryz.underlying4
 a4 := Tryz.isAgg4
 z4 := Tryz.sizeOf4
 v4 := Tryz.zeroValue4
 t5 := Tryz.underlying5
 a5 := Tryz.isAgg5
 z5 := Tryz.sizeOf5
 v5 := Tryz.zeroValue5
 t9 := Tryz.underlying9
 a9 := Tryz.isAgg9
 z9 := Tryz.sizeOf9
 v9 := Tryz.zeroValue9
 t46 := Tryz.underlying151
 a46 := Tryz.isAgg151
 z46 := Tryz.sizeOf151
 v46 := Tryz.zeroValue151
 t51 := Tryz.underlying185
 a51 := Tryz.isAgg185
 z51 := Tryz.sizeOf185
 v51 := Tryz.zeroValue185
 t146 := Tryz.underlying186
 a146 := Tryz.isAgg186
 z146 := Tryz.sizeOf186
 v146 := Tryz.zeroValue186
 g1 := by kernel_rfl }
open Go.RowKit Go.Lib in
theorem Tryz.strings_Contains_one (s : ByteArray) (c : UInt8) (w : World) :
 Calls Tryz.prog 164 #[.string s, .string ⟨#[c]⟩] w fun e w' => e = .returned (.bool (decide (0 ≤ Lib.indexByte s.data.toList c))) ∧ w' = w := Any.strings_Contains_one Tryz.lays144 s c w
def Tryz.laysSlJ14_ren : Go.Shelf.Ren := ⟨fun | 14 => 175 | 15 => 181 | n => n, fun | 26 => 210 | 22 => 22 | 3 => 3 | 4 => 4 | 0 => 0 | 9 => 9 | 20 => 20 | 5 => 5 | n => n, fun | n => n⟩
theorem Tryz.laysSlJ14 : Go.Proofs.SlLaysJ.n14 Tryz.prog Tryz.laysSlJ14_ren := {
 mixed := by kernel_rfl
 f14 := Tryz.func175.trans (congrArg some (by kernel_rfl))
 f15 := Tryz.func181.trans (congrArg some (by kernel_rfl))
 t0 := Tryz.underlying0
 a0 := Tryz.isAgg0
 z0 := Tryz.sizeOf0
 v0 := Tryz.zeroValue0
 t3 := Tryz.underlying3
 a3 := Tryz.isAgg3
 z3 := Tryz.sizeOf3
 v3 := Tryz.zeroValue3
 t4 := Tryz.underlying4
 a4 := Tryz.isAgg4
 z4 := Tryz.sizeOf4
 v4 := Tryz.zeroValue4
 t9 := Tryz.underlying9
 a9 := Tryz.isAgg9
 z9 := Tryz.sizeOf9
 v9 := Tryz.zeroValue9
 t20 := Tryz.underlying20
 a20 := Tryz.isAgg20
 z20 := Tryz.sizeOf20
 v20 := Tryz.zeroValue20
 t22 := Tryz.underlying22
 a22 := Tryz.isAgg22
 z22 := Tryz.sizeOf22
 v22 := Tryz.zeroValue22
 t26 := Tryz.underlying210
 a26 := Tryz.isAgg210
 z26 := Tryz.sizeOf210
 v26 := Tryz.zeroValue210
 t5 := Tryz.underlying5
 z5 := Tryz.sizeOf5
 i5 := by kernel_rfl }
open Go.RowKit Go.Lib in
theorem Tryz.bytes_Join_many (b o n c : Nat) (vs : List Value) (ls : List (List UInt8)) (sv : Value) (sep : List UInt8) (w : World) (hn : ls.length = n) (h2 : 2 ≤ n) (hP : Lib.PartsAt w ⟨b, o, none⟩ vs ls) (hcap : n ≤ c) (hS : Lib.HoldsBytes w sv sep) (hn47 : n ≤ 140737488355328) (hlen : Lib.lens ls + sep.length * (n - 1) ≤ 140737488355328) :
 Calls Tryz.prog 175 #[.slice (some ⟨b, o, none⟩) n c, sv] w fun e w' => ∃ v', e = .returned v' ∧ Lib.FreshBytes w.heap.size w' v' (Lib.join ls sep) ∧ Below w.heap.size w w' := Any.bytes_Join_many Tryz.laysSlJ14 b o n c vs ls sv sep w hn h2 hP hcap hS hn47 hlen
end
end Go.Proofs
namespace Go.Proofs.YthffpbkndnhlfaaGreatDoor
open Go Go.RowKit Go.Wk
structure Own (B : Nat) (w : World) (v : Value) (bs : List UInt8) : Prop where
 row : w.ownsRow B 5 1 v bs.length (valsB bs)
theorem Own.nil (B : Nat) (w : World) : Own B w (.slice none 0 0) [] := ⟨World.ownsRow_nil _ _ _ _⟩
theorem Own.out {B : Nat} {w : World} {v : Value} {bs : List UInt8} (h : Own B w v bs) (hm : bs.length ≤ maxLen) : ∃ A c, v = .slice A bs.length c ∧ Byt w A bs ∧ (A = none → c = 0) := by
 obtain ⟨A, c, rfl, hb⟩ := own_byt h.row
 refine ⟨A, c, rfl, hb hm, ?_⟩
 rintro rfl
 rcases h.row.2 with ⟨e, _⟩ | ⟨g, cap, cur, e, _⟩
 ·injection e
 ·injection e with e; cases e
theorem Own.base {B B' : Nat} {w : World} {v : Value} {bs : List UInt8} (h : Own B' w v bs) (hB : B ≤ B') : Own B w v bs := by
 refine ⟨h.row.1, ?_⟩
 rcases h.row.2 with h2 | ⟨g, cap, cur, e, hB', rest⟩
 ·exact .inl h2
 ·exact .inr ⟨g, cap, cur, e, Nat.le_trans hB hB', rest⟩
theorem Own.below {B : Nat} {w w' : World} {v : Value} {bs : List UInt8} (h : Own B w v bs) (hb : Below w.heap.size w w') : Own B w' v bs := by
 refine ⟨h.row.1, ?_⟩
 rcases h.row.2 with h2 | ⟨g, cap, cur, e, hB, hh, rest⟩
 ·exact .inl h2
 ·exact .inr ⟨g, cap, cur, e, hB, (hb.block g (Array.getElem?_eq_some_iff.1 hh).1).trans hh, rest⟩
def RB (w : World) (bs : List UInt8) (e : Ending) (w' : World) : Prop := ∃ A c, e = .returned (.slice A bs.length c) ∧ Byt w' A bs ∧ (A = none → c = 0) ∧ Below w.heap.size w w'
def RO (w : World) (bs : List UInt8) (e : Ending) (w' : World) : Prop := ∃ v, e = .returned v ∧ Own w.heap.size w' v bs ∧ Below w.heap.size w w'
theorem RO.rb {w w' : World} {bs : List UInt8} {e : Ending} (h : RO w bs e w') (hm : bs.length ≤ maxLen) : RB w bs e w' := by
 obtain ⟨v, rfl, h1, h2⟩ := h
 obtain ⟨A, c, rfl, h3, h4⟩ := h1.out hm
 exact ⟨A, c, rfl, h3, h4, h2⟩
theorem byte_info : ∃ i, Tryz.prog.info? 5 = some i ∧ i.zero = some (.int .u8 0) ∧ i.size = 1 ∧ i.bytes = 1 := ⟨Tryz.t5, by kernel_rfl, by kernel_rfl, by kernel_rfl, by kernel_rfl⟩
theorem app_b {w : World} {ops : Array Oper} {rest : List Oper} {o : Oper} {a : Act} {Q : Exit → Act → World → Prop} (hgd : o.guard = none) (s x : Operand)
 (ho : o.op = .call { callee := .builtin .append, args := #[s, x], argTypes := #[22, 22] }) (B : Nat) (v : Value) (out : List UInt8) (hs : a.eval s = v) (hown : Own B w v out)
 (A : Option Addr) (n c : Nat) (bs : List UInt8) (hx : a.eval x = .slice A n c) (hn : n = bs.length) (hb : Byt w A bs) (hA : A = none → c = 0) (hl : out.length + bs.length ≤ 70368744177664) (hB : B ≤ w.heap.size)
 (h : ∀ v' w', Own B w' v' (out ++ bs) → Below B w w' → wpList Tryz.prog ops Q rest (a.put o.dst v') w') : wpList Tryz.prog ops Q (o :: rest) a w := by
 obtain ⟨i0, hi, hz0, hz1, hz2⟩ := byte_info
 cases A with
 | none =>
  have hbs : bs = [] := by
   cases bs with
   | nil => rfl
   | cons y l => obtain ⟨b, o, e, _⟩ := hb.2 (by simp); cases e
  subst hbs
  have hc := hA rfl
  subst hc
  obtain rfl : n = 0 := hn
  refine wpList_append_own_none hgd s x 22 ho B 5 i0 1 Tryz.underlying22 hi v out.length (valsB out) hs hown.row hx ?_
  exact h v w (by rw [List.append_nil]; exact hown) (Below.refl _ _ |>.mono hB)
 | some ad =>
  refine wpList_append_own_at w hgd s x 22 ho B 5 i0 (.int .u8 0) 1 1 Tryz.underlying22 hi hz0 hz1 hz2 rfl (by decide) v out.length (valsB out) hs hown.row ad n c (valsB bs) hx (by rw [valsB_len, hn, Nat.mul_one]) hb.news (valsB_one bs) (by unfold maxLen; omega) (by omega) hB ?_
  intro v' w' h1 h2 _ h3
  refine h v' w' ⟨?_⟩ ((Below.refl _ _ |>.mono hB).grown h2 hB fun k hk => (hown.row.lt k hk).1)
  rw [List.length_append, valsB_app, ← hn]
  exact h1
theorem app_s {w : World} {ops : Array Oper} {rest : List Oper} {o : Oper} {a : Act} {Q : Exit → Act → World → Prop} (hgd : o.guard = none) (s x : Operand)
 (ho : o.op = .call { callee := .builtin .append, args := #[s, x], argTypes := #[22, 9] }) (B : Nat) (v : Value) (out : List UInt8) (hs : a.eval s = v) (hown : Own B w v out)
 (S : ByteArray) (bs : List UInt8) (hx : a.eval x = .string S) (hS : S.data.toList = bs) (hl : out.length + bs.length ≤ 70368744177664) (hB : B ≤ w.heap.size)
 (h : ∀ v' w', Own B w' v' (out ++ bs) → Below B w w' → wpList Tryz.prog ops Q rest (a.put o.dst v') w') : wpList Tryz.prog ops Q (o :: rest) a w := by
 obtain ⟨i0, hi, hz0, hz1, hz2⟩ := byte_info
 subst hS
 have hlen : S.data.toList.length = S.size := Array.length_toList
 refine Lib.wpList_append_own_string w hgd s x 22 9 ho B 5 i0 Tryz.underlying22 Tryz.underlying9 hi hz0 hz1 hz2 v out.length (valsB out) hs hown.row S hx (by unfold maxLen; omega) (by omega) hB ?_
 intro v' w' h1 h2 h3
 refine h v' w' ⟨?_⟩ ((Below.refl _ _ |>.mono hB).grown h2 hB fun k hk => (hown.row.lt k hk).1)
 have e : Lib.strCells S = valsB S.data.toList := rfl
 rw [List.length_append, valsB_app, hlen, ← e]
 exact h1
end Go.Proofs.YthffpbkndnhlfaaGreatDoor
namespace Go.Wk
open Go Go.RowKit Go.ChangeShapes
inductive Ob where
 | mk (k n : Int) (b : List UInt8) (l : List Ob) (d : List (List UInt8 × Ob))
mutual
def Ob.bulk : Ob → Nat
 | .mk _ _ b l d => b.length + bulkL l + bulkD d + 1
def bulkL : List Ob → Nat
 | [] => 0
 | o :: r => o.bulk + bulkL r
def bulkD : List (List UInt8 × Ob) → Nat
 | [] => 0
 | e :: r => e.1.length + e.2.bulk + 1 + bulkD r
end
theorem bulkL_at : ∀ (l : List Ob) (i : Nat) (h : i < l.length), l[i].bulk ≤ bulkL l
 | [], i, h => by simp at h
 | o :: r, 0, _ => by simp [bulkL]
 | o :: r, i + 1, h => by have := bulkL_at r i (by simpa using h); simp [bulkL]; omega
theorem bulkD_at : ∀ (l : List (List UInt8 × Ob)) (i : Nat) (h : i < l.length), l[i].1.length + l[i].2.bulk + 1 ≤ bulkD l
 | [], i, h => by simp at h
 | o :: r, 0, _ => by simp [bulkD]
 | o :: r, i + 1, h => by have := bulkD_at r i (by simpa using h); simp [bulkD]; omega
theorem bulk_pos (o : Ob) : 1 ≤ o.bulk := by cases o; simp [Ob.bulk]
theorem bulkL_len : ∀ (l : List Ob), l.length ≤ bulkL l
 | [] => Nat.le_refl _
 | o :: r => by have := bulkL_len r; have := bulk_pos o; simp [bulkL]; omega
theorem bulkD_len : ∀ (l : List (List UInt8 × Ob)), l.length ≤ bulkD l
 | [] => Nat.le_refl _
 | o :: r => by have := bulkD_len r; simp [bulkD]; omega
def strV (l : List UInt8) : Value := .string ⟨l.toArray⟩
inductive ObAt (w : World) : Ob → List Value → Prop
 | mk (k n : Int) (b : List UInt8) (l : List Ob) (d : List (List UInt8 × Ob)) (A AL AD : Option Addr) (c cL cD gL oL gD oD : Nat) (vl vd : Nat → List Value) :
  -9223372036854775808 ≤ k → k ≤ 9223372036854775807 → -9223372036854775808 ≤ n → n ≤ 9223372036854775807 → Byt w A b → b.length ≤ c → (A = none → c = 0) → l.length ≤ cL → l.length ≤ maxLen → d.length ≤ cD → d.length ≤ maxLen →
  (0 < l.length → AL = some ⟨gL, oL, none⟩) → (∀ i, (hi : i < l.length) → ObAt w l[i] (vl i)) → (∀ i, i < l.length → ∀ j, j < 5 → w.cell? ⟨gL, oL + (5 * i + j), none⟩ = (vl i)[j]?) →
  (0 < d.length → AD = some ⟨gD, oD, none⟩) → (∀ i, (hi : i < d.length) → ObAt w d[i].2 (vd i)) → (∀ i, (hi : i < d.length) → d[i].1.length ≤ maxLen ∧ w.cell? ⟨gD, oD + 6 * i, none⟩ = some (strV d[i].1)) → (∀ i, i < d.length → ∀ j, j < 5 → w.cell? ⟨gD, oD + (6 * i + 1 + j), none⟩ = (vd i)[j]?) →
  ObAt w (.mk k n b l d) [.int .i64 k, .int .i64 n, .slice A b.length c, .slice AL l.length cL, .slice AD d.length cD]
theorem ObAt.five {w : World} {o : Ob} {vs : List Value} (h : ObAt w o vs) : vs.length = 5 := by cases h; rfl
theorem ObAt.kept {w w' : World} {o : Ob} {vs : List Value} (h : ObAt w o vs) (hb : Below w.heap.size w w') : ObAt w' o vs := by
 induction h with
 | mk k n b l d A AL AD c cL cD gL oL gD oD vl vd h1 h2 h3 h4 h5 h6 h7 h8 h9 h10 h11 h12 h13 h14 h15 h16 h17 h18 ihl ihd =>
  have keep : ∀ {p : Addr} {v : Option Value}, (∃ u, v = some u) → w.cell? p = v → w'.cell? p = v := fun {p v} hv hp => by
   obtain ⟨u, rfl⟩ := hv
   rw [hb.cell (cell_lt hp)]; exact hp
  have five : ∀ (vs : List Value) (j : Nat), vs.length = 5 → j < 5 → ∃ u, vs[j]? = some u := fun vs j h hj => ⟨vs[j], List.getElem?_eq_getElem (by omega)⟩
  exact .mk k n b l d A AL AD c cL cD gL oL gD oD vl vd h1 h2 h3 h4 (h5.below hb) h6 h7 h8 h9 h10 h11 h12 ihl (fun i hi j hj => keep (five _ j (h13 i hi).five hj) (h14 i hi j hj)) h15 ihd
   (fun i hi => ⟨(h17 i hi).1, keep ⟨_, rfl⟩ (h17 i hi).2⟩) (fun i hi j hj => keep (five _ j (h16 i hi).five hj) (h18 i hi j hj))
section
variable {H : Type} {enc : TypeId × Value → H} {P : Program} {w : World} {base : Nat} {sp : Nat → Bool} {held : Bool}
structure ObTy (P : Program) (tO tE tB tL tD tI tN tS u8 : TypeId) : Prop where
 o : ∃ fs, P.underlying tO = some (.struct fs) ∧ fs.toList.map (fun f => (f.type, f.offset)) = [(tI, 0), (tN, 1), (tB, 2), (tL, 3), (tD, 4)]
 e : ∃ fs, P.underlying tE = some (.struct fs) ∧ fs.toList.map (fun f => (f.type, f.offset)) = [(tS, 0), (tO, 1)]
 b : P.underlying tB = some (.slice u8)
 u : P.underlying u8 = some (.int .u8)
 l : P.underlying tL = some (.slice tO)
 d : P.underlying tD = some (.slice tE)
 i : P.underlying tI = some (.int .i64)
 n : P.underlying tN = some (.int .i64)
 s : P.underlying tS = some .string
 co : P.cellsOf tO = 5
 ce : P.cellsOf tE = 6
 cb : P.cellsOf tB = 1
 cl : P.cellsOf tL = 1
 cd : P.cellsOf tD = 1
 ci : P.cellsOf tI = 1
 cn : P.cellsOf tN = 1
 cs : P.cellsOf tS = 1
 cu : P.cellsOf u8 = 1
theorem fields_at {fs : Array Field} {l : List (TypeId × Nat)} (h : fs.toList.map (fun f => (f.type, f.offset)) = l) {i : Nat} {t o : Nat} (hi : l[i]? = some (t, o)) : ∃ f, fs[i]? = some f ∧ f.type = t ∧ f.offset = o := by
 rw [← h, List.getElem?_map] at hi
 cases hf : fs[i]? with
 | none => rw [← Array.getElem?_toList] at hf; rw [hf] at hi; cases hi
 | some f =>
  rw [← Array.getElem?_toList] at hf
  rw [hf] at hi
  injection hi with hi
  injection hi with h1 h2
  exact ⟨f, rfl, h1, h2⟩
theorem i64_wf {n : Int} (h : (Lit.int .i64 n).wf = true) : -9223372036854775808 ≤ n ∧ n ≤ 9223372036854775807 := by
 simpa [Lit.wf, IntKind.min, IntKind.max, IntKind.signed, IntKind.bits] using h
theorem rows_at {e k : Nat} {a : Addr} {len n : Nat} {elems : List (DataW H × List MemPlace)} (hce : P.cellsOf e = k) (hlen : elems.length = len)
 (hel : ∀ i, i < len → (w.cells? base (a.add (i * P.cellsOf e)) (P.cellsOf e)).bind (DataW.trod enc P w base sp held n e) = elems[i]?) :
 ∀ i, i < len → ∃ cs x, cs.length = k ∧ elems[i]? = some x ∧ DataW.trod enc P w base sp held n e cs = some x ∧ ∀ j, j < k → w.cell? (a.add (k * i + j)) = cs[j]? := by
 intro i hi
 have h1 := hel i hi
 rw [List.getElem?_eq_getElem (by omega), hce] at h1
 cases hcs : w.cells? base (a.add (i * k)) k with
 | none => rw [hcs] at h1; cases h1
 | some cs =>
  rw [hcs] at h1
  obtain ⟨h0, h2, h3⟩ := World.cells?_some hcs
  refine ⟨cs, _, h2, List.getElem?_eq_getElem (by omega), h1, fun j hj => ?_⟩
  have := h3 j (by omega)
  rw [← this, Addr.add_add, Nat.mul_comm k i]
structure BulkLaw {H : Type} (B : DataW H → Nat) (BA : List (DataW H) → Nat) : Prop where
 pos : ∀ d, 1 ≤ B d
 str : ∀ b, B (.lit (.string b)) = b.length + 1
 slice : ∀ e s, B (.slice e s) = BA e + BA s + 1
 agg : ∀ p, B (.agg p) = BA p + 1
 nil : BA [] = 0
 cons : ∀ d r, BA (d :: r) = B d + BA r
theorem BulkLaw.len {B : DataW H → Nat} {BA : List (DataW H) → Nat} (M : BulkLaw B BA) : ∀ l, l.length ≤ BA l := by
 intro l
 induction l with
 | nil => simp
 | cons d r ih => have := M.pos d; rw [M.cons]; simp; omega
theorem BulkLaw.sumL {B : DataW H → Nat} {BA : List (DataW H) → Nat} (M : BulkLaw B BA) : ∀ (l : List Ob) (E : List (DataW H)), l.length = E.length → (∀ i (h : i < l.length) (h' : i < E.length), l[i].bulk ≤ B E[i]) → bulkL l ≤ BA E := by
 intro l
 induction l with
 | nil => intro E _ _; simp [bulkL]
 | cons o r ih =>
  intro E hl h
  cases E with
  | nil => simp at hl
  | cons d E =>
   have h0 := h 0 (by simp) (by simp)
   have := ih E (by simpa using hl) fun i h1 h2 => by have := h (i + 1) (by simpa using h1) (by simpa using h2); simpa using this
   rw [M.cons]
   simp only [bulkL]
   simp at h0
   omega
theorem BulkLaw.sumD {B : DataW H → Nat} {BA : List (DataW H) → Nat} (M : BulkLaw B BA) : ∀ (l : List (List UInt8 × Ob)) (E : List (DataW H)), l.length = E.length → (∀ i (h : i < l.length) (h' : i < E.length), l[i].1.length + l[i].2.bulk + 1 ≤ B E[i]) → bulkD l ≤ BA E := by
 intro l
 induction l with
 | nil => intro E _ _; simp [bulkD]
 | cons o r ih =>
  intro E hl h
  cases E with
  | nil => simp at hl
  | cons d E =>
   have h0 := h 0 (by simp) (by simp)
   have := ih E (by simpa using hl) fun i h1 h2 => by have := h (i + 1) (by simpa using h1) (by simpa using h2); simpa using this
   rw [M.cons]
   simp only [bulkD]
   simp at h0
   omega
theorem byt_bulk {B : DataW H → Nat} {BA : List (DataW H) → Nat} (M : BulkLaw B BA) {tB u8 : TypeId} (hb : P.underlying tB = some (.slice u8)) {fuel : Nat} {A : Option Addr} {len c : Nat} {x : DataW H × List MemPlace} (h : DataW.trod enc P w base sp held fuel tB [.slice A len c] = some x) : len ≤ B x.1 := by
 rcases DataW.trod_slice hb h with ⟨e, _⟩ | ⟨a, len', cap, elems, rest, n', rfl, e, rfl, _, _, _, hlen, _⟩
 ·injection e with e; injection e with _ e _; omega
 ·injection e with e
  injection e with _ e _
  rw [M.slice]
  have := M.len (elems.map (·.1))
  simp at this
  omega
theorem open_obj {B : DataW H → Nat} {BA : List (DataW H) → Nat} (M : BulkLaw B BA) {tO tE tB tL tD tI tN tS u8 : TypeId} (T : ObTy P tO tE tB tL tD tI tN tS u8) : ∀ (fuel : Nat) (cs : List Value) (x : DataW H × List MemPlace), DataW.trod enc P w base sp held fuel tO cs = some x → ∃ o, ObAt w o cs ∧ o.bulk ≤ B x.1 := by
 intro fuel
 induction fuel using Nat.strongRecOn with
 | _ fuel ih =>
  intro cs x h
  obtain ⟨fs, hfs, hfl⟩ := T.o
  obtain ⟨xs, n, rfl, ex, hcl, hxl, hF⟩ := DataW.trod_struct hfs h
  have hsz : fs.size = 5 := by have := congrArg List.length hfl; simpa using this
  rw [T.co] at hcl
  have fld : ∀ i t o, [(tI, 0), (tN, 1), (tB, 2), (tL, 3), (tD, 4)][i]? = some (t, o) → ∃ y, DataW.trod enc P w base sp held n t ((cs.drop o).take (P.cellsOf t)) = some y := fun i t o hi => by
   obtain ⟨f, hf, rfl, rfl⟩ := fields_at hfl hi
   have hil : i < xs.length := by
    have := (Array.getElem?_eq_some_iff.1 hf).1; omega
   exact ⟨_, (hF i f hf).trans (List.getElem?_eq_getElem hil)⟩
  match cs, hcl with
  | [c0, c1, c2, c3, c4], _ =>
   obtain ⟨y0, z0⟩ := fld 0 tI 0 rfl
   obtain ⟨y1, z1⟩ := fld 1 tN 1 rfl
   obtain ⟨y2, z2⟩ := fld 2 tB 2 rfl
   obtain ⟨y3, z3⟩ := fld 3 tL 3 rfl
   obtain ⟨y4, z4⟩ := fld 4 tD 4 rfl
   rw [T.ci] at z0
   rw [T.cn] at z1
   rw [T.cb] at z2
   rw [T.cl] at z3
   rw [T.cd] at z4
   obtain ⟨k, e0, _, w0⟩ := DataW.trod_int T.i (show DataW.trod enc P w base sp held n tI [c0] = some y0 from z0)
   obtain ⟨m, e1, _, w1⟩ := DataW.trod_int T.n (show DataW.trod enc P w base sp held n tN [c1] = some y1 from z1)
   obtain ⟨A, c, bs, e2, hB, hBn, hBl⟩ := open_byt T.b T.u T.cu (show DataW.trod enc P w base sp held n tB [c2] = some y2 from z2)
   injection e0 with e0
   injection e1 with e1
   injection e2 with e2
   subst e0 e1 e2
   have z3 : DataW.trod enc P w base sp held n tL [c3] = some y3 := z3
   have z4 : DataW.trod enc P w base sp held n tD [c4] = some y4 := z4
   have z2 : DataW.trod enc P w base sp held n tB [Value.slice A bs.length c] = some y2 := z2
   have b2 := byt_bulk M T.b z2
   have fx : ∀ i t o y, [(tI, 0), (tN, 1), (tB, 2), (tL, 3), (tD, 4)][i]? = some (t, o) → DataW.trod enc P w base sp held n t ((([Value.int .i64 k, .int .i64 m, .slice A bs.length c, c3, c4] : List Value).drop o).take (P.cellsOf t)) = some y → xs[i]? = some y := fun i t o y hi hy => by
    obtain ⟨f, hf, rfl, rfl⟩ := fields_at hfl hi
    rw [← hF i f hf]; exact hy
   have X2 := fx 2 tB 2 y2 rfl (by rw [T.cb]; exact z2)
   have X3 := fx 3 tL 3 y3 rfl (by rw [T.cl]; exact z3)
   have X4 := fx 4 tD 4 y4 rfl (by rw [T.cd]; exact z4)
   have hbulk : B y2.1 + B y3.1 + B y4.1 + 1 ≤ B (.agg (xs.map (·.1))) := by
    rw [M.agg]
    have hl5 : xs.length = 5 := by omega
    match xs, hl5 with
    | [x0, x1, x2, x3, x4], _ =>
     simp at X2 X3 X4
     subst X2 X3 X4
     have := M.pos x0.1
     have := M.pos x1.1
     simp only [List.map_cons, List.map_nil, M.cons, M.nil]
     omega
   -- the items
   have items : ∃ (l : List Ob) (AL : Option Addr) (cL gL oL : Nat) (vl : Nat → List Value), c3 = .slice AL l.length cL ∧ l.length ≤ cL ∧ l.length ≤ maxLen ∧ (0 < l.length → AL = some ⟨gL, oL, none⟩) ∧ (∀ i, (hi : i < l.length) → ObAt w l[i] (vl i)) ∧ (∀ i, i < l.length → ∀ j, j < 5 → w.cell? ⟨gL, oL + (5 * i + j), none⟩ = (vl i)[j]?) ∧ bulkL l ≤ B y3.1 := by
    rcases DataW.trod_slice T.l z3 with ⟨e3, _⟩ | ⟨a, len, cap, elems, rest, n', rfl, e3, ey, hb, hlc, hcm, hlen, hel, _⟩
    ·injection e3 with e3
     exact ⟨[], none, 0, 0, 0, fun _ => [], e3, Nat.le_refl _, Nat.zero_le _, fun h => by simp at h, fun i hi => by simp at hi, fun i hi => by simp at hi, by simp [bulkL]⟩
    ·injection e3 with e3
     have each : ∀ i, i < len → ∃ p : Ob × List Value, ObAt w p.1 p.2 ∧ (∃ h : i < elems.length, p.1.bulk ≤ B elems[i].1) ∧ ∀ j, j < 5 → w.cell? (a.add (5 * i + j)) = p.2[j]? := fun i hi => by
      obtain ⟨cs, x, hc5, hx, ht, hj⟩ := rows_at T.co hlen hel i hi
      obtain ⟨o, ho, hob⟩ := ih n' (by omega) cs x ht
      obtain ⟨hil, rfl⟩ := List.getElem?_eq_some_iff.1 hx
      exact ⟨(o, cs), ho, ⟨hil, hob⟩, hj⟩
     obtain ⟨ps, hps, hp⟩ := list_of each
     obtain ⟨g, o, spot⟩ := a
     refine ⟨ps.map (·.1), some ⟨g, o, spot⟩, cap, g, o, fun i => (ps.map (·.2)).getD i [], by rw [e3, List.length_map, hps], by rw [List.length_map]; omega, by rw [List.length_map]; omega, fun h0 => ?_, fun i hi => ?_, fun i hi j hj => ?_, ?_⟩
     ·rw [List.length_map] at h0
      have h1 := (hp 0 h0).2.2 0 (by omega)
      have h5 := (hp 0 h0).1.five
      rw [List.getElem?_eq_getElem (by omega)] at h1
      have hspot : spot = none := by simpa [Addr.add] using World.cell?_spot h1
      rw [hspot]
     ·rw [List.length_map] at hi
      have := (hp i hi).1
      simp only [List.getElem_map]
      rw [List.getD_eq_getElem?_getD, List.getElem?_map, List.getElem?_eq_getElem hi]
      exact this
     ·rw [List.length_map] at hi
      have h1 := (hp i hi).2.2 j hj
      have hspot : spot = none := by
       have h2 := (hp 0 (by omega)).2.2 0 (by omega)
       have h5 := (hp 0 (by omega)).1.five
       rw [List.getElem?_eq_getElem (by omega)] at h2
       simpa [Addr.add] using World.cell?_spot h2
      subst hspot
      rw [add_none] at h1
      show _ = ((ps.map (·.2)).getD i [])[j]?
      rw [List.getD_eq_getElem?_getD, List.getElem?_map, List.getElem?_eq_getElem hi]
      exact h1
     ·rw [ey, M.slice]
      have := M.sumL (ps.map (·.1)) (elems.map (·.1)) (by simp; omega) fun i h1 h2 => by
       simp only [List.getElem_map]
       exact (hp i (by simpa using h1)).2.1.2
      show bulkL _ ≤ BA (elems.map (·.1)) + _ + 1
      omega
   -- the entries
   have entries : ∃ (d : List (List UInt8 × Ob)) (AD : Option Addr) (cD gD oD : Nat) (vd : Nat → List Value), c4 = .slice AD d.length cD ∧ d.length ≤ cD ∧ d.length ≤ maxLen ∧ (0 < d.length → AD = some ⟨gD, oD, none⟩) ∧ (∀ i, (hi : i < d.length) → ObAt w d[i].2 (vd i)) ∧ (∀ i, (hi : i < d.length) → d[i].1.length ≤ maxLen ∧ w.cell? ⟨gD, oD + 6 * i, none⟩ = some (strV d[i].1)) ∧ (∀ i, i < d.length → ∀ j, j < 5 → w.cell? ⟨gD, oD + (6 * i + 1 + j), none⟩ = (vd i)[j]?) ∧ bulkD d ≤ B y4.1 := by
    rcases DataW.trod_slice T.d z4 with ⟨e4, _⟩ | ⟨a, len, cap, elems, rest, n', rfl, e4, ey, hb, hlc, hcm, hlen, hel, _⟩
    ·injection e4 with e4
     exact ⟨[], none, 0, 0, 0, fun _ => [], e4, Nat.le_refl _, Nat.zero_le _, fun h => by simp at h, fun i hi => by simp at hi, fun i hi => by simp at hi, fun i hi => by simp at hi, by simp [bulkD]⟩
    ·injection e4 with e4
     obtain ⟨gs, hgs, hgl⟩ := T.e
     have each : ∀ i, i < len → ∃ p : (List UInt8 × Ob) × List Value, ObAt w p.1.2 p.2 ∧ p.1.1.length ≤ maxLen ∧ w.cell? (a.add (6 * i)) = some (strV p.1.1) ∧ (∃ h : i < elems.length, p.1.1.length + p.1.2.bulk + 1 ≤ B elems[i].1) ∧ ∀ j, j < 5 → w.cell? (a.add (6 * i + 1 + j)) = p.2[j]? := fun i hi => by
      obtain ⟨cs, x, hc6, hx, ht, hj⟩ := rows_at T.ce hlen hel i hi
      obtain ⟨hil, hxe⟩ := List.getElem?_eq_some_iff.1 hx
      obtain ⟨ys, n2, rfl, exx, hcl2, hyl, hF2⟩ := DataW.trod_struct hgs ht
      have hsz2 : gs.size = 2 := by have := congrArg List.length hgl; simpa using this
      obtain ⟨f0, hf0, t0, o0⟩ := fields_at hgl (i := 0) rfl
      obtain ⟨f1, hf1, t1, o1⟩ := fields_at hgl (i := 1) rfl
      have a0 := hF2 0 f0 hf0
      have a1 := hF2 1 f1 hf1
      have y0 : 0 < ys.length := by omega
      have y1 : 1 < ys.length := by omega
      rw [t0, o0, T.cs, List.getElem?_eq_getElem y0] at a0
      rw [t1, o1, T.co, List.getElem?_eq_getElem y1] at a1
      match cs, hc6 with
      | [d0, d1, d2, d3, d4, d5], _ =>
       obtain ⟨s, es, ey0, hs⟩ := DataW.trod_string T.s (show DataW.trod enc P w base sp held n2 tS [d0] = some _ from a0)
       injection es with es
       obtain ⟨o, ho, hob⟩ := ih n2 (by omega) [d1, d2, d3, d4, d5] _ a1
       refine ⟨((s.data.toList, o), [d1, d2, d3, d4, d5]), ho, ?_, ?_, ⟨hil, ?_⟩, fun j hj' => ?_⟩
       ·have : s.data.toList.length = s.size := Array.length_toList
        show s.data.toList.length ≤ maxLen
        rw [this]; exact hs
       ·have := hj 0 (by omega)
        rw [Nat.add_zero] at this
        rw [this, es]; rfl
       ·rw [hxe, exx, M.agg]
        have hl2 : ys.length = 2 := by omega
        match ys, hl2 with
        | [u0, u1], _ =>
         have ey0 : u0 = (.lit (.string s.data.toList), []) := ey0
         have hob : o.bulk ≤ B u1.1 := hob
         simp only [List.map_cons, List.map_nil, M.cons, M.nil, ey0, M.str]
         omega
       ·have := hj (1 + j) (by omega)
        rw [← Nat.add_assoc] at this
        rw [this]
        match j with
        | 0 => rfl
        | 1 => rfl
        | 2 => rfl
        | 3 => rfl
        | 4 => rfl
        | j + 5 => omega
     obtain ⟨ps, hps, hp⟩ := list_of each
     obtain ⟨g, o, spot⟩ := a
     have hspot : 0 < ps.length → spot = none := fun h0 => by
      have h1 := (hp 0 h0).2.2.1
      simpa [Addr.add] using World.cell?_spot h1
     refine ⟨ps.map (·.1), some ⟨g, o, spot⟩, cap, g, o, fun i => (ps.map (·.2)).getD i [], by rw [e4, List.length_map, hps], by rw [List.length_map]; omega, by rw [List.length_map]; omega, fun h0 => ?_, fun i hi => ?_, fun i hi => ?_, fun i hi j hj => ?_, ?_⟩
     ·rw [List.length_map] at h0; rw [hspot h0]
     ·rw [List.length_map] at hi
      have := (hp i hi).1
      simp only [List.getElem_map]
      rw [List.getD_eq_getElem?_getD, List.getElem?_map, List.getElem?_eq_getElem hi]
      exact this
     ·rw [List.length_map] at hi
      simp only [List.getElem_map]
      have h1 := (hp i hi).2.2.1
      rw [hspot (by omega), add_none] at h1
      exact ⟨(hp i hi).2.1, h1⟩
     ·rw [List.length_map] at hi
      have h1 := (hp i hi).2.2.2.2 j hj
      rw [hspot (by omega), add_none] at h1
      show _ = ((ps.map (·.2)).getD i [])[j]?
      rw [List.getD_eq_getElem?_getD, List.getElem?_map, List.getElem?_eq_getElem hi]
      exact h1
     ·rw [ey, M.slice]
      have := M.sumD (ps.map (·.1)) (elems.map (·.1)) (by simp; omega) fun i h1 h2 => by
       simp only [List.getElem_map]
       exact (hp i (by simpa using h1)).2.2.2.1.2
      show bulkD _ ≤ BA (elems.map (·.1)) + _ + 1
      omega
   obtain ⟨l, AL, cL, gL, oL, vl, rfl, i1, i2, i3, i4, i5, bL⟩ := items
   obtain ⟨d, AD, cD, gD, oD, vd, rfl, j1, j2, j3, j4, j5, j6, bD⟩ := entries
   exact ⟨.mk k m bs l d, .mk k m bs l d A AL AD c cL cD gL oL gD oD vl vd (i64_wf w0).1 (i64_wf w0).2 (i64_wf w1).1 (i64_wf w1).2 hB hBl hBn i1 i2 j1 j2 i3 i4 i5 j3 j4 j5 j6, by rw [ex]; simp only [Ob.bulk]; omega⟩
end
section
open Go
def ltB : List UInt8 → List UInt8 → Bool
 | _, [] => false
 | [], _ :: _ => true
 | a :: r, b :: s => if a < b then true else if b < a then false else ltB r s
def nameOk (s : List UInt8) : Bool := decide (s.length ≤ 127) && !s.contains 0
def spareB (k n : Int) (b : List UInt8) (l : List Ob) (d : List (List UInt8 × Ob)) : Bool :=
 (k == 1 || k == 2 || k == 3 || k == 9 || n == 0) && (k == 4 || k == 5 || k == 8 || b.length == 0) && (k == 6 || l.length == 0) && (k == 7 || k == 8 || d.length == 0)
def risesB : List (List UInt8 × Ob) → Bool
 | [] => true
 | [_] => true
 | a :: b :: r => ltB a.1 b.1 && risesB (b :: r)
def Ob.kind : Ob → Int
 | .mk k _ _ _ _ => k
mutual
def Ob.may (dep : Nat) : Ob → Bool
 | .mk k n b l d => spareB k n b l d && (
  if k = 0 then true
  else if k = 1 then decide (0 ≤ n ∧ n ≤ 1)
  else if k = 2 then decide (-2147483647 ≤ n ∧ n ≤ 2147483647)
  else if k = 3 then decide (-214748364799999 ≤ n ∧ n ≤ 214748364799999)
  else if k = 9 then decide (1 ≤ n ∧ n ≤ 8388607)
  else if k = 4 then decide (b.length ≤ 32767)
  else if k = 5 then nameOk b
  else if k = 6 then decide (0 < dep) && mayL (dep - 1) l
  else if k = 7 ∨ k = 8 then decide (0 < dep) && risesB d && decide (b.length ≤ 16777216) && mayD (dep - 1) d
  else false)
def mayL (dep : Nat) : List Ob → Bool
 | [] => true
 | o :: r => (o.kind != 8 && o.may dep) && mayL dep r
def mayD (dep : Nat) : List (List UInt8 × Ob) → Bool
 | [] => true
 | e :: r => (nameOk e.1 && e.2.kind != 0 && e.2.kind != 8 && e.2.may dep) && mayD dep r
end
def hexD (n : Nat) : UInt8 := if n < 10 then UInt8.ofNat (48 + n) else UInt8.ofNat (87 + n)
def hexS (b : List UInt8) : List UInt8 := b.flatMap fun c => [hexD (c.toNat / 16), hexD (c.toNat % 16)]
def regB (c : UInt8) : Bool := !(c == 0 || c == 9 || c == 10 || c == 12 || c == 13 || c == 32 || c == 40 || c == 41 || c == 60 || c == 62 || c == 91 || c == 93 || c == 123 || c == 125 || c == 47 || c == 37)
def nameC (c : UInt8) : List UInt8 := if 33 ≤ c.toNat ∧ c.toNat ≤ 126 ∧ c ≠ 35 ∧ regB c = true then [c] else 35 :: hexS [c]
def nameT (s : List UInt8) : List UInt8 := 47 :: s.flatMap nameC
def plainB (c : UInt8) : Bool := decide (32 ≤ c.toNat ∧ c.toNat ≤ 126) && c != 40 && c != 41 && c != 92
def textT (b : List UInt8) : List UInt8 := if b.all plainB then 40 :: (b ++ [41]) else 60 :: (hexS b ++ [62])
def fracL (f : Nat) : List UInt8 :=
 let p := (Lib.decDigits (100000 + f)).drop 1
 p.take 1 ++ Lib.trimRightB (p.drop 1) 48
def numT (n : Int) (whole : Bool) : List UInt8 := if whole then Lib.itoa n else (if n < 0 then [45] else []) ++ (Lib.decDigits (n.natAbs / 100000) ++ (46 :: fracL (n.natAbs % 100000)))
mutual
def Ob.show : Ob → List UInt8
 | .mk k n b l d =>
  if k = 1 then (if n = 1 then [116, 114, 117, 101] else [102, 97, 108, 115, 101])
  else if k = 2 then numT n true
  else if k = 3 then numT n false
  else if k = 4 then textT b
  else if k = 5 then nameT b
  else if k = 9 then numT n true ++ [32, 48, 32, 82]
  else if k = 6 then 91 :: (showL true l ++ [93])
  else if k = 7 ∨ k = 8 then 60 :: 60 :: (showD d ++ [62, 62])
  else [110, 117, 108, 108]
def showL (first : Bool) : List Ob → List UInt8
 | [] => []
 | o :: r => (if first then [] else [32]) ++ (o.show ++ showL false r)
def showD : List (List UInt8 × Ob) → List UInt8
 | [] => []
 | e :: r => nameT e.1 ++ (32 :: (e.2.show ++ showD r))
end
theorem showL_snoc : ∀ (l : List Ob) (f : Bool) (o : Ob), showL f (l ++ [o]) = showL f l ++ ((if f = true ∧ l = [] then [] else [32]) ++ o.show)
 | [], f, o => by cases f <;> simp [showL]
 | x :: l, f, o => by
  have := showL_snoc l false o
  simp only [List.cons_append, showL, this]
  simp
theorem showD_snoc : ∀ (l : List (List UInt8 × Ob)) (e : List UInt8 × Ob), showD (l ++ [e]) = showD l ++ (nameT e.1 ++ (32 :: e.2.show))
 | [], e => by simp [showD]
 | x :: l, e => by
  have := showD_snoc l e
  simp only [List.cons_append, showD, this]
  simp
theorem hexS_len (b : List UInt8) : (hexS b).length = 2 * b.length := by
 unfold hexS; induction b with
 | nil => rfl
 | cons x b ih => simp only [List.flatMap_cons, List.length_append, List.length_cons, List.length_nil, ih]; omega
theorem nameC_len (c : UInt8) : (nameC c).length ≤ 3 := by
 unfold nameC; split
 ·simp
 ·simp [hexS_len]
theorem nameT_len (s : List UInt8) : (nameT s).length ≤ 3 * s.length + 1 := by
 unfold nameT
 have : ∀ s : List UInt8, (s.flatMap nameC).length ≤ 3 * s.length := by
  intro s; induction s with
  | nil => simp
  | cons x s ih => have := nameC_len x; simp only [List.flatMap_cons, List.length_append, List.length_cons]; omega
 have := this s
 simp only [List.length_cons]; omega
theorem textT_len (b : List UInt8) : (textT b).length ≤ 2 * b.length + 2 := by
 unfold textT; split
 ·simp; omega
 ·simp [hexS_len]
theorem dec_len : ∀ (k u : Nat), u < 10 ^ (k + 1) → (Lib.decDigits u).length ≤ k + 1 := by
 intro k
 induction k with
 | zero => intro u h; rw [Lib.decDigits]; rw [dif_pos (by omega)]; simp
 | succ k ih =>
  intro u h
  rw [Lib.decDigits]
  split
  ·simp
  ·have := ih (u / 10) (by rw [Nat.pow_succ] at h; omega)
   simp only [List.length_append, List.length_cons, List.length_nil]; omega
theorem trim_len (l : List UInt8) (c : UInt8) : (Lib.trimRightB l c).length ≤ l.length := by
 unfold Lib.trimRightB
 have : ∀ k : List UInt8, (k.dropWhile (· == c)).length ≤ k.length := fun k => by
  induction k with
  | nil => simp
  | cons x k ih => simp only [List.dropWhile_cons]; split <;> simp <;> omega
 have := this l.reverse
 simp at this ⊢; omega
theorem numT_len (n : Int) (w : Bool) (h : -9223372036854775808 ≤ n ∧ n ≤ 9223372036854775807) : (numT n w).length ≤ 28 := by
 have h20 : ∀ u, u ≤ 9223372036854775808 → (Lib.decDigits u).length ≤ 19 := fun u hu => dec_len 18 u (by omega)
 unfold numT
 split
 ·unfold Lib.itoa
  split
  ·have := h20 n.natAbs (by omega); simp; omega
  ·have := h20 n.toNat (by omega); omega
 ·have h1 := h20 (n.natAbs / 100000) (by omega)
  have h2 := dec_len 5 (100000 + n.natAbs % 100000) (by omega)
  have h3 : (fracL (n.natAbs % 100000)).length ≤ 6 := by
   unfold fracL
   have := trim_len (((Lib.decDigits (100000 + n.natAbs % 100000)).drop 1).drop 1) 48
   simp only [List.length_append, List.length_take, List.length_drop] at this ⊢
   omega
  simp only [List.length_append, List.length_cons]
  have : (if n < 0 then [(45 : UInt8)] else []).length ≤ 1 := by split <;> simp
  omega
inductive Fits : Ob → Prop
 | mk (k n : Int) (b : List UInt8) (l : List Ob) (d : List (List UInt8 × Ob)) : -9223372036854775808 ≤ n ∧ n ≤ 9223372036854775807 → (∀ o ∈ l, Fits o) → (∀ e ∈ d, Fits e.2) → Fits (.mk k n b l d)
theorem ObAt.fits {w : World} {o : Ob} {vs : List Value} (h : ObAt w o vs) : Fits o := by
 induction h with
 | mk k n b l d A AL AD c cL cD gL oL gD oD vl vd h1 h2 h3 h4 h5 h6 h7 h8 h9 h10 h11 h12 h13 h14 h15 h16 h17 h18 ihl ihd =>
  refine .mk k n b l d ⟨h3, h4⟩ (fun o ho => ?_) (fun e he => ?_)
  ·obtain ⟨i, hi, rfl⟩ := List.getElem_of_mem ho; exact ihl i hi
  ·obtain ⟨i, hi, rfl⟩ := List.getElem_of_mem he; exact ihd i hi
mutual
theorem show_len : ∀ (o : Ob), Fits o → o.show.length + 1 ≤ 40 * o.bulk
 | .mk k n b l d, h => by
  cases h with
  | mk _ _ _ _ _ hn hl hd =>
   have h1 := numT_len n true hn
   have h2 := numT_len n false hn
   have h3 := textT_len b
   have h4 := nameT_len b
   have h5 := showL_len l hl true
   have h6 := showD_len d hd
   simp only [Ob.show, Ob.bulk]
   split
   ·split <;> simp <;> omega
   split
   ·omega
   split
   ·omega
   split
   ·omega
   split
   ·omega
   split
   ·simp; omega
   split
   ·simp; omega
   split
   ·simp; omega
   ·simp; omega
theorem showL_len : ∀ (l : List Ob), (∀ o ∈ l, Fits o) → ∀ f, (showL f l).length ≤ 40 * bulkL l
 | [], _, _ => by simp [showL]
 | o :: r, h, f => by
  have h1 := show_len o (h o (by simp))
  have h2 := showL_len r (fun x hx => h x (by simp [hx])) false
  have h3 : (if f then ([] : List UInt8) else [32]).length ≤ 1 := by split <;> simp
  simp only [showL, bulkL, List.length_append, List.length_cons]
  omega
theorem showD_len : ∀ (l : List (List UInt8 × Ob)), (∀ e ∈ l, Fits e.2) → (showD l).length ≤ 40 * bulkD l
 | [], _ => by simp [showD]
 | e :: r, h => by
  have h1 := show_len e.2 (h e (by simp))
  have h2 := showD_len r (fun x hx => h x (by simp [hx]))
  have h3 := nameT_len e.1
  simp only [showD, bulkD, List.length_append, List.length_cons]
  omega
end
end
end Go.Wk
namespace Go.Proofs.YthffpbkndnhlfaaGreatDoor
open Go Go.RowKit Go.Wk
def whiteI (x : Int) : Bool := x == 0 || x == 9 || x == 10 || x == 12 || x == 13 || x == 32
theorem asc_White (x : Int) (w : World) : Calls Tryz.prog 59 #[.int .i64 x] w fun e w' => e = .returned (.bool (whiteI x)) ∧ w = w' := by
 go_enter Tryz.func59, Tryz.ntmps59
 go_wp2
 all_goals go_ret
 all_goals refine ⟨?_, rfl⟩
 all_goals simp_all [whiteI]
theorem prt_plain (c : UInt8) (w : World) : Calls Tryz.prog 140 #[.int .u8 (c.toNat : Int)] w fun e w' => e = .returned (.bool (plainB c)) ∧ w = w' := by
 have hc := c.toNat_lt
 have k : plainB c = (decide (32 ≤ (c.toNat : Int)) && decide ((c.toNat : Int) ≤ 126) && ((c.toNat : Int) != 40) && ((c.toNat : Int) != 41) && ((c.toNat : Int) != 92)) := by
  have e : ∀ m : UInt8, (c != m) = ((c.toNat : Int) != (m.toNat : Int)) := fun m => by
   by_cases h : c = m
   ·subst h; simp
   ·have : c.toNat ≠ m.toNat := fun e => h (UInt8.toNat_inj.1 e)
    have h2 : (c.toNat : Int) ≠ (m.toNat : Int) := by omega
    rw [bne_iff_ne.2 h, bne_iff_ne.2 h2]
  unfold plainB
  rw [e 40, e 41, e 92]
  have : decide (32 ≤ c.toNat ∧ c.toNat ≤ 126) = (decide (32 ≤ (c.toNat : Int)) && decide ((c.toNat : Int) ≤ 126)) := by
   rw [Bool.decide_and]; congr 1 <;> (apply decide_eq_decide.2; omega)
  rw [this]; rfl
 rw [k]
 obtain ⟨x, hx⟩ : ∃ x : Int, x = (c.toNat : Int) := ⟨_, rfl⟩
 rw [← hx]
 clear hx k hc
 go_enter Tryz.func140, Tryz.ntmps140
 go_wp2
 all_goals go_ret
 all_goals refine ⟨?_, rfl⟩
 all_goals first | (simp_all; done) | (simp_all; omega)
theorem reg_all : ∀ c : Fin 256, regB (UInt8.ofNat c.val) = (!whiteI (c.val : Int) && decide (Lib.indexByte [40, 41, 60, 62, 91, 93, 123, 125, 47, 37] (UInt8.ofNat c.val) < 0)) := by decide +kernel
theorem lex_Regular (c : UInt8) (w : World) : Calls Tryz.prog 55 #[.int .i64 (c.toNat : Int)] w fun e w' => e = .returned (.bool (regB c)) ∧ w = w' := by
 have hc := c.toNat_lt
 have hr := reg_all ⟨c.toNat, hc⟩
 simp at hr
 rw [hr]
 have cw := fun w => asc_White (c.toNat : Int) w
 have ci := fun w => Tryz.strings_IndexByte ⟨#[40, 41, 60, 62, 91, 93, 123, 125, 47, 37]⟩ (c.toNat : Int) w
 obtain ⟨j, hj⟩ : ∃ j, j = Lib.indexByte [40, 41, 60, 62, 91, 93, 123, 125, 47, 37] c := ⟨_, rfl⟩
 rw [← hj]
 have e8 : UInt8.ofNat (c.toNat : Int).toNat = c := by simp
 simp only [e8] at ci
 rw [← hj] at ci
 obtain ⟨b, hb⟩ : ∃ b, b = whiteI (c.toNat : Int) := ⟨_, rfl⟩
 rw [← hb] at cw ⊢
 obtain ⟨x, hx⟩ : ∃ x : Int, x = (c.toNat : Int) := ⟨_, rfl⟩
 have hx2 : 0 ≤ x ∧ x ≤ 255 := by omega
 rw [← hx] at cw ci ⊢
 clear hx hr hc hj hb e8
 cases b
 all_goals
  go_enter Tryz.func55, Tryz.ntmps55
  go_wp2_with (first | ((first | (go_at_call 59; (with_reducible refine (cw _).mono ?_)) | (go_at_call 84; (with_reducible refine (ci _).mono ?_))); rintro e w1 ⟨rfl, rfl⟩))
  all_goals go_ret
  all_goals refine ⟨?_, rfl⟩
  all_goals simp_all
end Go.Proofs.YthffpbkndnhlfaaGreatDoor
namespace Go.Wk
open Go
def upd (x : Nat → Value) (i : Nat) (v : Value) : Nat → Value := fun j => if j = i then v else x j
def afters (ops : Array Oper) (i : Nat) : List Nat := match ops[i]? with
 | none => []
 | some o => (o.after.toList.filter fun e => Region.binds .any e).map (·.on)
def each (p : Nat → Prop) : Nat → Prop
 | 0 => True
 | n + 1 => each p n ∧ p n
theorem each_all {p : Nat → Prop} : ∀ {n : Nat}, each p n → ∀ i, i < n → p i
 | n + 1, h, i, hi => by
  rcases Nat.lt_or_ge i n with h' | h'
  ·exact each_all h.1 i h'
  ·have : i = n := by omega
   subst this; exact h.2
theorem getD_set (l : Array Bool) (i j : Nat) (b : Bool) (hi : i < l.size) : (l.setIfInBounds i true).getD j b = if j = i then true else l.getD j b := by
 simp only [Array.getD_eq_getD_getElem?, Array.getElem?_setIfInBounds]
 by_cases h : i = j
 ·subst h; simp [hi]
 ·simp [h, Ne.symm h]
theorem all_listed {ops : Array Oper} {listed : Array Bool} (back : ((List.range ops.size).all fun i => (afters ops i).all fun j => decide (j < i)) = true) (hs : listed.size = ops.size) (hr : Region.ready .any ops listed = []) :
 ∀ i, i < ops.size → listed.getD i false = true := by
 intro i
 induction i using Nat.strongRecOn with
 | _ i ih =>
  intro hi
  have hil : i < listed.size := by omega
  rcases hb : listed.getD i true with _ | _
  ·exfalso
   have : i ∈ Region.ready .any ops listed := by
    rw [mem_ready]
    refine ⟨hb, ops[i], by simp [hi], fun e he hbd => ?_⟩
    have hm : e.on ∈ afters ops i := by
     unfold afters; rw [Array.getElem?_eq_getElem hi]
     exact List.mem_map.2 ⟨e, List.mem_filter.2 ⟨by simpa using he, hbd⟩, rfl⟩
    have h1 := List.all_eq_true.1 (List.all_eq_true.1 back i (List.mem_range.2 hi)) _ hm
    have h2 : e.on < i := of_decide_eq_true h1
    exact ih _ h2 (by omega)
   rw [hr] at this; cases this
  ·simp only [Array.getD_eq_getD_getElem?, Array.getElem?_eq_getElem hil, Option.getD_some] at hb ⊢; exact hb
theorem wpAny_lin {P : Program} {ops : Array Oper} {Q : Exit → Act → World → Prop} (mk : (Nat → Value) → Act) {R : World → Prop} {Keeps : World → World → Prop} {Good : Nat → Value → World → Prop}
 (back : ((List.range ops.size).all fun i => (afters ops i).all fun j => decide (j < i)) = true)
 (mono : ∀ i v w w', Good i v w → Keeps w w' → Good i v w')
 (step : ∀ i, i < ops.size → ∀ x w, R w → (∀ j ∈ afters ops i, Good j (x j) w) → wpOp P ops Q i (fun a' w' => ∃ v, a' = mk (upd x i v) ∧ R w' ∧ Keeps w w' ∧ Good i v w') (mk x) w)
 (done : ∀ x w, R w → (∀ i, i < ops.size → Good i (x i) w) → Q .normal (mk x) w) :
 ∀ (fuel : Nat) (listed : Array Bool) (x : Nat → Value) (w : World), listed.toList.count false ≤ fuel → listed.size = ops.size → R w → (∀ i, i < ops.size → listed.getD i false = true → Good i (x i) w) →
  wpAny P .any ops Q fuel listed (mk x) w := by
 have fin : ∀ (listed : Array Bool) (x : Nat → Value) (w : World), listed.size = ops.size → R w → (∀ i, i < ops.size → listed.getD i false = true → Good i (x i) w) → Region.ready .any ops listed = [] → Q .normal (mk x) w :=
  fun listed x w hs hR hG hr => done x w hR fun i hi => hG i hi (all_listed back hs hr i hi)
 intro fuel
 induction fuel with
 | zero =>
  intro listed x w hc hs hR hG
  have hr : Region.ready .any ops listed = [] := by
   apply List.eq_nil_iff_forall_not_mem.2
   intro i hi
   obtain ⟨h1, o, ho, _⟩ := mem_ready.1 hi
   have hi' : i < ops.size := (Array.getElem?_eq_some_iff.1 ho).1
   have hil : i < listed.size := by omega
   have : false ∈ listed.toList := by
    simp only [Array.getD_eq_getD_getElem?, Array.getElem?_eq_getElem hil, Option.getD_some] at h1
    rw [← h1]; simp
   have := List.count_pos_iff.2 this
   omega
  exact ⟨hr, fin listed x w hs hR hG hr⟩
 | succ fuel ih =>
  intro listed x w hc hs hR hG
  refine ⟨fin listed x w hs hR hG, fun i hi => ?_⟩
  obtain ⟨h1, o, ho, hall⟩ := mem_ready.1 hi
  have hi' : i < ops.size := (Array.getElem?_eq_some_iff.1 ho).1
  have hil : i < listed.size := by omega
  have hdep : ∀ j ∈ afters ops i, Good j (x j) w := by
   intro j hj
   have hji : j < i := of_decide_eq_true (List.all_eq_true.1 (List.all_eq_true.1 back i (List.mem_range.2 hi')) _ hj)
   unfold afters at hj; rw [ho] at hj
   obtain ⟨e, he, rfl⟩ := List.mem_map.1 hj
   obtain ⟨he, hb⟩ := List.mem_filter.1 he
   exact hG _ (by omega) (hall e (by simpa using he) hb)
  refine wpOp_mono ?_ (step i hi' x w hR hdep)
  rintro a' w' ⟨v, rfl, hR', hK, hg⟩
  refine ih _ _ _ ?_ (by simpa using hs) hR' ?_
  ·have hf : listed.toList[i]'(by simpa using hil) = false := by
    simp only [Array.getD_eq_getD_getElem?, Array.getElem?_eq_getElem hil, Option.getD_some] at h1
    simpa using h1
   rw [Array.toList_setIfInBounds, List.count_set (by simpa using hil)]
   have : 0 < listed.toList.count false := List.count_pos_iff.2 (by rw [← hf]; exact List.getElem_mem _)
   simp only [hf, beq_self_eq_true, if_true, Bool.true_beq, Bool.false_eq_true, if_false]
   omega
  ·intro j hj hl
   rw [getD_set _ _ _ _ hil] at hl
   unfold upd
   by_cases hji : j = i
   ·subst hji; simpa using hg
   ·rw [if_neg hji] at hl ⊢
    exact mono _ _ _ _ (hG j hj hl) hK
theorem wp_region_lin {P : Program} {ops : Array Oper} {Q : Exit → Act → World → Prop} {id : Nat} {a0 : Act} {w0 : World} (hm : P.follows .mixedOrders = true) (mk : (Nat → Value) → Act) (x0 : Nat → Value) (h0 : a0 = mk x0)
 (R : World → Prop) (Keeps : World → World → Prop) (Good : Nat → Value → World → Prop)
 (back : ((List.range ops.size).all fun i => (afters ops i).all fun j => decide (j < i)) = true)
 (hR : R { w0 with drawn := w0.drawn + 1 })
 (mono : ∀ i v w w', Good i v w → Keeps w w' → Good i v w')
 (step : each (fun i => ∀ x w, R w → (∀ j ∈ afters ops i, Good j (x j) w) → wpOp P ops Q i (fun a' w' => ∃ v, a' = mk (upd x i v) ∧ R w' ∧ Keeps w w' ∧ Good i v w') (mk x) w) ops.size)
 (done : ∀ x w, R w → each (fun i => Good i (x i) w) ops.size → Q .normal (mk x) w) : (Code.region id ops true).wp P Q a0 w0 := by
 subst h0
 refine wp_region_any hm (wpAny_lin mk back mono (each_all step) (fun x w hR hG => done x w hR ?_) _ _ _ _ ?_ (by simp) hR ?_)
 ·generalize ops.size = n at hG
  induction n with
  | zero => trivial
  | succ n ih => exact ⟨ih fun i hi => hG i (by omega), hG n (by omega)⟩
 ·simp
 ·intro i hi hl
  simp [Array.getD_eq_getD_getElem?, hi] at hl
def All (G : Nat → Value → World → Prop) (x : Nat → Value) (w : World) : List Nat → Prop
 | [] => True
 | j :: js => G j (x j) w ∧ All G x w js
theorem all_of {G : Nat → Value → World → Prop} {x : Nat → Value} {w : World} : ∀ {js : List Nat}, (∀ j ∈ js, G j (x j) w) → All G x w js
 | [], _ => trivial
 | _ :: _, h => ⟨h _ (List.mem_cons_self ..), all_of fun j hj => h j (List.mem_cons_of_mem _ hj)⟩
def Step (P : Program) (ops : Array Oper) (Q : Exit → Act → World → Prop) (mk : (Nat → Value) → Act) (R : World → Prop) (Keeps : World → World → Prop) (G : Nat → Value → World → Prop) (i : Nat) : Prop :=
 ∀ x w, R w → (∀ j ∈ afters ops i, G j (x j) w) → wpOp P ops Q i (fun a' w' => ∃ v, a' = mk (upd x i v) ∧ R w' ∧ Keeps w w' ∧ G i v w') (mk x) w
theorem step_of {P : Program} {ops : Array Oper} {Q : Exit → Act → World → Prop} {mk : (Nat → Value) → Act} {R : World → Prop} {Keeps : World → World → Prop} {G : Nat → Value → World → Prop} {i : Nat} {o : Oper} (js : List Nat)
 (ho : ops[i]? = some o) (hj : (js.all fun j => (afters ops i).contains j) = true)
 (h : ∀ x w, R w → All G x w js → ∀ K : Act → World → Prop, (∀ v w', R w' ∧ Keeps w w' ∧ G i v w' → K (mk (upd x i v)) w') →
  if Region.wanted o (yielded ops (mk x).tmps) = true then Oper.wp P o (mk x) w K Q else K ((mk x).put o.dst undef) w) : Step P ops Q mk R Keeps G i := by
 intro x w hR hd
 unfold wpOp
 simp only [ho]
 have h1 := h x w hR (all_of fun j hj' => hd j (List.contains_iff_mem.1 (List.all_eq_true.1 hj j hj'))) (fun a' w' => ∃ v, a' = mk (upd x i v) ∧ R w' ∧ Keeps w w' ∧ G i v w') (fun v w' h => ⟨v, rfl, h.1, h.2.1, h.2.2⟩)
 split
 ·rename_i hw; rw [if_pos hw] at h1; exact .inl h1
 ·rename_i hw; rw [if_neg hw] at h1; exact h1
inductive Steps (p : Nat → Prop) : Nat → Prop
 | nil : Steps p 0
 | cons (n : Nat) (h : p n) (t : Steps p n) : Steps p (n + 1)
theorem Steps.each {p : Nat → Prop} : ∀ {n : Nat}, Steps p n → Wk.each p n
 | _, .nil => trivial
 | _, .cons n h t => ⟨t.each, h⟩
def fillL : List Value → List (Option Nat) → (Nat → Value) → List Value
 | v :: vs, some i :: ss, x => x i :: fillL vs ss x
 | v :: vs, none :: ss, x => v :: fillL vs ss x
 | vs, [], _ => vs
 | [], _, _ => []
def oldX : List Value → List (Option Nat) → Nat → Value
 | v :: vs, some i :: ss, j => if j = i then v else oldX vs ss j
 | _ :: vs, none :: ss, j => oldX vs ss j
 | _, _, _ => undef
theorem wp_lin {P : Program} {ops : Array Oper} {Q : Exit → Act → World → Prop} {id : Nat} {tm : List Value} {df : List Deferred} {w0 : World} (hm : P.follows .mixedOrders = true) (ss : List (Option Nat))
 (R : World → Prop) (Keeps : World → World → Prop) (G : Nat → Value → World → Prop)
 (h0 : fillL tm ss (oldX tm ss) = tm)
 (back : ((List.range ops.size).all fun i => (afters ops i).all fun j => decide (j < i)) = true)
 (n : Nat) (hn : ops.size = n)
 (hR : R w0.drew)
 (mono : ∀ i v w w', G i v w → Keeps w w' → G i v w')
 (step : Steps (Step P ops Q (fun x => { tmps := (fillL tm ss x).toArray, defers := df }) R Keeps G) n)
 (done : ∀ x w, R w → (∀ i, i < n → G i (x i) w) → Q .normal { tmps := (fillL tm ss x).toArray, defers := df } w) : (Code.region id ops true).wp P Q { tmps := tm.toArray, defers := df } w0 := by
 subst hn
 exact wp_region_lin hm (fun x => { tmps := (fillL tm ss x).toArray, defers := df }) (oldX tm ss) (by rw [h0]) R Keeps G back hR mono step.each fun x w hR h => done x w hR (each_all h)
theorem wpAny_all {P : Program} {ops : Array Oper} {Q : Exit → Act → World → Prop} (listed : Array Bool) (a : Act) (w : World) (hl : ∀ i, i < ops.size → listed.getD i false = true) (hs : listed.size = ops.size) (hQ : Q .normal a w) : ∀ fuel, wpAny P .any ops Q fuel listed a w := by
 have hr : Region.ready .any ops listed = [] := by
  apply List.eq_nil_iff_forall_not_mem.2
  intro i hi
  obtain ⟨h1, o, ho, _⟩ := mem_ready.1 hi
  have hi' : i < ops.size := (Array.getElem?_eq_some_iff.1 ho).1
  have hil : i < listed.size := by omega
  have h2 := hl i hi'
  simp only [Array.getD_eq_getD_getElem?, Array.getElem?_eq_getElem hil, Option.getD_some] at h1 h2
  rw [h1] at h2; cases h2
 intro fuel
 cases fuel with
 | zero => exact ⟨hr, hQ⟩
 | succ fuel => exact ⟨fun _ => hQ, fun i hi => by rw [hr] at hi; cases hi⟩
section
variable {P : Program} {ops : Array Oper} {Q : Exit → Act → World → Prop}
theorem afters_lt {n : Nat} (back : ((List.range ops.size).all fun i => (afters ops i).all fun j => decide (j < i)) = true) (i j : Nat) (hi : i < ops.size) (hj : j ∈ afters ops i) : j < i :=
 of_decide_eq_true (List.all_eq_true.1 (List.all_eq_true.1 back i (List.mem_range.2 hi)) _ hj)
theorem count_up {listed : Array Bool} {i fuel : Nat} (hil : i < listed.size) (h1 : listed.getD i true = false) (hc : listed.toList.count false ≤ fuel + 1) : (listed.setIfInBounds i true).toList.count false ≤ fuel := by
 have hf : listed.toList[i]'(by simpa using hil) = false := by
  simp only [Array.getD_eq_getD_getElem?, Array.getElem?_eq_getElem hil, Option.getD_some] at h1
  simpa using h1
 rw [Array.toList_setIfInBounds, List.count_set (by simpa using hil)]
 have : 0 < listed.toList.count false := List.count_pos_iff.2 (by rw [← hf]; exact List.getElem_mem _)
 simp only [hf, beq_self_eq_true, if_true, Bool.true_beq, Bool.false_eq_true, if_false]
 omega
theorem count_none {listed : Array Bool} {i : Nat} (hil : i < listed.size) (hl : listed.getD i false = false) (hc : listed.toList.count false ≤ 0) : False := by
 have : false ∈ listed.toList := by
  simp only [Array.getD_eq_getD_getElem?, Array.getElem?_eq_getElem hil, Option.getD_some] at hl
  rw [← hl]; simp
 have := List.count_pos_iff.2 this
 omega
theorem ready_after {listed : Array Bool} {i : Nat} (hi : i ∈ Region.ready .any ops listed) : i < ops.size ∧ listed.getD i true = false ∧ ∀ j ∈ afters ops i, listed.getD j false = true := by
 obtain ⟨h1, o, ho, hall⟩ := mem_ready.1 hi
 refine ⟨(Array.getElem?_eq_some_iff.1 ho).1, h1, fun j hj => ?_⟩
 unfold afters at hj; rw [ho] at hj
 obtain ⟨e, he, rfl⟩ := List.mem_map.1 hj
 obtain ⟨he, hb⟩ := List.mem_filter.1 he
 exact hall e (by simpa using he) hb
theorem wpAny_tail (n : Nat) (back : ((List.range ops.size).all fun i => (afters ops i).all fun j => decide (j < i)) = true)
 (chain : ((List.range ops.size).all fun j => Nat.ble j n || (afters ops j).contains (j - 1)) = true) :
 ∀ (l : List Oper) (k fuel : Nat) (listed : Array Bool) (a : Act) (w : World), n ≤ k → k + l.length = ops.size → (∀ j, l[j]? = ops[k + j]?) → listed.size = ops.size → listed.toList.count false ≤ fuel →
  (∀ i, i < ops.size → (listed.getD i false = true ↔ i < k)) → wpList P ops Q l a w → wpAny P .any ops Q fuel listed a w := by
 intro l
 induction l with
 | nil =>
  intro k fuel listed a w hn hk hl hs hc hL hw
  exact wpAny_all listed a w (fun i hi => (hL i hi).2 (by simp at hk; omega)) hs hw fuel
 | cons o l ih =>
  intro k fuel listed a w hn hk hl hs hc hL hw
  simp only [List.length_cons] at hk
  have hkn : k < ops.size := by omega
  have hkf : listed.getD k false = false := by
   cases h : listed.getD k false with
   | false => rfl
   | true => have := (hL k hkn).1 h; omega
  have ho : ops[k]? = some o := by have := hl 0; simpa using this.symm
  cases fuel with
  | zero => exact (count_none (by omega) hkf hc).elim
  | succ fuel =>
   refine ⟨fun hr => absurd (all_listed back hs hr k hkn) (by rw [hkf]; simp), fun i hi => ?_⟩
   obtain ⟨hi', h1, haft⟩ := ready_after hi
   have hif : listed.getD i false = false := by
    have hil : i < listed.size := by omega
    simp only [Array.getD_eq_getD_getElem?, Array.getElem?_eq_getElem hil, Option.getD_some] at h1 ⊢
    exact h1
   have hik : i = k := by
    have h2 : ¬ i < k := fun h => by rw [(hL i hi').2 h] at hif; cases hif
    rcases Nat.lt_or_ge k i with h3 | h3
    ·exfalso
     have hch := List.all_eq_true.1 chain i (List.mem_range.2 hi')
     rw [Bool.or_eq_true] at hch
     rcases hch with hch | hch
     ·have := Nat.le_of_ble_eq_true hch; omega
     ·have := haft _ (List.contains_iff_mem.1 hch)
      have := (hL (i - 1) (by omega)).1 this
      omega
    ·omega
   subst hik
   have hnext : ∀ a' w', wpList P ops Q l a' w' → wpAny P .any ops Q fuel (listed.setIfInBounds i true) a' w' := fun a' w' h =>
    ih (i + 1) fuel _ a' w' (by omega) (by omega) (fun j => by have := hl (j + 1); rw [List.getElem?_cons_succ] at this; rw [this]; congr 1; omega) (by simpa using hs) (count_up (by omega) h1 hc)
     (fun q hq => by
      rw [getD_set _ _ _ _ (by omega)]
      by_cases hqi : q = i
      ·subst hqi; simp
      ·rw [if_neg hqi, hL q hq]; omega) h
   unfold wpOp
   simp only [ho]
   unfold wpList at hw
   split
   ·rename_i hwt
    rw [if_pos hwt] at hw
    rcases hw with hw | hw
    ·exact .inl (Oper.wp_mono hnext hw)
    ·exact .inr hw
   ·rename_i hwt
    rw [if_neg hwt] at hw
    exact hnext _ _ hw
theorem wpAny_free (mk : (Nat → Value) → Act) {R : World → Prop} {Keeps : World → World → Prop} {Good : Nat → Value → World → Prop} (n : Nat) (hn : n < ops.size) (l : List Oper) (hln : n + l.length = ops.size) (hl : ∀ j, l[j]? = ops[n + j]?)
 (back : ((List.range ops.size).all fun i => (afters ops i).all fun j => decide (j < i)) = true)
 (chain : ((List.range ops.size).all fun j => Nat.ble j n || (afters ops j).contains (j - 1)) = true)
 (wit : List Nat) (cover : ((List.range n).all fun i => (afters ops (wit.getD i 0)).contains i && Nat.ble (wit.getD i 0) n) = true)
 (mono : ∀ i v w w', Good i v w → Keeps w w' → Good i v w')
 (step : ∀ i, i < n → ∀ x w, R w → (∀ j ∈ afters ops i, Good j (x j) w) → wpOp P ops Q i (fun a' w' => ∃ v, a' = mk (upd x i v) ∧ R w' ∧ Keeps w w' ∧ Good i v w') (mk x) w)
 (fin : ∀ x w, R w → (∀ i, i < n → Good i (x i) w) → wpList P ops Q l (mk x) w) :
 ∀ (fuel : Nat) (listed : Array Bool) (x : Nat → Value) (w : World), listed.toList.count false ≤ fuel → listed.size = ops.size → R w → (∀ i, i < n → listed.getD i false = true → Good i (x i) w) →
  (∀ i, n ≤ i → i < ops.size → listed.getD i false = false) → (∀ i, i < ops.size → listed.getD i false = true → ∀ j ∈ afters ops i, listed.getD j false = true) → wpAny P .any ops Q fuel listed (mk x) w := by
 intro fuel
 induction fuel with
 | zero =>
  intro listed x w hc hs hR hG hl0 hd
  exact (count_none (i := n) (by omega) (hl0 n (Nat.le_refl _) hn) hc).elim
 | succ fuel ih =>
  intro listed x w hc hs hR hG hl0 hd
  refine ⟨fun hr => absurd (all_listed back hs hr n hn) (by rw [hl0 n (Nat.le_refl _) hn]; simp), fun i hi => ?_⟩
  have hi0 := hi
  obtain ⟨hi', h1, haft⟩ := ready_after hi
  rcases Nat.lt_or_ge i n with hin | hin
  ·refine wpOp_mono ?_ (step i hin x w hR fun j hj => hG j (by have := afters_lt (n := 0) back i j hi' hj; omega) (haft j hj))
   rintro a' w' ⟨v, rfl, hR', hK, hg⟩
   refine ih _ _ _ (count_up (by omega) h1 hc) (by simpa using hs) hR' ?_ ?_ ?_
   ·intro j hj hlj
    rw [getD_set _ _ _ _ (by omega)] at hlj
    unfold upd
    by_cases hji : j = i
    ·subst hji; simpa using hg
    ·rw [if_neg hji] at hlj ⊢
     exact mono _ _ _ _ (hG j hj hlj) hK
   ·intro j hj hj2
    rw [getD_set _ _ _ _ (by omega), if_neg (by omega)]; exact hl0 j hj hj2
   ·intro k hk hkl j hj
    rw [getD_set _ _ _ _ (by omega)] at hkl ⊢
    by_cases hji : j = i
    ·rw [if_pos hji]
    ·rw [if_neg hji]
     by_cases hki : k = i
     ·subst hki; exact haft j hj
     ·rw [if_neg hki] at hkl; exact hd k hk hkl j hj
  ·have hi2 : i = n := by
    rcases Nat.lt_or_ge n i with h3 | h3
    ·exfalso
     have hch := List.all_eq_true.1 chain i (List.mem_range.2 hi')
     rw [Bool.or_eq_true] at hch
     rcases hch with hch | hch
     ·have := Nat.le_of_ble_eq_true hch; omega
     ·have := haft _ (List.contains_iff_mem.1 hch)
      rw [hl0 (i - 1) (by omega) (by omega)] at this; cases this
    ·omega
   subst hi2
   have hothers : ∀ m k, k < i → i ≤ k + m → listed.getD k false = true := by
    intro m
    induction m with
    | zero => intro k hk hm; omega
    | succ m ihm =>
     intro k hk hm
     have hcv := List.all_eq_true.1 cover k (List.mem_range.2 hk)
     rw [Bool.and_eq_true] at hcv
     obtain ⟨j, hjj⟩ : ∃ j, j = wit.getD k 0 := ⟨_, rfl⟩
     rw [← hjj] at hcv
     have hjk := List.contains_iff_mem.1 hcv.1
     have hjn := Nat.le_of_ble_eq_true hcv.2
     have hlt := afters_lt (n := 0) back j k (by omega) hjk
     by_cases hji : j = i
     ·subst hji; exact haft k hjk
     ·exact hd j (by omega) (ihm j (by omega) (by omega)) k hjk
   have htail := fin x w hR fun k hk => hG k hk (hothers i k hk (by omega))
   have hfin := wpAny_tail (P := P) (Q := Q) i back chain l i (fuel + 1) listed (mk x) w (Nat.le_refl _) hln hl hs hc (fun q hq => ⟨fun h => by
    rcases Nat.lt_or_ge q i with h' | h'
    ·exact h'
    ·have h2 := hl0 q h' hq; rw [h2] at h; exact absurd h (by simp)
    , fun h => hothers i q h (by omega)⟩) htail
   exact hfin.2 i hi0
end
theorem wp_lin_tail {P : Program} {ops : Array Oper} {Q : Exit → Act → World → Prop} {id : Nat} {tm : List Value} {df : List Deferred} {w0 : World} (hm : P.follows .mixedOrders = true) (ss : List (Option Nat))
 (R : World → Prop) (Keeps : World → World → Prop) (G : Nat → Value → World → Prop)
 (h0 : fillL tm ss (oldX tm ss) = tm)
 (back : ((List.range ops.size).all fun i => (afters ops i).all fun j => decide (j < i)) = true)
 (n : Nat) (l : List Oper) (hdr : ops.toList.drop n = l) (hn : n < ops.size)
 (chain : ((List.range ops.size).all fun j => Nat.ble j n || (afters ops j).contains (j - 1)) = true)
 (wit : List Nat) (cover : ((List.range n).all fun i => (afters ops (wit.getD i 0)).contains i && Nat.ble (wit.getD i 0) n) = true)
 (hR : R w0.drew)
 (mono : ∀ i v w w', G i v w → Keeps w w' → G i v w')
 (step : Steps (Step P ops Q (fun x => { tmps := (fillL tm ss x).toArray, defers := df }) R Keeps G) n)
 (done : ∀ x w, R w → (∀ i, i < n → G i (x i) w) → ∀ fr, fr = fillL tm ss x → wpList P ops Q l { tmps := fr.toArray, defers := df } w) :
 (Code.region id ops true).wp P Q { tmps := tm.toArray, defers := df } w0 := by
 have e0 : ({ tmps := tm.toArray, defers := df } : Act) = (fun x => ({ tmps := (fillL tm ss x).toArray, defers := df } : Act)) (oldX tm ss) := by simp only [h0]
 rw [e0]
 refine wp_region_any hm (wpAny_free (fun x => { tmps := (fillL tm ss x).toArray, defers := df }) n hn l (by rw [← hdr]; simp; omega) (fun j => by rw [← hdr, List.getElem?_drop]; simp) back chain wit cover mono (fun i hi => each_all step.each i hi) (fun x w hR hG => done x w hR hG _ rfl) _ _ _ _ ?_ (by simp) hR ?_ ?_ ?_)
 ·simp
 ·intro i hi hl
  have : i < ops.size := by omega
  simp [Array.getD_eq_getD_getElem?, this] at hl
 ·intro i hi hi2
  simp [Array.getD_eq_getD_getElem?, hi2]
 ·intro i hi hl
  simp [Array.getD_eq_getD_getElem?, hi] at hl
end Go.Wk
namespace Go.Proofs.YthffpbkndnhlfaaGreatDoor
open Go Go.RowKit Go.Wk
theorem and_all15 : ∀ n : Fin 256, bits BinOp.and IntKind.u8 ((n.val : Nat) : Int) 15 = ((n.val % 16 : Nat) : Int) := by decide +kernel
theorem and_15 (c : UInt8) : bits BinOp.and IntKind.u8 (c.toNat : Int) 15 = ((c.toNat % 16 : Nat) : Int) := and_all15 ⟨c.toNat, c.toNat_lt⟩
theorem hex_idx (n : Nat) (h : n < 16) (W : World) : (Instr.index 9 (.string ⟨#[48, 49, 50, 51, 52, 53, 54, 55, 56, 57, 97, 98, 99, 100, 101, 102]⟩) (.int .u8 (n : Int))).run Tryz.prog W = .ok (.int .u8 ((hexD n).toNat : Int)) W := by
 have : n = 0 ∨ n = 1 ∨ n = 2 ∨ n = 3 ∨ n = 4 ∨ n = 5 ∨ n = 6 ∨ n = 7 ∨ n = 8 ∨ n = 9 ∨ n = 10 ∨ n = 11 ∨ n = 12 ∨ n = 13 ∨ n = 14 ∨ n = 15 := by omega
 rcases this with rfl | rfl | rfl | rfl | rfl | rfl | rfl | rfl | rfl | rfl | rfl | rfl | rfl | rfl | rfl | rfl
 all_goals rfl
theorem hex_cut (n : Nat) (h : n < 16) (W : World) : (Instr.slice 9 (.string ⟨#[48, 49, 50, 51, 52, 53, 54, 55, 56, 57, 97, 98, 99, 100, 101, 102]⟩) (some (.int .u8 (n : Int))) (some (.int .u8 ((n : Int) + 1))) none).run Tryz.prog W = .ok (.string ⟨#[hexD n]⟩) W := by
 have : n = 0 ∨ n = 1 ∨ n = 2 ∨ n = 3 ∨ n = 4 ∨ n = 5 ∨ n = 6 ∨ n = 7 ∨ n = 8 ∨ n = 9 ∨ n = 10 ∨ n = 11 ∨ n = 12 ∨ n = 13 ∨ n = 14 ∨ n = 15 := by omega
 rcases this with rfl | rfl | rfl | rfl | rfl | rfl | rfl | rfl | rfl | rfl | rfl | rfl | rfl | rfl | rfl | rfl
 all_goals rfl
def GX (x : Int) (h l : Nat) (s : Value) : Nat → Value → World → Prop := fun j v w => match j with
 | 0 => v = s
 | 1 | 4 => v = .int .u8 x
 | 2 => v = .int .u8 (h : Int)
 | 3 => v = .int .u8 ((hexD h).toNat : Int)
 | 5 => v = .int .u8 (l : Int)
 | 6 => v = .int .u8 ((hexD l).toNat : Int)
 | _ => ∃ g, v = .slice (some ⟨g, 0, none⟩) 2 2 ∧ Byt w (some ⟨g, 0, none⟩) [hexD h, hexD l]
theorem GX_mono {x : Int} {h l : Nat} {s : Value} (j : Nat) (v : Value) (w w' : World) (hG : GX x h l s j v w) (hk : Below w.heap.size w w') : GX x h l s j v w' := by
 unfold GX at hG ⊢
 split at hG <;> first
  | exact hG
  | (obtain ⟨g, e, hb⟩ := hG; exact ⟨g, e, hb.below hk⟩)
theorem byt_new2 (w : World) (a b : UInt8) (t : TypeId) : Byt (w.alloc (.cells #[.int .u8 (a.toNat : Int), .int .u8 (b.toNat : Int)] t)) (some ⟨w.heap.size, 0, none⟩) [a, b] := by
 refine ⟨by unfold maxLen; simp, fun _ => ⟨_, _, rfl, fun i hi => ?_⟩⟩
 rw [alloc_cell]
 match i, hi with
 | 0, _ => rfl
 | 1, _ => rfl
theorem byt_new1 (w : World) (a : UInt8) (t : TypeId) : Byt (w.alloc (.cells #[.int .u8 (a.toNat : Int)] t)) (some ⟨w.heap.size, 0, none⟩) [a] := by
 refine ⟨by unfold maxLen; simp, fun _ => ⟨_, _, rfl, fun i hi => ?_⟩⟩
 rw [alloc_cell]
 match i, hi with
 | 0, _ => rfl
theorem asc_Hex (A : Option Addr) (c : Nat) (bs : List UInt8) (w : World) (hb : Byt w A bs) (hl : bs.length ≤ 100000000) :
 Calls Tryz.prog 174 #[.slice A bs.length c] w (RO w (hexS bs ++ [62])) := by
 obtain ⟨m, hm⟩ : ∃ m, m = bs.length := ⟨_, rfl⟩
 rw [← hm] at hl ⊢
 replace hm := hi_ hm
 replace hb := hi_ hb
 go_enter Tryz.func174, Tryz.ntmps174
 go_wp2
 go_loopw [3, 5, 8] (fun s3 _ s8 wr => ∃ k : Nat, k ≤ m ∧ s8 = .int .i64 k ∧ Own w.heap.size wr s3 (hexS (bs.take k)) ∧ Below w.heap.size w wr) (fun _ _ s8 _ => m - (RowKit.intOf s8).toNat)
 case atStart => exact ⟨0, by omega, rfl, Own.nil _ _, Below.refl _ _⟩
 case round =>
  obtain ⟨k, hk, rfl, hO, hB⟩ := hrel
  by_cases hkm : k < m
  ·have hkl : k < bs.length := by rw [← hm.out]; exact hkm
   obtain ⟨b, o, rfl, hcell⟩ := hb.out.2 (by omega)
   obtain ⟨x, hx⟩ : ∃ x, x = bs[k] := ⟨_, rfl⟩
   have hcx : wr.cell? ⟨b, o + k, none⟩ = some (.int .u8 (x.toNat : Int)) := by
    rw [hx]; exact (hB.cell (cell_lt (hcell k hkl))).trans (hcell k hkl)
   have hc8 := x.toNat_lt
   have ha := and_15 x
   obtain ⟨h, hh⟩ : ∃ h : Nat, h = x.toNat / 16 := ⟨_, rfl⟩
   obtain ⟨l, hl⟩ : ∃ h : Nat, h = x.toNat % 16 := ⟨_, rfl⟩
   have hxd : (x.toNat : Int) / 16 = (h : Int) := by omega
   have h16 : h < 16 := by omega
   have l16 : l < 16 := by omega
   rw [← hl] at ha
   have hT : hexS (bs.take (k + 1)) = hexS (bs.take k) ++ [hexD h, hexD l] := by
    rw [List.take_succ_eq_append_getElem hkl, ← hx, hh, hl]
    simp [hexS]
   have hlen : (hexS (bs.take k)).length ≤ 200000000 := by rw [hexS_len, List.length_take]; omega
   have lB := hB.size
   refine h4_ hT hlen hB hO ?_; clear hT hlen hB hO; intro hT hlen hB hO
   obtain ⟨xn, hxn⟩ : ∃ n : Int, n = (x.toNat : Int) := ⟨_, rfl⟩
   have hx2 : 0 ≤ xn ∧ xn ≤ 255 := by omega
   rw [← hxn] at hxd ha hcx
   clear hcell hh hl hc8 hx hxn
   have q1 := hex_idx h h16
   have q2 := hex_idx l l16
   go_wp2
   rename_i K0 hK0
   refine wp_lin_tail (by kernel_rfl) [none, none, none, none, none, none, none, none, none, none, none, none, some 0, some 1, some 2, some 3, some 4, some 5, some 6, some 7, none, none, none, none, none] (fun w' => Below wr.heap.size wr w') (fun w' w'' => Below w'.heap.size w' w'') (GX xn h l u3) (by rfl) (by kernel_rfl) 8 _ rfl (by decide) (by kernel_rfl) [8, 2, 3, 7, 5, 6, 7, 8, 0] (by kernel_rfl) ?hR ?mono (.cons 7 (step_of [3, 6] rfl (by kernel_rfl) ?s7) (.cons 6 (step_of [5] rfl (by kernel_rfl) ?s6) (.cons 5 (step_of [4] rfl (by kernel_rfl) ?s5) (.cons 4 (step_of [] rfl (by kernel_rfl) ?s4) (.cons 3 (step_of [2] rfl (by kernel_rfl) ?s3) (.cons 2 (step_of [1] rfl (by kernel_rfl) ?s2) (.cons 1 (step_of [] rfl (by kernel_rfl) ?s1) (.cons 0 (step_of [] rfl (by kernel_rfl) ?s0) (.nil))))))))) ?done
   case hR => exact (Below.refl _ _).drew
   case mono => exact GX_mono
   case done =>
    intro x w' hR hG fr hfr
    have g0 := hG 0 (by omega)
    have g7 := hG 7 (by omega)
    simp only [GX] at g0 g7
    clear hG
    obtain ⟨g, e7, hby⟩ := g7
    simp only [fillL] at hfr
    rw [g0, e7] at hfr
    subst hfr
    have hO2 := hO.out.below hR
    have hs := hR.size
    replace hR := hi_ hR
    refine app_b rfl _ _ rfl w.heap.size _ (hexS (bs.take k)) rfl hO2 (some ⟨g, 0, none⟩) 2 2 [hexD h, hexD l] rfl rfl hby (fun e => (by cases e)) (by have := hlen.out; simp; omega) (by omega) ?_
    intro v' w2 hO3 hB3; replace hO3 := hi_ hO3; replace hB3 := hi_ hB3
    go_wp2
    go_roundw
    case rel => exact ⟨k + 1, by omega, by go_num, by rw [hT.out]; exact hO3.out, (hB.out.trans (hR.out.mono lB)).trans hB3.out⟩
    case measure => simp [RowKit.intOf]; omega
   case' s3 | s6 | s7 =>
    intro x w' hR hd K hK
    simp only [All, GX] at hd
    simp +decide only [upd, GX, fillL, if_true, if_false] at hK ⊢
   case s3 =>
    obtain ⟨e2, _⟩ := hd
    simp only [e2] at hK ⊢
    go_simp
    have hK2 := hK _ _ ⟨hR, Below.refl _ _, rfl⟩
    exact hK2
   case s6 =>
    obtain ⟨e2, _⟩ := hd
    simp only [e2] at hK ⊢
    go_simp
    have hK2 := hK _ _ ⟨hR, Below.refl _ _, rfl⟩
    exact hK2
   case s7 =>
    obtain ⟨e3, e6, _⟩ := hd
    simp only [e3, e6] at hK ⊢
    go_simp
    have hK2 := hK _ _ ⟨hR.alloc hR.size _, (Below.refl _ _).alloc (Nat.le_refl _) _, _, rfl, byt_new2 w' (hexD h) (hexD l) 5⟩
    exact hK2
   all_goals
    intro x w' hR hd K hK
    simp only [All, GX] at hd
    simp +decide only [upd, GX, fillL, if_true, if_false] at hK ⊢
    try simp only [hd.1] at hK ⊢
    go_simp
    have hK2 := hK _ _ ⟨hR, Below.refl _ _, rfl⟩
    exact hK2
  ·obtain rfl : k = m := by omega
   have hT : hexS (bs.take k) = hexS bs := by rw [hm.out, List.take_length]
   rw [hT] at hO
   have hlen : (hexS bs).length ≤ 200000000 := by rw [hexS_len, ← hm.out]; omega
   have lB := hB.size
   refine h4_ hT hB hlen hO ?_; clear hT hB hlen hO; intro hT hB hlen hO
   go_wp2_with (at_builtin; refine app_b rfl _ _ rfl w.heap.size _ (hexS bs) rfl (hO.out.below ((Below.refl _ _).alloc (Nat.le_refl _) _)) (some ⟨wr.heap.size, 0, none⟩) 1 1 [62] rfl rfl (byt_new1 wr 62 5) (fun e => (by cases e)) (by have := hlen.out; simp; omega) (by rw [World.size_alloc]; omega) ?_; intro v' w2 hO3 hB3; replace hO3 := hi_ hO3; replace hB3 := hi_ hB3)
   go_ret
   exact ⟨_, rfl, hO3.out, (hB.out.alloc lB _).trans hB3.out⟩
end Go.Proofs.YthffpbkndnhlfaaGreatDoor
namespace Go.Wk
open Go Go.RowKit
def Blk (w : World) (g : Nat) (t : TypeId) (cs : Array Value) : Prop := w.heap[g]? = some (.cells cs t (0, 0))
section
variable {w w' : World} {g : Nat} {t : TypeId} {cs : Array Value}
theorem Blk.lt (h : Blk w g t cs) : g < w.heap.size := by
 rcases Nat.lt_or_ge g w.heap.size with hlt | hge
 ·exact hlt
 ·unfold Blk at h; rw [Array.getElem?_eq_none hge] at h; cases h
theorem Blk.cell (h : Blk w g t cs) (i : Nat) : w.cell? ⟨g, i, none⟩ = cs[i]? := cell_of_row w g i cs t (0, 0) h
theorem Blk.frozen (h : Blk w g t cs) (i : Nat) : w.frozen? ⟨g, i, none⟩ = false := by
 unfold Blk at h
 simp [World.frozen?, h]
theorem Blk.b3 {z0 z1 z2 : Value} (h : Blk w g t #[z0, z1, z2]) : w.cell? ⟨g, 0, none⟩ = some z0 ∧ w.cell? ⟨g, 1, none⟩ = some z1 ∧ w.cell? ⟨g, 2, none⟩ = some z2 ∧ w.frozen? ⟨g, 0, none⟩ = false ∧ w.frozen? ⟨g, 1, none⟩ = false ∧ w.frozen? ⟨g, 2, none⟩ = false := ⟨h.cell 0, h.cell 1, h.cell 2, h.frozen 0, h.frozen 1, h.frozen 2⟩
theorem Blk.b4 {z0 z1 z2 z3 : Value} (h : Blk w g t #[z0, z1, z2, z3]) : w.cell? ⟨g, 0, none⟩ = some z0 ∧ w.cell? ⟨g, 1, none⟩ = some z1 ∧ w.cell? ⟨g, 2, none⟩ = some z2 ∧ w.cell? ⟨g, 3, none⟩ = some z3 ∧ w.frozen? ⟨g, 0, none⟩ = false ∧ w.frozen? ⟨g, 1, none⟩ = false ∧ w.frozen? ⟨g, 2, none⟩ = false ∧ w.frozen? ⟨g, 3, none⟩ = false := ⟨h.cell 0, h.cell 1, h.cell 2, h.cell 3, h.frozen 0, h.frozen 1, h.frozen 2, h.frozen 3⟩
theorem Blk.b5 {z0 z1 z2 z3 z4 : Value} (h : Blk w g t #[z0, z1, z2, z3, z4]) : w.cell? ⟨g, 0, none⟩ = some z0 ∧ w.cell? ⟨g, 1, none⟩ = some z1 ∧ w.cell? ⟨g, 2, none⟩ = some z2 ∧ w.cell? ⟨g, 3, none⟩ = some z3 ∧ w.cell? ⟨g, 4, none⟩ = some z4 ∧ w.frozen? ⟨g, 0, none⟩ = false ∧ w.frozen? ⟨g, 1, none⟩ = false ∧ w.frozen? ⟨g, 2, none⟩ = false ∧ w.frozen? ⟨g, 3, none⟩ = false ∧ w.frozen? ⟨g, 4, none⟩ = false := ⟨h.cell 0, h.cell 1, h.cell 2, h.cell 3, h.cell 4, h.frozen 0, h.frozen 1, h.frozen 2, h.frozen 3, h.frozen 4⟩
theorem Blk.b6 {z0 z1 z2 z3 z4 z5 : Value} (h : Blk w g t #[z0, z1, z2, z3, z4, z5]) : w.cell? ⟨g, 0, none⟩ = some z0 ∧ w.cell? ⟨g, 1, none⟩ = some z1 ∧ w.cell? ⟨g, 2, none⟩ = some z2 ∧ w.cell? ⟨g, 3, none⟩ = some z3 ∧ w.cell? ⟨g, 4, none⟩ = some z4 ∧ w.cell? ⟨g, 5, none⟩ = some z5 ∧ w.frozen? ⟨g, 0, none⟩ = false ∧ w.frozen? ⟨g, 1, none⟩ = false ∧ w.frozen? ⟨g, 2, none⟩ = false ∧ w.frozen? ⟨g, 3, none⟩ = false ∧ w.frozen? ⟨g, 4, none⟩ = false ∧ w.frozen? ⟨g, 5, none⟩ = false := ⟨h.cell 0, h.cell 1, h.cell 2, h.cell 3, h.cell 4, h.cell 5, h.frozen 0, h.frozen 1, h.frozen 2, h.frozen 3, h.frozen 4, h.frozen 5⟩
theorem Blk.new (w : World) (t : TypeId) (cs : Array Value) : Blk (w.alloc (.cells cs t)) w.heap.size t cs := heap_alloc_new w _
theorem newA (w : World) (t : TypeId) (cs : Array Value) : ∃ w', w' = w.alloc (.cells cs t) ∧ Below w.heap.size w w' := ⟨_, rfl, (Below.refl _ _).alloc (Nat.le_refl _) _⟩
theorem newB (w : World) (t : TypeId) (cs : Array Value) : ∃ w', w' = w.alloc (.cells cs t) ∧ Below w.heap.size w w' ∧ Blk w' w.heap.size t cs := ⟨_, rfl, (Below.refl _ _).alloc (Nat.le_refl _) _, Blk.new w _ _⟩
theorem Blk.drew (h : Blk w g t cs) : Blk w.drew g t cs := h
theorem Blk.drewN (h : Blk w g t cs) (n : Nat) : Blk (w.drewN n) g t cs := h
theorem Blk.alloc (h : Blk w g t cs) (o : Obj) : Blk (w.alloc o) g t cs := (Below.heap_alloc w o g h.lt).trans h
theorem Blk.set_ (h : Blk w g t cs) (i : Nat) (u : Value) : Blk (w.setCell ⟨g, i, none⟩ u) g t (cs.setIfInBounds i u) := by
 unfold Blk at h ⊢
 simp [World.setCell, Array.getElem?_modify, h]
theorem Blk.far (h : Blk w g t cs) {p : Addr} (hp : g ≠ p.block) (u : Value) : Blk (w.setCell p u) g t cs := (Below.heap_setCell w p u g hp).trans h
theorem Blk.below {B : Nat} (h : Blk w g t cs) (hb : Below B w w') (hg : g < B) : Blk w' g t cs := (hb.block g hg).trans h
theorem Blk.grown {row : Option Nat} (h : Blk w g t cs) (hb : w.grownBy w' row) (hg : some g ≠ row) : Blk w' g t cs := (hb.block g h.lt hg).trans h
end
end Go.Wk
namespace Go.Proofs.YthffpbkndnhlfaaGreatDoor
open Go Go.RowKit Go.Wk Go.Sort Go.Lib
theorem size_alloc (w : World) (o : Obj) : (w.alloc o).heap.size = w.heap.size + 1 := by show (w.heap.push _).size = _; simp
theorem str_ne {a b : ByteArray} (h : ¬ a.data.toList = b.data.toList) : (a.toList == b.toList) = false := by
 rw [ByteArray.toList_eq, ByteArray.toList_eq]; simpa using h
end Go.Proofs.YthffpbkndnhlfaaGreatDoor

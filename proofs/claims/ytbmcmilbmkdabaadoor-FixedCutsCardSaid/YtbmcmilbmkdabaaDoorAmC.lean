/- An abstract machine for closed calls, and its soundness over the given model: part C. No condition. -/
import Derived.Test.YtbmcmilbmkdabaaDoorAmB
import Derived.Laws.IdiomCopy
import Derived.Laws.MakeOwn
import Derived.Lib.BytesEntry
import Derived.Lib.IndexEntry
import Derived.Laws.Externs
import Derived.Lib.MakeNoZero
import Derived.KernelRfl
import Derived.Lib.ReflectliteSlice
import Derived.ChangeArms
import GoSem.ClaimJoined
import Derived.Below
import Derived.ChangeSame
import Derived.HandedShaped
import Derived.Lay
import Derived.MakeChecks
import Derived.Stop.Joined
import Derived.Carry
import Derived.ChangeCalls
import Derived.OpenShut
set_option linter.unusedSimpArgs false
set_option linter.unusedVariables false
namespace Go.Am
open Go

section
variable {P : Program} {N T : Nat} {o : Oper} {f : Call_ → Env → Fr → Hp → (AV → Hp → Out) → Out} {call : Call_} {env : Env} {fr : Fr} {h : Hp} {k : AV → Hp → Out} {r : AV} {hF : Hp}
abbrev MadeR (P : Program) (N : Nat) (o : Oper) (env : Env) (fr : Fr) (h : Hp) (k : AV → Hp → Out) (r : AV) (hF : Hp) : Prop := ∃ v el b, k v (grow h ⟨el, 0, big, b⟩) = .ok r hF ∧ RunsA P N o env fr h.nx b v
theorem grow_of {e : Nat} {b : Body} {K : Pth → Hp → Out} (e1 : newFam h e b K = .ok r hF) : K h.nx (grow h ⟨e, 0, big, b⟩) = .ok r hF := newFam_ok e1
/-- a body of one row -/
theorem one_row {l z : List AV} {es : Nat} (hl : l.length = es) (hz : z.length = es) {ρ : Rho} {cs : Array Value} (hc : CellsR ρ l cs.toList) (el : Nat) : NewOk ρ (.cells cs el) es (.arr (.nd .lf (some l) .lf) es 1 z) := by
  have hlook : ∀ p, (PT.nd (.lf : PT (List AV)) (some l) .lf).look p = if p = .e then some l else none := by
    intro p; cases p with
    | e => rfl
    | l p => simp [PT.look, look_lf]
    | r p => simp [PT.look, look_lf]
  have hsz := hc.1.length
  refine ⟨⟨hz, fun p row hr => ?_⟩, .inr ⟨rfl, cs, el, (0, 0), rfl, .inl rfl, by simp at hsz; omega, fun i v hi => ?_⟩⟩
  · rw [hlook] at hr
    split at hr
    · cases hr; exact hl
    · cases hr
  · have hlt : i < es := by
      simp only [Body.cell?] at hi
      split at hi
      · omega
      · cases hi
    rw [cell_arr_row (by omega)] at hi
    have h0 : i / es = 0 := Nat.div_eq_of_lt hlt
    have h1 : Pth.ofNat 0 = .e := rfl
    rw [h0, h1, hlook, if_pos rfl, Nat.mod_eq_of_lt hlt] at hi
    obtain ⟨v', a1, a2⟩ := hc.1.get hi
    exact ⟨v', by simpa using a1, a2, hc.2 v' (List.mem_of_getElem? a1)⟩
theorem ptr_new {ρ : Rho} {id : Pth} {b cs : Nat} : VR (upd1 ρ id 0 (b, 0, cs)) (.ptr id 0 0) (.pointer (some ⟨b, 0, none⟩)) := ⟨b, 0, cs, upd1_same _ _ _ _, rfl⟩
theorem boxC_ok {e : Nat} {v : AV} (e1 : boxC P e v h k = .ok r hF) : ∃ l z, lenOk0 P e = true ∧ k (.ptr h.nx 0 0) (grow h ⟨e, 0, big, .arr (.nd .lf (some l) .lf) (P.cellsOf e) 1 z⟩) = .ok r hF ∧ ∀ ρ x, VR ρ v x → NewOk ρ (.cells x.cells e) (P.cellsOf e) (.arr (.nd .lf (some l) .lf) (P.cellsOf e) 1 z) := by
  unfold boxC at e1
  cases hz : lenOk0 P e with
  | false => rw [hz] at e1; cases e1
  | true =>
    rw [hz] at e1
    obtain ⟨l, e2, hl, hc⟩ := cellsOfC_ok e1
    obtain ⟨i, z, hi, _, hlen, _⟩ := zero_ok hz
    have hes : (zeroL P e).length = P.cellsOf e := by unfold Program.cellsOf; rw [hi]; exact hlen
    exact ⟨l, zeroL P e, rfl, grow_of e2, fun ρ x hx => one_row hl hes (hc ρ x hx) e⟩
theorem newVar_run (e : Nat) (x : Value) (w : World) : (newVar e x).run P w = .ok ⟨w.heap.size, 0, none⟩ (w.alloc (.cells x.cells e)) := by
  simp [newVar, newRow]
theorem made_box {e : Nat} {v : AV} (e1 : boxC P e v h k = .ok r hF) (H : ∀ ρ a, Cx P N ρ env fr a → ∃ x, VR ρ v x ∧ ∀ w, (execOp a.eval o).run P w = .ok (.value (.pointer (some ⟨w.heap.size, 0, none⟩))) (w.alloc (.cells x.cells e))) : MadeR P N o env fr h k r hF := by
  obtain ⟨l, z, _, e2, hn⟩ := boxC_ok e1
  refine ⟨_, _, _, e2, fun ρ a w c hnone => ?_⟩
  obtain ⟨x, h1, h2⟩ := H ρ a c
  exact ⟨_, _, w, _, h2 w, rfl, rfl, rfl, rfl, hn ρ x h1, ptr_new⟩
theorem ok_box {e : Nat} {x : Operand} (ho : o.op = .box e x) (hf : opC P N o.op = .mk f) (e0 : f call env fr h k = .ok r hF) : MadeR P N o env fr h k r hF := by
  rw [ho] at hf
  obtain ⟨v, e1, hv⟩ := op1_ok (show op1 (opdC P N x) (boxC P e) = .mk f from hf) e0
  refine made_box e1 fun ρ a c => ⟨a.eval x, hv ρ a c, fun w => ?_⟩
  simp only [execOp, ho, Instr.box, Sem.run_bind, newVar_run, Result.andThen_ok, Sem.run_pure]
theorem ok_alloc {e : Nat} (ho : o.op = .alloc e) (hf : opC P N o.op = .mk f) (e0 : f call env fr h k = .ok r hF) : MadeR P N o env fr h k r hF := by
  rw [ho] at hf
  have hf' : (match boxC P e, zeroOf P e with | g, some z => OpF.mk fun _ _ _ h k => g z h k | _, none => .no 81) = .mk f := hf
  cases hz : zeroOf P e with
  | none => rw [hz] at hf'; cases hf'; cases e0
  | some v =>
    rw [hz] at hf'; cases hf'
    unfold zeroOf at hz
    cases hi : P.info? e with
    | none => simp [hi] at hz
    | some i =>
      cases hzz : i.zero with
      | none => simp [hi, hzz] at hz
      | some z =>
        simp only [hi, Option.bind_some, hzz] at hz
        refine made_box e0 fun ρ a c => ⟨z, ofVal_ok hz, fun w => ?_⟩
        have hzr : (zeroValue e).run P w = .ok z w := by simp [zeroValue, typeInfo, hi, hzz]
        simp only [execOp, ho, Instr.alloc, Sem.run_bind, hzr, Result.andThen_ok, newVar_run, Sem.run_pure]
theorem map_new {ρ : Rho} : NewOk ρ (.map #[] 0) 0 (.map []) := ⟨trivial, .inl ⟨rfl, rfl⟩⟩
theorem ok_makeMap {t : Nat} {x : Option Operand} (ho : o.op = .makeMap t x) (hf : opC P N o.op = .mk f) (e0 : f call env fr h k = .ok r hF) : MadeR P N o env fr h k r hF := by
  rw [ho] at hf
  cases x with
  | none =>
    cases hf
    refine ⟨_, _, _, grow_of e0, fun ρ a w c _ => ⟨.map (some w.heap.size), .map #[] 0, w, 0, ?_, rfl, rfl, rfl, rfl, map_new, ⟨_, 0, 0, upd1_same _ _ _ _, rfl⟩⟩⟩
    simp [execOp, ho, Instr.makeMap, newObj]; rfl
  | some x =>
    have hf' : (match P.underlying t with | some (.map _ _) => op1 (opdC P N x) fun v h k => v.asInt fun _ _ => newFam h 0 (.map []) fun f h => k (.mp f) h | _ => .no 119) = .mk f := hf
    obtain ⟨ka, kb, hu⟩ : ∃ ka kb, P.underlying t = some (.map ka kb) := by
      split at hf'
      · exact ⟨_, _, by assumption⟩
      · cases hf'; cases e0
    rw [hu] at hf'
    obtain ⟨v, e1, hv⟩ := op1_ok hf' e0
    obtain ⟨kd, n, rfl, e2⟩ := asInt_ok e1
    refine ⟨_, _, _, grow_of e2, fun ρ a w c _ => ⟨.map (some w.heap.size), .map #[] 0, w, 0, ?_, rfl, rfl, rfl, rfl, map_new, ⟨_, 0, 0, upd1_same _ _ _ _, rfl⟩⟩⟩
    have hx : a.eval x = .int kd n := hv ρ a c
    simp [execOp, ho, Instr.makeMap, newObj, hx, run_underlying hu, asInt]; rfl
theorem ok_conv2 {s d : Nat} {x : Operand} (ho : o.op = .convert s d x) (hcl : clsOp P o.op = 2) (hf : opC P N o.op = .mk f) (e0 : f call env fr h k = .ok r hF) : MadeR P N o env fr h k r hF := by
  rw [ho] at hf hcl
  obtain ⟨v, e1, hv⟩ := op1_ok (show op1 (opdC P N x) (convC P s d) = .mk f from hf) e0
  unfold convC at e1
  obtain ⟨U, hu⟩ : ∃ U, P.underlying s = U := ⟨_, rfl⟩
  obtain ⟨W, hw⟩ : ∃ W, P.underlying d = W := ⟨_, rfl⟩
  rw [cls_convert, hu, hw] at hcl
  rw [hu, hw] at e1
  have : ∃ el, U = some .string ∧ W = some (.slice el) := by
    unfold clsConv at hcl
    split at hcl
    · exact ⟨_, rfl, rfl⟩
    · cases hcl
    · cases hcl
    · cases hcl
  obtain ⟨el, rfl, rfl⟩ := this
  simp only at e1
  cases hb : isByte P el with
  | false => rw [hb] at e1; cases e1
  | true =>
    rw [hb] at e1
    have he := isByte_ok hb
    obtain ⟨n, len, rfl, e2⟩ := asStr_ok e1
    refine ⟨_, _, _, grow_of e2, fun ρ a w c _ => ?_⟩
    obtain ⟨bs, hx, h1, h2⟩ := hv ρ a c
    have hrun := run_bytes_of_string (P := P) w s d el bs hu hw he
    have hcap := grownCap_ge w bs.size 0 el
    have hsz : bs.size = bs.data.toList.length := by show bs.data.size = _; rw [Array.length_toList]
    have hrow : (bytesRow bs (grownCap w bs.size 0 el)).size = grownCap w bs.size 0 el := by
      unfold bytesRow
      rw [Array.size_append, Array.size_map, Array.size_replicate]
      have : bs.data.size = bs.size := rfl
      omega
    refine ⟨.slice (some ⟨w.heap.size, 0, none⟩) bs.size (grownCap w bs.size 0 el), .cells (bytesRow bs (grownCap w bs.size 0 el)) el ((bytesRow bs (grownCap w bs.size 0 el)).size, (bytesRow bs (grownCap w bs.size 0 el)).size + 1), w.drew, (bytesRow bs (grownCap w bs.size 0 el)).size, ?_, rfl, rfl, rfl, rfl, ⟨?_, .inr ⟨rfl, _, _, _, rfl, .inr (Nat.le_refl _), rfl, fun i v hi => ?_⟩⟩, ?_⟩
    · simp only [execOp, ho, hx, Sem.run_bind, hrun, Result.andThen_ok]; rfl
    · show n < 256 ^ len
      rw [h1, h2]; exact leNat_lt _
    · rw [h1, h2, cell_byt] at hi
      cases hg : bs.data.toList[i]? with
      | none => rw [hg] at hi; cases hi
      | some c =>
        rw [hg] at hi
        simp only [Option.map_some, Option.some.injEq] at hi
        subst hi
        have hlt : i < bs.data.toList.length := (List.getElem?_eq_some_iff.1 hg).1
        refine ⟨.int .u8 c.toNat, ?_, rfl, rfl⟩
        have hg' : bs.data[i]? = some c := by simpa using hg
        simp only [bytesRow]
        rw [Array.getElem?_append_left (by simpa using hlt)]
        simp [hg']
    · refine ⟨_, 0, _, grownCap w bs.size 0 el, upd1_same _ _ _ _, .inl ⟨by rw [h2, hsz], by omega, by rw [hrow]; omega⟩⟩
end
end Go.Am

namespace Go.Am
open Go

/-! ### Writes come to an end whether the body is in order or not -/
section
variable {r : AV} {hF : Hp}
theorem wrCell_k {b : Body} {off : Nat} {v : AV} {k : Body → Out} (e : wrCell b off v k = .ok r hF) : b.isMap = false ∧ ∃ b', b'.isMap = false ∧ k b' = .ok r hF := by
  cases b with
  | map l => cases e
  | byt n len =>
    obtain ⟨kd, c, rfl, e2⟩ := asInt_ok (show AV.asInt v _ = .ok r hF from e)
    cases c with
    | negSucc c => cases e2
    | ofNat c =>
      obtain ⟨h1, e3⟩ := bc_ok e2
      obtain ⟨h2, e4⟩ := bc_ok e3
      obtain ⟨h3, e5⟩ := bc_ok e4
      rw [natK_eq] at e5
      exact ⟨rfl, _, rfl, e5⟩
  | arr t es len z =>
    obtain ⟨h1, e2⟩ := bc_ok (show bc (Nat.blt off (Nat.mul es len)) (natK (Nat.div off es) fun i => rwGet t (Pth.ofNat i) (k (.arr (rwSet t (Pth.ofNat i) (some (setNth z (Nat.mod off es) v))) es len z)) (fun row => k (.arr (rwSet t (Pth.ofNat i) (some (setNth row (Nat.mod off es) v))) es len z))) (.no 41) = .ok r hF from e)
    rw [natK_eq, rwGet_eq] at e2
    split at e2 <;> exact ⟨rfl, _, rfl, e2⟩
theorem wrCells_k : ∀ {l : List AV} {b : Body} {off : Nat} {k : Body → Out}, b.isMap = false → wrCells l b off k = .ok r hF → ∃ b', b'.isMap = false ∧ k b' = .ok r hF := by
  intro l
  induction l with
  | nil => intro b off k hm e; exact ⟨b, hm, e⟩
  | cons v l ih =>
    intro b off k hm e
    obtain ⟨_, b1, m1, e1⟩ := wrCell_k (show wrCell b off v (fun b => wrCells l b (Nat.succ off) k) = .ok r hF from e)
    exact ih m1 e1
theorem wrRow_k {b : Body} {n off : Nat} {l : List AV} {k : Body → Out} (e : wrRow b n off l k = .ok r hF) : b.isMap = false ∧ ∃ b', b'.isMap = false ∧ k b' = .ok r hF := by
  cases b with
  | map l => cases e
  | byt m len => exact ⟨rfl, wrCells_k rfl (show wrCells l (.byt m len) off k = .ok r hF from e)⟩
  | arr t es len z =>
    refine ⟨rfl, ?_⟩
    have e' : Bool.rec (motive := fun _ => PT (List AV) → Nat → Nat → List AV → Nat → List AV → (Body → Out) → Out) (fun t es len z off l k => wrCells l (.arr t es len z) off k)
      (fun t es len z off l k => natK (Nat.div off es) fun i => bc (Nat.blt i len) (k (.arr (rwSet t (Pth.ofNat i) (some l)) es len z)) (.no 41))
      (Bool.rec (fun _ => false) (fun b => b) (Nat.beq n es) (Nat.beq (Nat.mod off es) 0)) t es len z off l k = .ok r hF := e
    cases hb : (Bool.rec (fun _ => false) (fun b => b) (Nat.beq n es) (Nat.beq (Nat.mod off es) 0) : Bool) with
    | false => rw [hb] at e'; exact wrCells_k rfl e'
    | true =>
      rw [hb] at e'
      have e2 : natK (Nat.div off es) (fun i => bc (Nat.blt i len) (k (.arr (rwSet t (Pth.ofNat i) (some l)) es len z)) (.no 41)) = .ok r hF := e'
      rw [natK_eq] at e2
      obtain ⟨_, e3⟩ := bc_ok e2
      exact ⟨_, rfl, e3⟩
theorem wrRows_k {es : Nat} : ∀ {rows : List (List AV)} {b : Body} {off : Nat} {k : Body → Out}, b.isMap = false → wrRows rows es b off k = .ok r hF → ∃ b', b'.isMap = false ∧ k b' = .ok r hF := by
  intro rows
  induction rows with
  | nil => intro b off k hm e; exact ⟨b, hm, e⟩
  | cons row rows ih =>
    intro b off k hm e
    obtain ⟨_, b1, m1, e1⟩ := wrRow_k (show wrRow b es off row (fun b => wrRows rows es b (Nat.add off es) k) = .ok r hF from e)
    exact ih m1 e1
theorem wrRow_if {b : Body} {n off : Nat} {l : List AV} (hl : l.length = n) {k : Body → Out} (e : wrRow b n off l k = .ok r hF) : b.isMap = false ∧ ∃ b', k b' = .ok r hF ∧ (BodyOk b → WrSpec b off l b') := by
  by_cases hb : BodyOk b
  · obtain ⟨hm, b', h1, h2⟩ := wrRow_ok hb hl e; exact ⟨hm, b', h2, fun _ => h1⟩
  · obtain ⟨hm, b', _, h2⟩ := wrRow_k e; exact ⟨hm, b', h2, fun h => absurd h hb⟩
theorem wrCell_if {b : Body} {off : Nat} {v : AV} {k : Body → Out} (e : wrCell b off v k = .ok r hF) : b.isMap = false ∧ ∃ b', k b' = .ok r hF ∧ (BodyOk b → WrSpec b off [v] b') := by
  by_cases hb : BodyOk b
  · obtain ⟨hm, b', h1, h2⟩ := wrCell_ok hb e; exact ⟨hm, b', h2, fun _ => h1⟩
  · obtain ⟨hm, b', _, h2⟩ := wrCell_k e; exact ⟨hm, b', h2, fun h => absurd h hb⟩
theorem wrRows_if {es : Nat} {rows : List (List AV)} {b : Body} {off : Nat} {k : Body → Out} (hm : b.isMap = false) (hl : ∀ row ∈ rows, row.length = es) (e : wrRows rows es b off k = .ok r hF) : ∃ b', k b' = .ok r hF ∧ (BodyOk b → WrSpec b off rows.flatten b') := by
  by_cases hb : BodyOk b
  · obtain ⟨b', h1, h2⟩ := wrRows_ok hb hm hl e; exact ⟨b', h2, fun _ => h1⟩
  · obtain ⟨b', _, h2⟩ := wrRows_k hm e; exact ⟨b', h2, fun h => absurd h hb⟩
theorem wrBytes_if {b : Body} {off : Nat} {xs : List UInt8} {k : Body → Out} (e : wrBytes b off xs.length (leNat xs) k = .ok r hF) : b.isMap = false ∧ ∃ b', k b' = .ok r hF ∧ (BodyOk b → WrSpecX b off (xs.map fun x => .int .u8 (Int.ofNat x.toNat)) b') := by
  by_cases hb : BodyOk b
  · obtain ⟨hm, b', h1, h2⟩ := wrBytes_ok hb e; exact ⟨hm, b', h2, fun _ => h1⟩
  · cases b with
    | map l => cases e
    | arr t es len z => cases e
    | byt n len =>
      have e' : bc (Nat.ble (Nat.add off xs.length) len) (natK (Nat.add (Nat.add (Nat.mod n (Nat.shiftLeft 1 (Nat.mul 8 off))) (Nat.shiftLeft (leNat xs) (Nat.mul 8 off))) (Nat.shiftLeft (Nat.shiftRight n (Nat.mul 8 (Nat.add off xs.length))) (Nat.mul 8 (Nat.add off xs.length)))) fun c => k (.byt c len))
        (bc (Nat.ble off len) (natK (Nat.add (Nat.mod n (Nat.shiftLeft 1 (Nat.mul 8 off))) (Nat.shiftLeft (leNat xs) (Nat.mul 8 off))) fun c => natK (Nat.add off xs.length) fun l => k (.byt c l)) (.no 41)) = .ok r hF := e
      rw [bc_eq] at e'
      split at e'
      · rw [natK_eq] at e'
        exact ⟨rfl, _, e', fun h => absurd h hb⟩
      · obtain ⟨_, e2⟩ := bc_ok e'
        rw [natK_eq, natK_eq] at e2
        exact ⟨rfl, _, e2, fun h => absurd h hb⟩
end
section
variable {P : Program} {N T : Nat} {o : Oper} {f : Call_ → Env → Fr → Hp → (AV → Hp → Out) → Out} {call : Call_} {env : Env} {fr : Fr} {h : Hp} {k : AV → Hp → Out} {r : AV} {hF : Hp}
abbrev GreatR (P : Program) (N T : Nat) (o : Oper) (env : Env) (fr : Fr) (h : Hp) (k : AV → Hp → Out) (r : AV) (hF : Hp) : Prop := ∃ v h', k v h' = .ok r hF ∧ h.nx.toNat ≤ h'.nx.toNat ∧ RunsG P N T o env fr h v h'
theorem skip_wp {o : Oper} {a : Act} {w w' : World} {next : Act → World → Prop} {Q : Exit → Act → World → Prop} (hr : (execOp a.eval o).run P w = .ok .skip w') (h : next (a.put o.dst undef) w') : o.wp P a w next Q := by
  unfold Oper.wp; rw [hr]; exact h
theorem value_wp {o : Oper} {a : Act} {v : Value} {w w' : World} {next : Act → World → Prop} {Q : Exit → Act → World → Prop} (hr : (execOp a.eval o).run P w = .ok (.value v) w') (h : next (a.put o.dst v) w') : o.wp P a w next Q := by
  unfold Oper.wp; rw [hr]; exact h
/-- cells over cells -/
theorem store_run {ρ : Rho} {w : World} (R : Rel ρ h.look w) {q : Pth} {F : Fam} (hq : h.look q = some F) (hwr : F.old ≤ big) (hm : F.body.isMap = false) {b ba cs : Nat} (hx : ρ q F.ep = some (b, ba, cs)) {off : Nat} {l : List AV} {b' : Body} (S : BodyOk F.body → WrSpec F.body off l b')
    {vs : List Value} (hv : CellsR ρ l vs) : (storeCells ⟨b, ba + off, none⟩ vs).run P w = .ok () (w.setCells b (ba + off) vs) ∧ Tr ρ h w ρ (putFam h q (some (F.wrote off b'))) (w.setCells b (ba + off) vs) := by
  obtain ⟨h1, h2, h3⟩ := R.write hq hwr hm hx (S (R.fam q F hq).bok) hv.1 hv.2
  exact ⟨run_storeCells_cells (P := P) b (ba + off) vs 0 w h1 h2 hv.2, h3⟩
theorem store_runX {ρ : Rho} {w : World} (R : Rel ρ h.look w) {q : Pth} {F : Fam} (hq : h.look q = some F) (hwr : F.old ≤ big) (hm : F.body.isMap = false) {b ba cs : Nat} (hx : ρ q F.ep = some (b, ba, cs)) {off : Nat} {l : List AV} {b' : Body} (S : BodyOk F.body → WrSpecX F.body off l b')
    {vs : List Value} (hv : CellsR ρ l vs) (hfit : ba + off + vs.length ≤ cs) : (storeCells ⟨b, ba + off, none⟩ vs).run P w = .ok () (w.setCells b (ba + off) vs) ∧ Tr ρ h w ρ (putFam h q (some (F.wrote off b'))) (w.setCells b (ba + off) vs) := by
  obtain ⟨c, elt, fz, c1, c2, c3⟩ := ((R.fam q F hq).arr hm _ _ hx).1
  have c2 : c.size = cs := c2
  obtain ⟨h1, h2, h3⟩ := R.writeX hq hwr hm hx (S (R.fam q F hq).bok) hv.1 hv.2 (fun j hj => by
    have c1 : w.heap[b]? = some (.cells c elt fz) := c1
    have hlt : ba + off + j < c.size := by omega
    refine ⟨c[ba + off + j], ?_⟩
    show w.cell? ⟨b, ba + off + j, none⟩ = _
    unfold World.cell?; rw [c1]; simp [hlt])
  exact ⟨run_storeCells_cells (P := P) b (ba + off) vs 0 w h1 h2 hv.2, h3⟩
theorem ok_store {t : Nat} {x y : Operand} (ho : o.op = .store t x y) (hf : opC P N o.op = .mk f) (e : f call env fr h k = .ok r hF) : GreatR P N T o env fr h k r hF := by
  rw [ho] at hf
  obtain ⟨u, v, e1, huv⟩ := op2_ok (show op2 (opdC P N x) (opdC P N y) (storeC P t) = .mk f from hf) e
  have fin : ∀ {l : List AV} {q off ep F b'}, u = .ptr q off ep → h.look q = some F → F.old ≤ big → ep = F.ep → F.body.isMap = false → l.length = P.cellsOf t → (∃ i, P.info? t = some i) → (∀ ρ z, VR ρ v z → CellsR ρ l z.cells.toList) → (BodyOk F.body → WrSpec F.body off l b') →
      k (.tup []) (putFam h q (some (F.wrote off b'))) = .ok r hF → GreatR P N T o env fr h k r hF := by
    intro l q off ep F b' hu hq hwr hep hm hl hi hc S e2
    refine ⟨_, _, e2, by rw [nx_put]; exact Nat.le_refl _, fun ρ a w next Q ha R _ hn => ?_⟩
    obtain ⟨h1, h2⟩ := huv ρ a ha.cx
    rw [hu] at h1
    obtain ⟨b, ba, cs, hx, hp⟩ := h1
    subst hep
    have hcell := hc ρ _ h2
    obtain ⟨h3, h4⟩ := store_run (P := P) R hq hwr hm hx S hcell
    obtain ⟨i, hi⟩ := hi
    have hsz : (a.eval y).cells.size = P.cellsOf t := by have := hcell.1.length; simp at this; omega
    refine skip_wp (w' := w.setCells b (ba + off) (a.eval y).cells.toList) ?_ (hn ρ undef _ ⟨#[], rfl, trivial⟩ h4)
    simp only [execOp, ho, hp, Instr.storeAt, Instr.sureAddr, storeVar, Sem.run_bind, Sem.run_pure, Result.andThen_ok, run_size hi, hsz, ne_eq, not_true, if_false, h3]
  unfold storeC at e1
  cases ha : isAgg P t with
  | true =>
    rw [ha] at e1
    simp only at e1
    obtain ⟨q, off, ep, rfl, e2⟩ := asPtr_ok e1
    obtain ⟨l, e3, hl, hc⟩ := cellsOfC_ok (a := true) e2
    obtain ⟨F, hq, hep, hwr, e4⟩ := famW_ok e3
    rw [bodyK_eq] at e4
    obtain ⟨hm, b', e5, S⟩ := wrRow_if hl e4
    have hi : ∃ i, P.info? t = some i := by
      unfold isAgg at ha
      obtain ⟨U, hu⟩ : ∃ U, P.underlying t = U := ⟨_, rfl⟩
      rw [hu] at ha
      cases U with
      | none => cases ha
      | some d => exact info_of hu
    exact fin rfl hq hwr hep hm hl hi hc S e5
  | false =>
    rw [ha] at e1
    cases hn : P.cellsOf t with
    | zero => rw [hn] at e1; cases e1
    | succ n =>
      cases n with
      | succ n => rw [hn] at e1; cases e1
      | zero =>
        rw [hn] at e1
        obtain ⟨q, off, ep, rfl, e2⟩ := asPtr_ok (show AV.asPtr u _ = .ok r hF from e1)
        obtain ⟨hfl, e3⟩ := bc_ok e2
        obtain ⟨F, hq, hep, hwr, e4⟩ := famW_ok e3
        rw [bodyK_eq] at e4
        obtain ⟨hm, b', e5, S⟩ := wrCell_if e4
        exact fin rfl hq hwr hep hm (by rw [hn]; rfl) (info_pos hn) (fun ρ z hz => cellsR_one hz hfl) S e5
theorem cell_freeze (w : World) (b n : Nat) (a : Addr) : (w.freeze ⟨b, n, none⟩ 1).cell? a = w.cell? a := by
  unfold World.freeze World.cell?
  rw [if_neg (by decide)]
  simp only [Array.getElem?_modify]
  by_cases hb : b = a.block
  · subst hb
    rw [if_pos rfl]
    cases w.heap[a.block]? with
    | none => rfl
    | some o => cases o <;> rfl
  · rw [if_neg hb]
theorem heap_freeze (w : World) (b n k : Nat) (h : k ≠ b) : (w.freeze ⟨b, n, none⟩ 1).heap[k]? = w.heap[k]? := by
  unfold World.freeze
  rw [if_neg (by decide)]
  simp only [Array.getElem?_modify]
  rw [if_neg (Ne.symm h)]
theorem blk_freeze {w : World} {b n k cs : Nat} (hn : ∀ c el fz, w.heap[b]? = some (.cells c el fz) → n = c.size) (h : BlkOk w k cs) : BlkOk (w.freeze ⟨b, n, none⟩ 1) k cs := by
  obtain ⟨c, el, fz, h1, h2, h3⟩ := h
  by_cases hk : k = b
  · subst hk
    have hn := hn c el fz h1
    obtain ⟨lo, hi⟩ := fz
    refine ⟨c, el, if lo == hi then (n, n + 1) else (min lo n, max hi (n + 1)), ?_, h2, ?_⟩
    · unfold World.freeze
      rw [if_neg (by decide)]
      simp only [Array.getElem?_modify, if_true, h1]; rfl
    · right
      split
      · show cs ≤ n; omega
      · rename_i hne
        show cs ≤ min lo n
        rcases h3 with h3 | h3
        · simp at h3; simp [h3] at hne
        · simp at h3; omega
  · exact ⟨c, el, fz, by rw [heap_freeze _ _ _ _ hk]; exact h1, h2, h3⟩
theorem Rel.marked {ρ : Rho} {h : Hp} {w : World} (R : Rel ρ h.look w) {q : Pth} {F : Fam} (hq : h.look q = some F) (hwr : F.old ≤ big) {e : Nat} {x : Nat × Nat × Nat} (hx : ρ q e = some x) {c : Array Value} {el : Nat} {fz : Nat × Nat} (hb : w.heap[x.1]? = some (.cells c el fz)) :
    Tr ρ h w ρ h (w.freeze ⟨x.1, c.size, none⟩ 1) := by
  have hsz : (w.freeze ⟨x.1, c.size, none⟩ 1).heap.size = w.heap.size := by
    unfold World.freeze; rw [if_neg (by decide)]; simp
  have hn : ∀ c' el' fz', w.heap[x.1]? = some (.cells c' el' fz') → c.size = c'.size := by intro c' el' fz' h1; rw [hb] at h1; cases h1; rfl
  have hrest : (w.freeze ⟨x.1, c.size, none⟩ 1).os = w.os ∧ (w.freeze ⟨x.1, c.size, none⟩ 1).tape = w.tape ∧ (w.freeze ⟨x.1, c.size, none⟩ 1).output = w.output := by
    unfold World.freeze; rw [if_neg (by decide)]; exact ⟨rfl, rfl, rfl⟩
  refine ⟨⟨fun f G hG => ?_, R.sep, fun f e y hy => by rw [hsz]; exact R.lt f e y hy⟩, Le.refl ρ, fun f e y h1 h2 => (by rw [h1] at h2; cases h2), Nat.le_refl _, fun f G hG => .inl ⟨G, hG⟩, fun k hk hno => heap_freeze _ _ _ _ fun he => hno q F e x hq hwr hx he.symm, by rw [hsz]; exact Nat.le_refl _, hrest.1, hrest.2.1, hrest.2.2, fun f G hG hb => .inl ⟨G, hG, hb⟩⟩
  have FR := R.fam f G hG
  refine ⟨FR.bok, FR.cur, FR.le, fun l hl => ?_, fun hm e y hy => ?_⟩
  · obtain ⟨h0, y, es, ck, h1, h2, h3⟩ := FR.map l hl
    refine ⟨h0, y, es, ck, h1, ?_, h3⟩
    by_cases hk : y.1 = x.1
    · rw [hk, hb] at h2; cases h2
    · rw [heap_freeze _ _ _ _ hk]; exact h2
  · obtain ⟨a1, a2⟩ := FR.arr hm e y hy
    refine ⟨blk_freeze hn a1, fun i v hi ho => ?_⟩
    obtain ⟨v', b1, b2, b3⟩ := a2 i v hi ho
    exact ⟨v', by rw [cell_freeze]; exact b1, b2, b3⟩
theorem mark_run {w : World} {t el : Nat} (ht : P.underlying t = some (.slice el)) (he : P.underlying el = some (.int .u8)) {b o : Nat} {len cap : Nat} {c : Array Value} {elt : Nat} {fz : Nat × Nat} (hb : w.heap[b]? = some (.cells c elt fz)) :
    (convert t t (.slice (some ⟨b, o, none⟩) len cap)).run P w = .ok (.slice (some ⟨b, o, none⟩) len cap) (w.freeze ⟨b, c.size, none⟩ 1) := by
  have hsh : w.shape? b = some (elt, c.size) := by unfold World.shape?; rw [hb]
  simp [convert, run_underlying ht, run_underlying he, markStringish, hsh]
theorem notMap_ok {b : Body} {K : Out} (e : b.notMap K = .ok r hF) : b.isMap = false ∧ K = .ok r hF := by
  cases b with
  | map l => cases e
  | _ => exact ⟨rfl, e⟩
theorem ok_conv3 {s d : Nat} {x : Operand} (ho : o.op = .convert s d x) (hcl : 3 ≤ clsOp P o.op) (hf : opC P N o.op = .mk f) (e : f call env fr h k = .ok r hF) : GreatR P N T o env fr h k r hF := by
  rw [ho] at hf hcl
  obtain ⟨v, e1, hv⟩ := op1_ok (show op1 (opdC P N x) (convC P s d) = .mk f from hf) e
  unfold convC at e1
  obtain ⟨U, hu⟩ : ∃ U, P.underlying s = U := ⟨_, rfl⟩
  obtain ⟨W, hw⟩ : ∃ W, P.underlying d = W := ⟨_, rfl⟩
  rw [cls_convert, hu, hw] at hcl
  rw [hu, hw] at e1
  have : ∃ el el', U = some (.slice el) ∧ W = some (.slice el') := by
    cases U with
    | none => cases e1
    | some U =>
      cases W with
      | none => cases U <;> cases e1
      | some W => cases U <;> cases W <;> first | exact ⟨_, _, rfl, rfl⟩ | cases e1 | (simp [clsConv] at hcl; done)
  obtain ⟨el, el', rfl, rfl⟩ := this
  simp only at e1
  cases hb : (isByte P el && Nat.beq s d) with
  | false => rw [hb] at e1; cases e1
  | true =>
    rw [hb] at e1
    simp only [Bool.and_eq_true] at hb
    have he := isByte_ok hb.1
    have hsd := Nat.eq_of_beq_eq_true hb.2
    subst hsd
    obtain ⟨q, off, l, ep, es, rfl, e2⟩ := asSlc_ok e1
    obtain ⟨h1, e3⟩ := bc_ok e2
    obtain ⟨F, hq, _, e4⟩ := famK_ok e3
    obtain ⟨hwr, e4⟩ := bc_ok (show bc (Nat.ble F.old big) (F.bodyK fun b => b.notMap (k (.slc q off l ep es) h)) (.no 116) = .ok r hF from e4)
    have hwr : F.old ≤ big := Nat.le_of_ble_eq_true hwr
    rw [bodyK_eq] at e4
    obtain ⟨hm, e5⟩ := notMap_ok e4
    refine ⟨_, _, e5, Nat.le_refl _, fun ρ a w next Q ha R _ hn => ?_⟩
    have hl1 : 1 ≤ l := Nat.le_of_ble_eq_true h1
    have hvv := hv ρ a ha.cx
    obtain ⟨b, ba, cs, cap, hr, hx⟩ := hvv
    rcases hx with ⟨hx, h5, h6⟩ | ⟨h0, _⟩
    · obtain ⟨⟨c, elt, fz, c1, c2, c3⟩, _⟩ := (R.fam q F hq).arr hm ep _ hr
      have hrun := mark_run (P := P) hu he (o := ba + off) (len := l) (cap := cap) c1
      refine value_wp (v := .slice (some ⟨b, ba + off, none⟩) l cap) ?_ (hn ρ _ _ ⟨b, ba, cs, cap, hr, .inl ⟨rfl, h5, h6⟩⟩ (R.marked hq hwr hr c1))
      simp only [execOp, ho, hx, Sem.run_bind, hrun, Result.andThen_ok]; rfl
    · omega

/-! calls -/
theorem VRs.app {ρ : Rho} {a b : List AV} {v u : Array Value} (h : VRs ρ a v.toList) (k : VRs ρ b u.toList) : VRs ρ (a ++ b) (v ++ u).toList := by rw [Array.toList_append]; exact h.append k
theorem ok_call {c : Call} {x : Operand} (ho : o.op = .call c) (hcal : c.callee = .value x) (hf : opC P N o.op = .mk f) (hc : CallOk P call) (e : f call env fr h k = .ok r hF) : GreatR P N T o env fr h k r hF := by
  rw [ho] at hf
  have hf : callC P N c = .mk f := hf
  unfold callC at hf
  rw [hcal] at hf
  simp only at hf
  cases hx : opdC P N x with
  | mk X => cases hl : opdsC P N c.args.toList with
    | mk L =>
      rw [hx, hl] at hf; cases hf
      obtain ⟨v, e1, hv⟩ := opdC_ok hx e
      obtain ⟨as, e2, _, has⟩ := opdsC_ok hl e1
      obtain ⟨q, first, cap, rfl, e3⟩ := asFn_ok e2
      have e4 : call q (first ++ as ++ cap) h k = .ok r hF := by
        cases hfc : first ++ cap with
        | nil =>
          rw [hfc] at e3
          have h1 : first = [] := by cases first with
            | nil => rfl
            | cons _ _ => simp at hfc
          have h2 : cap = [] := by rw [h1] at hfc; exact hfc
          rw [h1, h2]; simpa using e3
        | cons _ _ => rw [hfc] at e3; exact e3
      obtain ⟨w', h', e5, n5, H⟩ := hc e4
      refine ⟨w', h', e5, n5, fun ρ a w next Q ha R K hn => ?_⟩
      obtain ⟨xs, ys, hfx, hxs, hys⟩ := hv ρ a ha.cx
      have hargs := has ρ a ha.cx
      have hargs' : VRs ρ as (c.args.map a.eval).toList := by rw [Array.toList_map]; exact hargs
      have hexec : (execOp a.eval o).run P w = (callFunc q (xs ++ c.args.map a.eval ++ ys)).run P w := by
        simp only [execOp, ho, resolve, hcal, hfx, Deferred.ofValue, Sem.run_bind, Sem.run_pure, Result.andThen_ok, invoke]
      rcases H ρ w (xs ++ c.args.map a.eval ++ ys) ((hxs.app hargs').app hys) ha.cx.gl R K with ⟨v', w1, ρ', h1, h2, h3⟩ | ⟨h1, h2⟩
      · exact value_wp (by rw [hexec]; exact h1) (hn ρ' v' w1 h2 h3)
      · unfold Oper.wp
        rw [hexec, h1]
        refine Calls.mono h2 fun en w1 hr => ?_
        cases en with
        | returned v' => obtain ⟨ρ', a1, a2⟩ := hr; exact hn ρ' v' w1 a1 a2
        | panicked _ => exact hr.elim
        | outgrown => exact hr.elim
end
end Go.Am

namespace Go.Am
open Go

/-! ### Slices made whole -/
structure RowsR (ρ : Rho) (t : PT (List AV)) (es len : Nat) (z : List AV) (cs : Array Value) : Prop where
  ok : BodyOk (.arr t es len z)
  size : cs.size = len * es
  cell : ∀ i v, (Body.arr t es len z).cell? i = some v → ∃ v', cs[i]? = some v' ∧ VR ρ v v' ∧ v'.oneCell' = true
theorem made_get {z : Array Value} {n i : Nat} (h : i < n) (hz : 0 < z.size) : (madeCells z n)[i]? = z[i % z.size]? := by
  have hlt : i % z.size < z.size := Nat.mod_lt _ hz
  simp [madeCells, h, hlt]
theorem zeros_ok {ρ : Rho} {z : List AV} {zc : Array Value} (hz : CellsR ρ z zc.toList) (h1 : 1 ≤ z.length) (len : Nat) : RowsR ρ .lf z.length len z (madeCells zc (len * z.length)) := by
  have hl : z.length = zc.size := by simpa using hz.1.length
  refine ⟨⟨rfl, fun p row h => by rw [look_lf] at h; cases h⟩, size_madeCells _ _, fun i v hi => ?_⟩
  have hlt : i < z.length * len := by
    simp only [Body.cell?] at hi
    split at hi
    · assumption
    · cases hi
  rw [cell_arr_row hlt, look_lf] at hi
  obtain ⟨v', a1, a2⟩ := hz.1.get (show z[i % z.length]? = some v from hi)
  rw [Array.getElem?_toList] at a1
  refine ⟨v', ?_, a2, hz.2 v' (by rw [Array.mem_toList_iff]; exact Array.mem_of_getElem? a1)⟩
  rw [made_get (by rw [Nat.mul_comm]; exact hlt) (by omega), ← hl]; exact a1
theorem div_iff {j i es : Nat} (h : 1 ≤ es) : j / es = i ↔ i * es ≤ j ∧ j < i * es + es := by
  constructor
  · rintro rfl
    have h1 := Nat.div_mul_le_self j es
    have h2 := Nat.lt_mul_div_succ j (show 0 < es by omega)
    refine ⟨h1, ?_⟩
    rw [Nat.mul_add, Nat.mul_one, Nat.mul_comm] at h2; exact h2
  · rintro ⟨h1, h2⟩
    have a : i ≤ j / es := (Nat.le_div_iff_mul_le (by omega)).2 h1
    have b : j / es < i + 1 := (Nat.div_lt_iff_lt_mul (by omega)).2 (by rw [Nat.add_mul, Nat.one_mul]; exact h2)
    omega
theorem row_ok {ρ : Rho} {t : PT (List AV)} {es len : Nat} {z : List AV} {cs : Array Value} (H : RowsR ρ t es len z cs) (h1 : 1 ≤ es) {l : List AV} {ns : List Value} (hl : l.length = es) (hn : CellsR ρ l ns) {i : Nat} (_hi : i < len) :
    RowsR ρ (t.upd (Pth.ofNat i) (some l)) es len z ((ns.zipIdx 0).foldl (fun cs (x : Value × Nat) => cs.setIfInBounds (i * es + x.2) x.1) cs) := by
  obtain ⟨g1, g2⟩ := Great.foldl_set (i * es) ns 0 cs
  have hnl := hn.1.length
  refine ⟨row_put H.ok hl _, by rw [g1, H.size], fun j v hj => ?_⟩
  have hlt : j < es * len := by
    simp only [Body.cell?] at hj
    split at hj
    · assumption
    · cases hj
  have hlt' : j < cs.size := by rw [H.size, Nat.mul_comm]; exact hlt
  rw [cell_arr_row hlt, look_upd] at hj
  rw [g2 j]
  by_cases hc : j / es = i
  · obtain ⟨c1, c2⟩ := (div_iff h1).1 hc
    rw [hc, if_pos rfl] at hj
    have hm : j % es = j - i * es := by
      have := Nat.div_add_mod j es; rw [hc, Nat.mul_comm] at this; omega
    rw [if_pos (by omega), Nat.add_zero]
    obtain ⟨v', a1, a2⟩ := hn.1.get (show l[j % es]? = some v from hj)
    rw [hm] at a1
    exact ⟨v', a1, a2, hn.2 v' (List.mem_of_getElem? a1)⟩
  · have hne : Pth.ofNat (j / es) ≠ Pth.ofNat i := fun he => hc (ofNat_inj he)
    rw [if_neg hne] at hj
    have hnc : ¬ (i * es ≤ j ∧ j < i * es + es) := fun h => hc ((div_iff h1).2 h)
    have hnc2 : ¬ (i * es + 0 ≤ j ∧ j < i * es + 0 + ns.length ∧ j < cs.size) := by omega
    rw [if_neg hnc2]
    exact H.cell j v (by rw [cell_arr_row hlt]; exact hj)
theorem rowsC_ok {a : Bool} {es len : Nat} (h1 : 1 ≤ es) {r : AV} {hF : Hp} : ∀ (idx : List Nat) {g : List AV → PT (List AV) → (PT (List AV) → Out) → Out}, rowsC a es idx = .mk g → (∀ i ∈ idx, i < len) → ∀ {vs : List AV} {t : PT (List AV)} {k : PT (List AV) → Out}, g vs t k = .ok r hF →
    ∃ t', k t' = .ok r hF ∧ ∀ ρ (vals : List Value) (z : List AV) (cs : Array Value), VRs ρ vs vals → RowsR ρ t es len z cs → ∃ o', Instr.fill (fun i => some (i * es, es)) cs (idx.zip vals) = some o' ∧ RowsR ρ t' es len z o' := by
  intro idx
  induction idx with
  | nil => intro g hg _ vs t k e; cases hg; exact ⟨t, e, fun ρ vals z cs _ h => ⟨cs, by simp [Instr.fill], h⟩⟩
  | cons i idx ih =>
    intro g hg hlt vs t k e
    cases hG : rowsC a es idx with
    | mk G =>
      have hg' : RowsF.rec (motive := fun _ => RowsF) (fun g => .mk fun vs t k => List.rec (motive := fun _ => PT (List AV) → (PT (List AV) → Out) → Out) (fun _ _ => .no 77) (fun v vs _ t k => cellsOfC a es v fun l => g vs (rwSet t (Pth.ofNat i) (some l)) k) vs t k) (rowsC a es idx) = RowsF.mk g := hg
      rw [hG] at hg'; cases hg'
      cases vs with
      | nil => cases e
      | cons v vs =>
        obtain ⟨l, e1, hl, hr⟩ := cellsOfC_ok (show cellsOfC a es v (fun l => G vs (rwSet t (Pth.ofNat i) (some l)) k) = .ok r hF from e)
        rw [rwSet_eq] at e1
        obtain ⟨t', e2, H⟩ := ih hG (fun j hj => hlt j (by simp [hj])) e1
        refine ⟨t', e2, fun ρ vals z cs hv hR => ?_⟩
        cases vals with
        | nil => exact hv.elim
        | cons u vals =>
          have hc := hr ρ u hv.1
          have hil := hlt i (by simp)
          obtain ⟨o', a1, a2⟩ := H ρ vals z _ hv.2 (row_ok hR h1 hl hc hil)
          refine ⟨o', ?_, a2⟩
          have hus : u.cells.size = es := by have := hc.1.length; simp at this; omega
          have hle : i * es + es ≤ cs.size := by
            rw [hR.size]
            have : (i + 1) * es ≤ len * es := Nat.mul_le_mul_right es hil
            rw [Nat.add_mul, Nat.one_mul] at this; exact this
          rw [List.zip_cons_cons]
          unfold Instr.fill
          simp only [hus]
          rw [if_neg (by simp; omega)]
          rw [← a1]
          congr 1
          rw [← Array.foldl_toList, Array.toList_zipIdx]
theorem len_ok {P : Program} {e : Nat} (h : lenOk P e = true) : ∃ i z, P.info? e = some i ∧ i.zero = some z ∧ P.cellsOf e = i.size ∧ (zeroL P e).length = i.size ∧ 1 ≤ i.size ∧ (∀ ρ, CellsR ρ (zeroL P e) z.cells.toList) ∧ (isByte P e = true → zeroL P e = [.int .u8 0]) := by
  obtain ⟨h0, h1⟩ := lenOk_0 h
  obtain ⟨i, z, a1, a2, a3, a4⟩ := zero_ok h0
  have hc : P.cellsOf e = i.size := by unfold Program.cellsOf; rw [a1]; rfl
  refine ⟨i, z, a1, a2, hc, a3, by omega, a4, fun hb => ?_⟩
  unfold lenOk at h
  rw [a1] at h
  simp only [Bool.and_eq_true] at h
  have h2 := h.2
  unfold byteZero at h2
  rw [hb] at h2
  simp only at h2
  split at h2
  · rename_i v hv
    rw [hv]
    cases v with
    | int kd n =>
      cases n with
      | negSucc m => cases h2
      | ofNat m =>
        have h2' : Bool.rec false (Nat.beq m 0) (kEq kd .u8) = true := h2
        cases hk : kEq kd .u8 with
        | false => rw [hk] at h2'; cases h2'
        | true =>
          rw [hk] at h2'
          have := kEq_ok hk
          have h3 : m = 0 := Nat.eq_of_beq_eq_true h2'
          subst this; subst h3; rfl
    | _ => cases h2
  · cases h2
/-- the zero bytes -/
theorem zero_bytes {ρ : Rho} {len cap : Nat} {zc : Array Value} (hz : CellsR ρ [.int .u8 0] zc.toList) (hle : len ≤ cap) (el : Nat) : NewOk ρ (.cells (madeCells zc cap) el) cap (.byt 0 len) := by
  have hl : zc.size = 1 := by have := hz.1.length; simp at this; omega
  refine ⟨Nat.pow_pos (by omega), .inr ⟨rfl, _, _, (0, 0), rfl, .inl rfl, size_madeCells _ _, fun i v hi => ?_⟩⟩
  simp only [Body.cell?] at hi
  split at hi
  · rename_i hlt
    cases hi
    obtain ⟨v', a1, a2⟩ := hz.1.get (show ([AV.int .u8 0] : List AV)[0]? = some _ from rfl)
    rw [Array.getElem?_toList] at a1
    refine ⟨v', ?_, ?_, hz.2 v' (by rw [Array.mem_toList_iff]; exact Array.mem_of_getElem? a1)⟩
    · rw [made_get (by omega) (by omega), hl, Nat.mod_one]; exact a1
    · have : (0 : Nat) / 256 ^ i % 256 = 0 := by simp
      rw [this]; exact a2
  · cases hi
section
variable {P : Program} {N T : Nat} {o : Oper} {f : Call_ → Env → Fr → Hp → (AV → Hp → Out) → Out} {call : Call_} {env : Env} {fr : Fr} {h : Hp} {k : AV → Hp → Out} {r : AV} {hF : Hp}
theorem elemT_ok {t e : Nat} (h : elemT P t = some e) : P.underlying t = some (.slice e) := by
  unfold elemT at h
  split at h
  · cases h; assumption
  · cases h
theorem slc_new {ρ : Rho} {id : Pth} {b cs l cap es : Nat} (h1 : l ≤ cap) (h2 : cap * es ≤ cs) : VR (upd1 ρ id 0 (b, 0, cs)) (.slc id 0 l 0 es) (.slice (some ⟨b, 0, none⟩) l cap) := ⟨b, 0, cs, cap, upd1_same _ _ _ _, .inl ⟨rfl, h1, by omega⟩⟩
theorem ok_makeSlice {t : Nat} {x y : Operand} (ho : o.op = .makeSlice t x y) (hf : opC P N o.op = .mk f) (e0 : f call env fr h k = .ok r hF) : MadeR P N o env fr h k r hF := by
  rw [ho] at hf
  obtain ⟨u, v, e1, huv⟩ := op2_ok (show op2 (opdC P N x) (opdC P N y) (makeSliceC P t) = .mk f from hf) e0
  unfold makeSliceC at e1
  cases he : elemT P t with
  | none => rw [he] at e1; cases e1
  | some e =>
    rw [he] at e1
    cases hlo : lenOk P e with
    | false => simp only [hlo] at e1; cases e1
    | true =>
      obtain ⟨i, z, hi, hz, hcs, hzl, hpos, hcz, hby⟩ := len_ok hlo
      have ht := elemT_ok he
      simp only [hlo] at e1
      obtain ⟨kl, l, rfl, e2⟩ := natOf_ok e1
      obtain ⟨kc, c, rfl, e3⟩ := natOf_ok e2
      obtain ⟨h1, e4⟩ := bc_ok e3
      obtain ⟨h2, e5⟩ := bc_ok e4
      simp only [Bool.and_eq_true] at h2
      have hlc : l ≤ c := Nat.le_of_ble_eq_true h1
      have hc6 : c ≤ 1000000 := Nat.le_of_ble_eq_true h2.1
      have hbt : i.bytes * c ≤ 281474976710656 := by
        have := Nat.le_of_ble_eq_true h2.2
        unfold bytesT at this; rw [hi] at this; exact this
      refine ⟨_, _, _, grow_of e5, fun ρ a w cx _ => ?_⟩
      obtain ⟨hx, hy⟩ := huv ρ a cx
      have hx : a.eval x = .int kl (Int.ofNat l) := hx
      have hy : a.eval y = .int kc (Int.ofNat c) := hy
      have hbt' : (i.bytes : Int) * (c : Int) ≤ 281474976710656 := by
        have h9 : ((i.bytes * c : Nat) : Int) ≤ 281474976710656 := by omega
        rw [Int.natCast_mul] at h9; exact h9
      have hrun := run_make (P := P) w t e i z ht hi hz kl kc (l : Int) (c : Int) (by omega) (by omega) hbt' (by omega)
      have hrun' : (execOp a.eval o).run P w = .ok (.value (.slice (some ⟨w.heap.size, 0, none⟩) l c)) (w.alloc (.cells (madeCells z.cells (c * i.size)) e)) := by
        have h3 : (execOp a.eval o).run P w = ((Instr.makeSlice t (.int kl (l : Int)) (.int kc (c : Int))).run P w).andThen fun v w => .ok (.value v) w := by
          simp only [execOp, ho, hx, hy, Sem.run_bind]; rfl
        rw [h3, hrun, Result.andThen_ok]; rfl
      cases hb : isByte P e with
      | true =>
        have hz1 := hby hb
        have hs1 : i.size = 1 := by rw [← hzl, hz1]; rfl
        refine ⟨_, _, w, c, hrun', rfl, rfl, rfl, rfl, ?_, ?_⟩
        · rw [hs1, Nat.mul_one]
          exact zero_bytes (hz1 ▸ hcz ρ) hlc e
        · rw [hcs, hs1]; exact slc_new hlc (by omega)
      | false =>
        have R := zeros_ok (hcz ρ) (by omega) l
        refine ⟨_, _, w, c * i.size, hrun', rfl, rfl, rfl, rfl, ?_, ?_⟩
        · rw [hzl] at R
          rw [hcs]
          refine ⟨R.ok, .inr ⟨rfl, _, _, (0, 0), rfl, .inl rfl, size_madeCells _ _, fun j v hj => ?_⟩⟩
          have hlt : j < i.size * l := by
            simp only [Body.cell?] at hj
            split at hj
            · assumption
            · cases hj
          obtain ⟨v', a1, a2, a3⟩ := R.cell j v hj
          refine ⟨v', ?_, a2, a3⟩
          have hzs : 0 < z.cells.size := by have : (zeroL P e).length = z.cells.size := by simpa using (hcz ρ).1.length
                                            omega
          rw [made_get (by rw [Nat.mul_comm]; exact hlt) hzs] at a1
          rw [made_get (by rw [Nat.mul_comm] at hlt; exact Nat.lt_of_lt_of_le hlt (Nat.mul_le_mul_right _ hlc)) hzs]; exact a1
        · rw [hcs]; exact slc_new hlc (Nat.le_refl _)

/-! slice literals -/
theorem bytesOf_ok : ∀ {vs : List AV} {K : Nat → Out}, bytesOf vs K = .ok r hF → ∃ bs : List UInt8, vs = bs.map (fun b => AV.int .u8 (Int.ofNat b.toNat)) ∧ K (leNat bs) = .ok r hF := by
  intro vs
  induction vs with
  | nil => intro K e; exact ⟨[], rfl, e⟩
  | cons v vs ih =>
    intro K e
    obtain ⟨kd, c, rfl, e1⟩ := asInt_ok (show v.asInt _ = .ok r hF from e)
    obtain ⟨hk, e2⟩ := bc_ok e1
    have := kEq_ok hk
    subst this
    cases c with
    | negSucc c => cases e2
    | ofNat c =>
      obtain ⟨hc, e3⟩ := bc_ok e2
      have hlt : c < 256 := by simpa [Nat.blt_eq] using hc
      obtain ⟨bs, rfl, e4⟩ := ih (show bytesOf vs (fun r => natK (Nat.add c (Nat.mul 256 r)) K) = .ok r hF from e3)
      rw [natK_eq] at e4
      have hb : (UInt8.ofNat c).toNat = c := by simp; omega
      refine ⟨UInt8.ofNat c :: bs, by simp [hb], ?_⟩
      rw [leNat_cons, hb]; exact e4
theorem zip_range : ∀ (vals : List Value) (s : Nat), (List.range' s vals.length).zip vals = (vals.zipIdx s).map fun x => (x.2, x.1) := by
  intro vals
  induction vals with
  | nil => intro s; rfl
  | cons v vals ih => intro s; simp [List.range'_succ, ih]
theorem vr_bytes {ρ : Rho} : ∀ {bs : List UInt8} {vals : List Value}, VRs ρ (bs.map fun b => AV.int .u8 (Int.ofNat b.toNat)) vals → vals = bs.map fun b => Value.int .u8 (Int.ofNat b.toNat) := by
  intro bs
  induction bs with
  | nil => intro vals h; cases vals with
    | nil => rfl
    | cons _ _ => exact h.elim
  | cons b bs ih => intro vals h; cases vals with
    | nil => exact h.elim
    | cons v vals =>
      have h1 : v = .int .u8 (Int.ofNat b.toNat) := h.1
      rw [List.map_cons, h1, ← ih h.2]
theorem run_buildSlice' (w : World) (t e : TypeId) (len : Nat) (parts : Array (Nat × Value)) (cells : Array Value) (ie : TypeInfo) (z : Value)
    (hu : P.underlying t = some (.slice e)) (hie : P.info? e = some ie) (hz : ie.zero = some z) (hsmall : ¬ len * ie.size > 2 ^ 24)
    (hf : Instr.fill (fun i => some (i * ie.size, ie.size)) (madeCells z.cells (len * ie.size)) parts.toList = some cells) :
    (Instr.buildSlice t len parts).run P w = .ok (.slice (some ⟨w.heap.size, 0, none⟩) len len) (w.alloc (.cells cells e)) := by
  by_cases hpos : len * ie.size = 0
  · have hm : madeCells z.cells (len * ie.size) = #[] := by rw [hpos]; simp [madeCells]
    rw [hm] at hf
    have h0 : Array.map (fun _ => (default : Value)) (Array.range 0) = #[] := by simp
    simp [Instr.buildSlice, run_underlying hu, sizeOf, typeInfo, hie, hpos, newRow, Array.range_zero', h0, hf]
  · exact run_buildSlice w t e len parts cells ie z hu hie hz hsmall hpos hf
theorem ok_buildSlice {t len : Nat} {ps : Array (Nat × Operand)} (ho : o.op = .buildSlice t len ps) (hf : opC P N o.op = .mk f) (e0 : f call env fr h k = .ok r hF) : MadeR P N o env fr h k r hF := by
  rw [ho] at hf
  obtain ⟨vs, e1, hv⟩ := opds_ok (l := ps.toList.map fun x : Nat × Operand => x.2) (G := fun vs h k => buildSliceC P t len (ps.toList.map fun x : Nat × Operand => x.1) vs h k) hf e0
  generalize hidx : (ps.toList.map fun x : Nat × Operand => x.1) = idx at e1
  unfold buildSliceC at e1
  cases he : elemT P t with
  | none => rw [he] at e1; cases e1
  | some e =>
    rw [he] at e1
    simp only at e1
    cases hc : (lenOk P e && incr 0 idx && idx.all (· < len) && decide (len * P.cellsOf e ≤ 16777216)) with
    | false => rw [hc] at e1; cases e1
    | true =>
      rw [hc] at e1
      simp only [Bool.and_eq_true, decide_eq_true_eq] at hc
      obtain ⟨⟨⟨hlo, _⟩, hall⟩, hsm⟩ := hc
      obtain ⟨i, z, hi, hz, hcs, hzl, hpos, hcz, hby⟩ := len_ok hlo
      have ht := elemT_ok he
      have hall' : ∀ j ∈ idx, j < len := fun j hj => by have := List.all_eq_true.1 hall j hj; simpa using this
      have hrun : ∀ (a : Act) (w : World) (cells : Array Value), Instr.fill (fun j => some (j * i.size, i.size)) (madeCells z.cells (len * i.size)) (idx.zip ((ps.toList.map fun x : Nat × Operand => x.2).map a.eval)) = some cells →
          (execOp a.eval o).run P w = .ok (.value (.slice (some ⟨w.heap.size, 0, none⟩) len len)) (w.alloc (.cells cells e)) := by
        intro a w cells hfill
        have h2 := run_buildSlice' (P := P) w t e len (ps.map fun x => (x.1, a.eval x.2)) cells i z ht hi hz (by rw [hcs] at hsm; omega) (by rw [zip_parts, hidx]; exact hfill)
        simp only [execOp, ho, Sem.run_bind, h2, Result.andThen_ok]; rfl
      cases hb : isByte P e with
      | false =>
        rw [hb] at e1
        cases hG : rowsC (isAgg P e) (P.cellsOf e) idx with
        | mk G =>
          simp only [hG] at e1
          obtain ⟨t', e2, H⟩ := rowsC_ok (len := len) (by omega) idx hG hall' e1
          refine ⟨_, _, _, grow_of e2, fun ρ a w cx _ => ?_⟩
          have R := zeros_ok (hcz ρ) (by omega) len
          rw [hzl, ← hcs] at R
          obtain ⟨o', a1, a2⟩ := H ρ _ (zeroL P e) _ (hv ρ a cx) R
          rw [hcs] at a1
          refine ⟨_, _, w, len * P.cellsOf e, hrun a w o' a1, rfl, rfl, rfl, rfl, ⟨a2.ok, .inr ⟨rfl, _, _, (0, 0), rfl, .inl rfl, a2.size, a2.cell⟩⟩, slc_new (Nat.le_refl _) (Nat.le_refl _)⟩
      | true =>
        rw [hb] at e1
        simp only at e1
        have hz1 := hby hb
        have hs1 : i.size = 1 := by rw [← hzl, hz1]; rfl
        cases hd : (decide (idx = List.range len) || idx.isEmpty) with
        | false => rw [hd] at e1; cases e1
        | true =>
          rw [hd] at e1
          obtain ⟨bs, rfl, e2⟩ := bytesOf_ok e1
          refine ⟨_, _, _, grow_of e2, fun ρ a w cx _ => ?_⟩
          have hvals := vr_bytes (hv ρ a cx)
          have hlen2 : ((ps.toList.map fun x : Nat × Operand => x.2).map a.eval).length = idx.length := by rw [← hidx]; simp
          rw [hs1] at hrun
          by_cases hem : idx = []
          · have hbs : bs = [] := by
              rw [hvals, hem] at hlen2; simpa using hlen2
            subst hbs
            have hr := hrun a w (madeCells z.cells (len * 1)) (by rw [hem]; rfl)
            rw [Nat.mul_one] at hr
            exact ⟨_, _, w, len, hr, rfl, rfl, rfl, rfl, zero_bytes (hz1 ▸ hcz ρ) (Nat.le_refl _) e, slc_new (Nat.le_refl _) (by omega)⟩
          · have hir : idx = List.range len := by
              simp only [Bool.or_eq_true, decide_eq_true_eq, List.isEmpty_iff] at hd
              exact hd.resolve_right hem
            have hbl : bs.length = len := by
              rw [hvals, hir] at hlen2; simpa using hlen2
            have hfill : Instr.fill (fun j => some (j * 1, 1)) (madeCells z.cells (len * 1)) (idx.zip ((ps.toList.map fun x : Nat × Operand => x.2).map a.eval)) = some (bs.map fun b => Value.int .u8 (Int.ofNat b.toNat)).toArray := by
              rw [hvals, hir, List.range_eq_range']
              have := zip_range (bs.map fun b => Value.int .u8 (Int.ofNat b.toNat)) 0
              rw [List.length_map, hbl] at this
              rw [this]
              exact Great.fill_flat _ _ (fun v hv => by obtain ⟨b, _, rfl⟩ := List.mem_map.1 hv; rfl) (by rw [size_madeCells, List.length_map]; omega)
            refine ⟨_, _, w, len, hrun a w _ hfill, rfl, rfl, rfl, rfl, ⟨?_, .inr ⟨rfl, _, _, (0, 0), rfl, .inl rfl, by simp [hbl], fun j v hj => ?_⟩⟩, slc_new (Nat.le_refl _) (by omega)⟩
            · show leNat bs < 256 ^ len
              rw [← hbl]; exact leNat_lt _
            · rw [← hbl, cell_byt] at hj
              cases hg : bs[j]? with
              | none => rw [hg] at hj; cases hj
              | some c =>
                rw [hg] at hj
                simp only [Option.map_some, Option.some.injEq] at hj
                subst hj
                exact ⟨.int .u8 (Int.ofNat c.toNat), by simp [hg], rfl, rfl⟩
end
end Go.Am

namespace Go.Am
open Go

/-! ### Maps -/
def keyKind (P : Program) (kt : Nat) (d : TypeDesc) : Prop := P.underlying kt = some d ∧ ((∃ k, d = .int k) ∨ d = .string)
theorem beq_bytes (a b : ByteArray) : (a == b) = (a.data.toList == b.data.toList) := by
  cases a with | mk x => cases b with | mk y =>
  show (x == y) = (x.toList == y.toList)
  rw [Bool.eq_iff_iff]
  simp only [beq_iff_eq]
  constructor
  · rintro rfl; rfl
  · intro h; cases x; cases y; simp at h; rw [h]
theorem keyOk_ok {P : Program} {kt : Nat} (h : keyOk P kt = true) : ∃ d, keyKind P kt d := by
  unfold keyOk at h
  split at h
  · exact ⟨_, by assumption, .inl ⟨_, rfl⟩⟩
  · exact ⟨_, by assumption, .inr rfl⟩
  · cases h
def look2 (kt el : Nat) (es : Array MapEntry) (key : Value) (c : Bool) : Sem Value := do
  Instr.checkKey es.isEmpty 10000 kt key
  let (v, ok) ← match ← Instr.findKey kt key es.toList with
    | some (_, v) => pure (v, true)
    | none => pure (← zeroValue el, false)
  pure (if c then .tuple #[v, .bool ok] else v)
section
variable {P : Program} {N T : Nat} {o : Oper} {f : Call_ → Env → Fr → Hp → (AV → Hp → Out) → Out} {call : Call_} {env : Env} {fr : Fr} {h : Hp} {k : AV → Hp → Out} {r : AV} {hF : Hp}
def SameOk (d : TypeDesc) (u v : AV) (b : Bool) : Prop := ∀ ρ u' v', VR ρ u u' → VR ρ v v' → Instr.sameNow d u' v' = some b
theorem keyEq_ok {kt : Nat} {u v : AV} {K : KB} (e : keyEqC P kt u v K = .ok r hF) : ∃ d b, keyKind P kt d ∧ K b = .ok r hF ∧ SameOk d u v b := by
  unfold keyEqC at e
  obtain ⟨U, hu⟩ : ∃ U, P.underlying kt = U := ⟨_, rfl⟩
  rw [hu] at e
  cases U with
  | none => cases e
  | some d =>
    cases d with
    | int kk =>
      obtain ⟨k1, a, rfl, e1⟩ := asInt_ok e
      obtain ⟨k2, b, rfl, e2⟩ := asInt_ok e1
      obtain ⟨hk, e3⟩ := bc_ok e2
      have := kEq_ok hk
      subst this
      rw [ieq_eq] at e3
      refine ⟨_, _, ⟨hu, .inl ⟨kk, rfl⟩⟩, e3, fun ρ u' v' h1 h2 => ?_⟩
      have h1 : u' = .int k1 a := h1
      have h2 : v' = .int k1 b := h2
      subst h1; subst h2
      simp [Instr.sameNow]
    | string =>
      obtain ⟨n, l, rfl, e1⟩ := asStr_ok e
      obtain ⟨n', l', rfl, e2⟩ := asStr_ok e1
      by_cases hs : isStr n l ∧ isStr n' l'
      · obtain ⟨⟨s, rfl, rfl⟩, ⟨s', rfl, rfl⟩⟩ := hs
        rw [strEq_eq] at e2
        refine ⟨_, _, ⟨hu, .inr rfl⟩, e2, fun ρ u' v' h1 h2 => ?_⟩
        rw [str_eq h1, str_eq h2]
        simp only [Instr.sameNow]
        rw [beq_bytes]
      · have : ∃ b, ∀ K : KB, strEq n l n' l' K = K b := by unfold strEq; cases Nat.beq l l' <;> exact ⟨_, fun _ => rfl⟩
        obtain ⟨b, hb⟩ := this
        rw [hb] at e2
        exact ⟨_, b, ⟨hu, .inr rfl⟩, e2, fun ρ u' v' h1 h2 => absurd ⟨str_of h1, str_of h2⟩ hs⟩
    | _ => cases e
/-- what a search finds -/
def FindR (ρ : Rho) (l : List (AV × AV)) (i : Nat) : Option (Nat × AV) → Option (Nat × Value) → Prop
  | none, none => True
  | some (j, v), some (j', v') => j = j' ∧ i ≤ j ∧ (∃ e, l[j - i]? = some e ∧ e.2 = v) ∧ VR ρ v v'
  | _, _ => False
theorem findK_ok {kt : Nat} {d : TypeDesc} (hd : P.underlying kt = some d) {key : AV} {k : Option (Nat × AV) → Out} : ∀ {l : List (AV × AV)} {i : Nat}, findK (keyEqC P kt) key l i k = .ok r hF →
    ∃ res, k res = .ok r hF ∧ (∀ j v, res = some (j, v) → ∃ e, i ≤ j ∧ l[j - i]? = some e ∧ SameOk d key e.1 true) ∧ ∀ ρ key' (es : List MapEntry), VR ρ key key' → EntR ρ l es → ∃ res', Instr.findNow d key' es i = some res' ∧ FindR ρ l i res res' := by
  intro l
  induction l with
  | nil =>
    intro i e
    refine ⟨none, e, (fun j v h => by cases h), fun ρ key' es _ he => ?_⟩
    cases es with
    | nil => exact ⟨none, rfl, trivial⟩
    | cons _ _ => exact he.1.elim
  | cons p l ih =>
    intro i e
    obtain ⟨a, b⟩ := p
    have e' : keyEqC P kt key a (fun rr => Bool.rec (motive := fun _ => AV → ((AV → AV → KB → Out) → AV → Nat → (Option (Nat × AV) → Out) → Out) → (AV → AV → KB → Out) → AV → Nat → (Option (Nat × AV) → Out) → Out) (fun _ ih eq key i k => ih eq key (Nat.succ i) k) (fun b _ _ _ i k => k (some (i, b))) rr b (fun eq key i k => findK eq key l i k) (keyEqC P kt) key i k) = .ok r hF := e
    obtain ⟨d', bb, hk, e1, hs⟩ := keyEq_ok e'
    have hdd : d' = d := by have := hk.1; rw [hd] at this; cases this; rfl
    subst hdd
    cases bb with
    | true =>
      refine ⟨some (i, b), e1, (fun j v h => by cases h; exact ⟨(a, b), Nat.le_refl _, by simp, hs⟩), fun ρ key' es hkey he => ?_⟩
      cases es with
      | nil => exact he.1.elim
      | cons x es =>
        refine ⟨some (i, x.val), ?_, rfl, Nat.le_refl _, ⟨(a, b), by simp, rfl⟩, he.2.1⟩
        unfold Instr.findNow
        rw [hs ρ key' x.key hkey he.1.1]
    | false =>
      obtain ⟨res, e2, hres, H⟩ := ih (show findK (keyEqC P kt) key l (i + 1) k = .ok r hF from e1)
      refine ⟨res, e2, fun j v h => ?_, fun ρ key' es hkey he => ?_⟩
      · obtain ⟨x, h1, h2, h3⟩ := hres j v h
        exact ⟨x, by omega, by rw [show j - i = (j - (i + 1)) + 1 by omega]; simpa using h2, h3⟩
      cases es with
      | nil => exact he.1.elim
      | cons x es =>
        obtain ⟨res', h1, h2⟩ := H ρ key' es hkey ⟨he.1.2, he.2.2⟩
        refine ⟨res', ?_, ?_⟩
        · unfold Instr.findNow
          rw [hs ρ key' x.key hkey he.1.1]; exact h1
        · cases res with
          | none => cases res' with
            | none => trivial
            | some _ => exact h2.elim
          | some p =>
            cases res' with
            | none => exact h2.elim
            | some p' =>
              obtain ⟨j, v⟩ := p; obtain ⟨j', v'⟩ := p'
              obtain ⟨h3, h4, ⟨x, h5, h6⟩, h7⟩ := h2
              exact ⟨h3, by omega, ⟨x, by rw [show j - i = (j - (i + 1)) + 1 by omega]; simpa using h5, h6⟩, h7⟩
theorem checkKey_run {kt : Nat} {d : TypeDesc} (hk : keyKind P kt d) (e : Bool) (v : Value) (w : World) : (Instr.checkKey e 10000 kt v).run P w = .ok () w := by
  have hc : Instr.checkKey e 10000 kt v = Instr.checkKey e (9999 + 1) kt v := rfl
  rw [hc]
  unfold Instr.checkKey
  rw [Sem.run_bind, under hk.1, Result.andThen_ok]
  rcases hk.2 with ⟨kk, rfl⟩ | rfl <;> cases v <;> rfl
theorem findKey_run {kt : Nat} {d : TypeDesc} (hd : P.underlying kt = some d) {key : Value} {es : List MapEntry} {res : Option (Nat × Value)} (h : Instr.findNow d key es 0 = some res) (w : World) : (Instr.findKey kt key es).run P w = .ok res w := by
  unfold Instr.findKey
  rw [Sem.run_bind, under hd, Result.andThen_ok, h]; rfl
theorem zeroOf_ok {e : Nat} {z : AV} (h : zeroOf P e = some z) : ∃ z', (∀ ρ, VR ρ z z') ∧ ∀ w, (zeroValue e).run P w = .ok z' w := by
  unfold zeroOf at h
  cases hi : P.info? e with
  | none => simp [hi] at h
  | some i =>
    cases hz : i.zero with
    | none => simp [hi, hz] at h
    | some z' =>
      simp only [hi, Option.bind_some, hz] at h
      exact ⟨z', fun ρ => ofVal_ok h, fun w => by simp [zeroValue, typeInfo, hi, hz]⟩
theorem look_end {c : Bool} {v : AV} {v' : Value} {ρ : Rho} {b : Bool} (h : VR ρ v v') : VR ρ (lookupC.bc3 c (.tup [v, .bool b]) v) (if c = true then .tuple #[v', .bool b] else v') := by
  cases c with
  | true => exact ⟨#[v', .bool b], rfl, h, rfl, trivial⟩
  | false => exact h
/-- the entries that a map has -/
theorem map_run {q : Pth} {F : Fam} {l : List (AV × AV)} {ρ : Rho} {g : Pth → Option Fam} {w : World} (R : Rel ρ g w) (hq : g q = some F) (hb : F.body = .map l) {x : Nat × Nat × Nat} (hx : ρ q 0 = some x) :
    ∃ es ck, w.heap[x.1]? = some (.map es ck) ∧ EntR ρ l es.toList := by
  obtain ⟨_, y, es, ck, h1, h2, h3⟩ := (R.fam q F hq).map l hb
  rw [hx] at h1; cases h1
  exact ⟨es, ck, h2, h3⟩
theorem ok_lookup {t : Nat} {x y : Operand} {c : Bool} (ho : o.op = .lookup t x y c) (hf : opC P N o.op = .mk f) (e : f call env fr h k = .ok r hF) : ∃ v, k v h = .ok r hF ∧ Runs1 P o N env fr h v := by
  rw [ho] at hf
  obtain ⟨u, v, e1, huv⟩ := op2_ok (show op2 (opdC P N x) (opdC P N y) (lookupC P t c) = .mk f from hf) e
  unfold lookupC at e1
  obtain ⟨U, hu⟩ : ∃ U, P.underlying t = U := ⟨_, rfl⟩
  rw [hu] at e1
  have : ∃ kt el, U = some (.map kt el) := by
    cases U with
    | none => cases e1
    | some d => cases d <;> first | exact ⟨_, _, rfl⟩ | cases e1
  obtain ⟨kt, el, rfl⟩ := this
  simp only at e1
  cases hko : keyOk P kt with
  | false => simp only [hko] at e1; cases e1
  | true =>
   obtain ⟨d, hk⟩ := keyOk_ok hko
   cases hz : zeroOf P el with
   | none => simp only [hko, hz] at e1; cases e1
   | some z =>
    simp only [hko, hz] at e1
    obtain ⟨z', hz1, hz2⟩ := zeroOf_ok hz
    have fin : ∀ (l : List (AV × AV)), (findK (keyEqC P kt) v l 0 fun rr => Option.rec (motive := fun _ => Out) (k (lookupC.bc3 c (.tup [z, .bool false]) z) h) (fun p => k (lookupC.bc3 c (.tup [p.2, .bool true]) p.2) h) rr) = .ok r hF →
        (∀ ρ a w, Cx P N ρ env fr a → Rel ρ h.look w → ∃ es : Array MapEntry, EntR ρ l es.toList ∧ (Instr.lookup t (a.eval x) (a.eval y) c).run P w = (look2 kt el es (a.eval y) c).run P w) → ∃ v, k v h = .ok r hF ∧ Runs1 P o N env fr h v := by
      intro l e2 H
      obtain ⟨res, e3, _, hres⟩ := findK_ok hk.1 e2
      cases res with
      | none =>
        refine ⟨_, e3, fun ρ a w cx R => ?_⟩
        obtain ⟨es, he, hr⟩ := H ρ a w cx R
        obtain ⟨res', h1, h2⟩ := hres ρ _ es.toList (huv ρ a cx).2 he
        cases res' with
        | some _ => exact h2.elim
        | none =>
          refine ⟨_, look_end (c := c) (b := false) (hz1 ρ), ?_⟩
          simp only [execOp, ho, Sem.run_bind, hr, look2, checkKey_run hk, Result.andThen_ok, findKey_run hk.1 h1, hz2, Sem.run_pure]
      | some p =>
        obtain ⟨j, pv⟩ := p
        refine ⟨_, e3, fun ρ a w cx R => ?_⟩
        obtain ⟨es, he, hr⟩ := H ρ a w cx R
        obtain ⟨res', h1, h2⟩ := hres ρ _ es.toList (huv ρ a cx).2 he
        cases res' with
        | none => exact h2.elim
        | some p' =>
          obtain ⟨j', v'⟩ := p'
          refine ⟨_, look_end (c := c) (b := true) h2.2.2.2, ?_⟩
          simp only [execOp, ho, Sem.run_bind, hr, look2, checkKey_run hk, Result.andThen_ok, findKey_run hk.1 h1, Sem.run_pure]
    rcases asMp_ok e1 with ⟨q, rfl, e2⟩ | ⟨rfl, e2⟩
    · obtain ⟨F, l, hq, hb, e3⟩ := famW_map e2
      refine fin l e3 fun ρ a w cx R => ?_
      obtain ⟨b, ba, cs, h1, h2⟩ := (huv ρ a cx).1
      obtain ⟨es, ck, h3, h4⟩ := map_run R hq hb h1
      refine ⟨es, h4, ?_⟩
      rw [h2]
      simp only [Instr.lookup, look2, Sem.run_bind, under hu, Result.andThen_ok, run_getMap h3, Sem.run_pure]; rfl
    · refine fin [] e2 fun ρ a w cx R => ⟨#[], ⟨trivial, trivial⟩, ?_⟩
      have h2 : a.eval x = .map none := (huv ρ a cx).1
      rw [h2]
      simp only [Instr.lookup, look2, Sem.run_bind, under hu, Result.andThen_ok, Sem.run_pure]; rfl
end
end Go.Am

namespace Go.Am
open Go

theorem Rel.mapWrite {ρ : Rho} {h : Hp} {w : World} (R : Rel ρ h.look w) {q : Pth} {F : Fam} {l l' : List (AV × AV)} (hq : h.look q = some F) (hwr : F.old ≤ big) (hb : F.body = .map l) {x : Nat × Nat × Nat} (hx : ρ q 0 = some x) {es : Array MapEntry} {ck : Nat} (he : EntR ρ l' es.toList) :
    Tr ρ h w ρ (putFam h q (some ⟨0, 0, big, .map l'⟩)) { w with heap := w.heap.setIfInBounds x.1 (.map es ck) } := by
  obtain ⟨hep, y, es0, ck0, h1, h2, _⟩ := (R.fam q F hq).map l hb
  rw [hx] at h1; cases h1
  have hlt : x.1 < w.heap.size := R.lt q 0 x hx
  have hlook : ∀ g, (putFam h q (some ⟨0, 0, big, .map l'⟩)).look g = if g = q then some ⟨0, 0, big, .map l'⟩ else h.look g := look_put h q _
  have hsame : (w.heap.setIfInBounds x.1 (.map es ck))[x.1]? = some (.map es ck) := by simp [hlt]
  have hoth : ∀ k, k ≠ x.1 → (w.heap.setIfInBounds x.1 (.map es ck))[k]? = w.heap[k]? := fun k hk => Array.getElem?_setIfInBounds_ne (Ne.symm hk)
  have hno : ∀ g G e y, h.look g = some G → g ≠ q → ρ g e = some y → y.1 ≠ x.1 := fun g G e y hg hne hy heq => hne (R.sep g G e y q F 0 x hg hq hy hx heq).1
  have hl2 : ∀ g G, (putFam h q (some ⟨0, 0, big, .map l'⟩)).look g = some G → ∃ G', h.look g = some G' := by
    intro g G hG
    rw [hlook] at hG
    split at hG
    · rename_i hgq; subst hgq; exact ⟨F, hq⟩
    · exact ⟨G, hG⟩
  refine ⟨⟨?_, ?_, ?_⟩, Le.refl ρ, fun g e y h1 h2 => (by rw [h1] at h2; cases h2), by rw [nx_put]; exact Nat.le_refl _, ?_, ?_, by simp, rfl, rfl, rfl, ?_⟩
  rotate_right
  · intro g G hG hb2
    rw [hlook] at hG
    split at hG
    · rename_i hgq; subst hgq; exact .inl ⟨F, hq, hwr⟩
    · exact .inl ⟨G, hG, hb2⟩
  · intro g G hG
    rw [hlook] at hG
    by_cases hgq : g = q
    · subst hgq
      rw [if_pos rfl] at hG; cases hG
      refine ⟨trivial, ⟨x, hx⟩, fun e y hy => by have := (R.fam g F hq).le e y hy; rw [hep] at this; exact this, fun l2 hl2 => ?_, fun hm => by cases hm⟩
      cases hl2
      exact ⟨rfl, x, es, ck, hx, hsame, he⟩
    · rw [if_neg hgq] at hG
      exact (R.fam g G hG).mono (Le.refl ρ) (fun _ _ h => h) fun e y hy => hoth _ (hno g G e y hG hgq hy)
  · intro g G e y g' G' e' y' h1 h2 h3 h4 h5
    obtain ⟨A, hA⟩ := hl2 g G h1
    obtain ⟨B, hB⟩ := hl2 g' G' h2
    exact R.sep g A e y g' B e' y' hA hB h3 h4 h5
  · intro g e y hy
    show y.1 < (w.heap.setIfInBounds x.1 _).size
    rw [Array.size_setIfInBounds]; exact R.lt g e y hy
  · intro g G hG; exact .inl (hl2 g G hG)
  · intro k hk hk2
    exact hoth k fun he => hk2 q F 0 x hq hwr hx he.symm
theorem setEnt_eq : ∀ (l : List (AV × AV)) (n : Nat) (e : AV × AV), setEnt l n e = l.set n e := by
  intro l
  induction l with
  | nil => intro n e; rfl
  | cons a l ih =>
    intro n e
    cases n with
    | zero => rfl
    | succ n => show a :: setEnt l n e = _; rw [ih]; rfl
theorem VRs.set {ρ : Rho} : ∀ {a : List AV} {v : List Value} {x : AV} {y : Value} (n : Nat), VRs ρ a v → VR ρ x y → VRs ρ (a.set n x) (v.set n y) := by
  intro a
  induction a with
  | nil => intro v x y n h _; cases v with
    | nil => trivial
    | cons _ _ => exact h.elim
  | cons b a ih => intro v x y n h hx; cases v with
    | nil => exact h.elim
    | cons u v => cases n with
      | zero => exact ⟨hx, h.2⟩
      | succ n => exact ⟨h.1, ih n h.2 hx⟩
theorem map_set' {α β : Type} (f : α → β) : ∀ (l : List α) (n : Nat) (a : α), (l.set n a).map f = (l.map f).set n (f a) := by
  intro l
  induction l with
  | nil => intro n a; rfl
  | cons b l ih => intro n a; cases n with
    | zero => rfl
    | succ n => simp [ih]
theorem sameBits_of {d : TypeDesc} (hd : (∃ k, d = .int k) ∨ d = .string) {a b : Value} (h : Instr.sameNow d a b = some true) : Instr.sameBits 10000 b a = true := by
  rcases hd with ⟨k, rfl⟩ | rfl
  · cases a <;> cases b <;> simp [Instr.sameNow] at h
    obtain ⟨h1, h2⟩ := h
    subst h1; subst h2; simp [Instr.sameBits]
  · cases a <;> cases b <;> simp only [Instr.sameNow, Option.some.injEq, reduceCtorEq] at h
    simp only [Instr.sameBits]
    rw [beq_bytes] at h ⊢
    rw [beq_iff_eq] at h ⊢; exact h.symm
section
variable {P : Program} {N T : Nat} {o : Oper} {f : Call_ → Env → Fr → Hp → (AV → Hp → Out) → Out} {call : Call_} {env : Env} {fr : Fr} {h : Hp} {k : AV → Hp → Out} {r : AV} {hF : Hp}
theorem run_setObj {w : World} {b : Nat} {es es' : Array MapEntry} {ck ck' : Nat} (h : w.heap[b]? = some (.map es ck)) : (setObj b (.map es' ck')).run P w = .ok () { w with heap := w.heap.setIfInBounds b (.map es' ck') } := by simp [setObj, Sem.run, h]
theorem ok_update {t : Nat} {x y z : Operand} (ho : o.op = .mapUpdate t x y z ∨ o.op = .insert t x y z) (hf : opC P N o.op = .mk f) (e : f call env fr h k = .ok r hF) : GreatR P N T o env fr h k r hF := by
  have hf1 : OpdF.rec (motive := fun _ => OpF) (fun m => OpdF.rec (motive := fun _ => OpF) (fun key => OpdF.rec (motive := fun _ => OpF) (fun x => (.mk fun _ env fr h k => m env fr fun m => key env fr fun key => x env fr fun x => updateC P t m key x h k)) (opdC P N z)) (opdC P N y)) (opdC P N x) = OpF.mk f := by
    rcases ho with ho | ho <;> (rw [ho] at hf; exact hf)
  have hex : ∀ (a : Act) (w : World), (execOp a.eval o).run P w = ((Instr.mapUpdate t (a.eval x) (a.eval y) (a.eval z)).run P w).andThen fun _ w => .ok .skip w := by
    intro a w; rcases ho with ho | ho <;> (simp only [execOp, ho, Sem.run_bind]; rfl)
  cases hx : opdC P N x with
  | mk X => cases hy : opdC P N y with
    | mk Y => cases hz : opdC P N z with
      | mk Z =>
        rw [hx, hy, hz] at hf1; cases hf1
        obtain ⟨u, e1, hu⟩ := opdC_ok hx e
        obtain ⟨key, e2, hkey⟩ := opdC_ok hy e1
        obtain ⟨v, e3, hv⟩ := opdC_ok hz e2
        unfold updateC at e3
        obtain ⟨U, hU⟩ : ∃ U, P.underlying t = U := ⟨_, rfl⟩
        rw [hU] at e3
        have : ∃ kt el, U = some (.map kt el) := by
          cases U with
          | none => cases e3
          | some d => cases d <;> first | exact ⟨_, _, rfl⟩ | cases e3
        obtain ⟨kt, el, rfl⟩ := this
        simp only at e3
        cases hko : keyOk P kt with
        | false => simp only [hko] at e3; cases e3
        | true =>
          obtain ⟨d, hk⟩ := keyOk_ok hko
          simp only [hko] at e3
          rcases asMp_ok e3 with ⟨q, rfl, e4⟩ | ⟨_, e4⟩
          · obtain ⟨F, l, hq, hwr, hb, e5⟩ := famW_mapW e4
            obtain ⟨res, e6, hres, H⟩ := findK_ok hk.1 e5
            have fin : ∀ l', k (.tup []) (putFam h q (some ⟨0, 0, big, .map l'⟩)) = .ok r hF → (∀ ρ key' v' w (es : Array MapEntry) ck b, VR ρ key key' → VR ρ v v' → EntR ρ l es.toList → w.heap[b]? = some (.map es ck) →
                ∃ es' ck', EntR ρ l' es'.toList ∧ (Instr.mapUpdate t (.map (some b)) key' v').run P w = .ok () { w with heap := w.heap.setIfInBounds b (.map es' ck') }) → GreatR P N T o env fr h k r hF := by
              intro l' e7 H2
              refine ⟨_, _, e7, by rw [nx_put]; exact Nat.le_refl _, fun ρ a w next Q ha R _ hn => ?_⟩
              obtain ⟨b, ba, cs, a1, a2⟩ := hu ρ a ha.cx
              obtain ⟨es, ck, a3, a4⟩ := map_run R hq hb a1
              obtain ⟨es', ck', a5, a6⟩ := H2 ρ _ _ w es ck b (hkey ρ a ha.cx) (hv ρ a ha.cx) a4 a3
              refine skip_wp (P := P) ?_ (hn ρ undef _ ⟨#[], rfl, trivial⟩ (R.mapWrite hq hwr hb a1 (ck := ck') a5))
              rw [hex, a2, a6]; rfl
            cases res with
            | none =>
              refine fin _ e6 fun ρ key' v' w es ck b k1 k2 k3 k4 => ?_
              obtain ⟨res', h1, h2⟩ := H ρ key' es.toList k1 k3
              cases res' with
              | some _ => exact h2.elim
              | none =>
                refine ⟨es.push { key := key', val := v', born := ck }, ck + 1, ?_, ?_⟩
                · show EntR ρ (l ++ [(key, v)]) _
                  rw [Array.toList_push]
                  refine ⟨?_, ?_⟩
                  · rw [List.map_append, List.map_append]; exact k3.1.append ⟨k1, trivial⟩
                  · rw [List.map_append, List.map_append]; exact k3.2.append ⟨k2, trivial⟩
                · simp only [Instr.mapUpdate, Sem.run_bind, under hU, Result.andThen_ok, run_getMap k4, checkKey_run hk, findKey_run hk.1 h1, run_setObj k4]
            | some p =>
              obtain ⟨j, pv⟩ := p
              obtain ⟨en, _, hen, hso⟩ := hres j pv rfl
              rw [Nat.sub_zero] at hen
              refine fin _ e6 fun ρ key' v' w es ck b k1 k2 k3 k4 => ?_
              obtain ⟨res', h1, h2⟩ := H ρ key' es.toList k1 k3
              cases res' with
              | none => exact h2.elim
              | some p' =>
                obtain ⟨j', pv'⟩ := p'
                obtain ⟨rfl, _⟩ := h2
                obtain ⟨ek, g1, g2⟩ := k3.1.get (show (l.map (·.1))[j]? = some en.1 by rw [List.getElem?_map, hen]; rfl)
                have hes : ∃ me : MapEntry, es[j]? = some me ∧ me.key = ek := by
                  rw [List.getElem?_map] at g1
                  cases hq2 : es.toList[j]? with
                  | none => rw [hq2] at g1; cases g1
                  | some me => rw [hq2] at g1; exact ⟨me, by simpa using hq2, by simpa using g1⟩
                obtain ⟨me, m1, m2⟩ := hes
                have hsb := sameBits_of hk.2 (hso ρ key' ek k1 g2)
                have hjs : j < es.size := (Array.getElem?_eq_some_iff.1 m1).1
                have hmod : (es.modify j fun e => { e with key := key', val := v' }).toList = es.toList.set j { me with key := key', val := v' } := by
                  apply List.ext_getElem?
                  intro i
                  rw [Array.getElem?_toList, Array.getElem?_modify, List.getElem?_set]
                  by_cases hij : j = i
                  · subst hij
                    have hb2 : es[j] = me := by rw [Array.getElem?_eq_getElem hjs] at m1; exact Option.some.inj m1
                    simp [hjs, hb2]
                  · simp [hij]
                refine ⟨es.modify j fun e => { e with key := key', val := v' }, ck, ?_, ?_⟩
                · show EntR ρ (setEnt l j (key, v)) _
                  rw [setEnt_eq, hmod]
                  refine ⟨?_, ?_⟩
                  · rw [map_set', map_set']; exact VRs.set j k3.1 k1
                  · rw [map_set', map_set']; exact VRs.set j k3.2 k2
                · have hkts : (Instr.keyThatStays (((es[j]?).map (·.key)).getD key') key').run P w = .ok key' w := by
                    rw [m1]
                    simp only [Option.map_some, Option.getD_some, m2, Instr.keyThatStays, hsb, if_true, Sem.run_pure]
                  simp only [Instr.mapUpdate, Sem.run_bind, under hU, Result.andThen_ok, run_getMap k4, checkKey_run hk, findKey_run hk.1 h1, hkts, run_setObj k4]
          · cases e4
end
end Go.Am

namespace Go.Am
open Go

/-! ### What append and copy read -/
def atMost (x : AV) (m : Nat) : Prop := match x with
  | .str _ l => m ≤ l
  | .slc _ _ l _ _ => m ≤ l
  | .nsl => m = 0
  | _ => False
def SrcOk (P : Program) (h : Hp) (x : AV) (es m : Nat) (l : List AV) : Prop := ∀ ρ w x', VR ρ x x' → Rel ρ h.look w → ∃ vs, CellsR ρ l vs ∧ vs.length = m * es ∧ (Builtin.firstCells es m x').run P w = .ok vs.toArray w
section
variable {P : Program} {h : Hp} {r : AV} {hF : Hp}
theorem first_zero {es : Nat} {a : Addr} {n c : Nat} {w : World} : (Builtin.firstCells es 0 (.slice (some a) n c)).run P w = .ok #[] w := by
  have := run_firstCells_some (P := P) w es 0 a n c [] (by simp) (fun j v h => by simp at h)
  simpa using this
theorem bytes_vr {ρ : Rho} (bs : List UInt8) : CellsR ρ (bs.map fun b => AV.int .u8 (Int.ofNat b.toNat)) (bs.map fun b => Value.int .u8 (Int.ofNat b.toNat)) := by
  refine ⟨?_, fun u hu => ?_⟩
  · induction bs with
    | nil => trivial
    | cons b bs ih => exact ⟨rfl, ih⟩
  · obtain ⟨b, _, rfl⟩ := List.mem_map.1 hu; rfl
theorem srcBytes_src {x : AV} {m : Nat} {K : Nat → Out} (hm : atMost x m) (e : srcBytes h x m K = .ok r hF) : ∃ bs : List UInt8, bs.length = m ∧ K (leNat bs) = .ok r hF ∧ SrcOk P h x 1 m (bs.map fun b => AV.int .u8 (Int.ofNat b.toNat)) := by
  rcases srcBytes_ok e with ⟨n, l, rfl, e1⟩ | ⟨q, off, l, ep, es, F, bs, rfl, h1, h2, h3, h4, h5, e1⟩ | ⟨rfl, e1⟩
  · refine ⟨bytesLE n m, bytesLE_length _ _, by rw [leNat_bytesLE]; exact e1, fun ρ w x' hx _ => ?_⟩
    obtain ⟨s, rfl, hn, hl⟩ := hx
    have hml : m ≤ s.data.toList.length := by rw [← hl]; exact hm
    have hbs : bytesLE n m = s.data.toList.take m := by
      apply List.ext_getElem?
      intro i
      by_cases hi : i < m
      · rw [bytesLE_get _ _ _ hi, List.getElem?_take_of_lt hi, List.getElem?_eq_getElem (by omega), hn, leNat_byte _ i _ (List.getElem?_eq_getElem (by omega))]
        simp
      · rw [List.getElem?_eq_none (by rw [bytesLE_length]; omega), List.getElem?_eq_none (by simp; omega)]
    refine ⟨_, bytes_vr _, by rw [List.length_map, bytesLE_length, Nat.mul_one], ?_⟩
    simp only [Builtin.firstCells, Sem.run_pure]
    congr 1
    apply Array.ext'
    rw [hbs]
    simp [ByteArray.data_extract]
  · refine ⟨bs, h3, e1, fun ρ w x' hx R => ?_⟩
    obtain ⟨b, ba, cs, cap, hr, hx⟩ := hx
    refine ⟨_, bytes_vr bs, by rw [List.length_map, h3, Nat.mul_one], ?_⟩
    rcases hx with ⟨rfl, _, _⟩ | ⟨h0, ad, rfl⟩
    · refine run_firstCells_some (P := P) w 1 m _ l cap _ (by rw [List.length_map, h3, Nat.mul_one]) fun j v hj => ?_
      subst h3
      have hjl : j < bs.length := by have := (List.getElem?_eq_some_iff.1 hj).1; simpa using this
      rw [R.bytes h1 hr h2 h4 h5 j hjl]
      rw [List.getElem?_map, List.getElem?_eq_getElem hjl] at hj
      exact hj
    · have hm0 : m = 0 := by have : m ≤ l := hm; omega
      subst hm0
      have : bs = [] := by simpa using h3
      subst this
      exact first_zero
  · have hm0 : m = 0 := hm
    subst hm0
    refine ⟨[], rfl, e1, fun ρ w x' hx _ => ⟨[], ⟨trivial, fun u hu => by simp at hu⟩, by simp, ?_⟩⟩
    have hx : x' = .slice none 0 0 := hx
    subst hx
    exact run_firstCells_none (P := P) w 1 0 0 0
theorem flatten_get {es : Nat} (hes : 1 ≤ es) : ∀ {rows : List (List AV)}, (∀ row ∈ rows, row.length = es) → rows.flatten.length = rows.length * es ∧ ∀ (j : Nat) v, rows.flatten[j]? = some v → ∃ row, rows[j / es]? = some row ∧ row[j % es]? = some v := by
  intro rows
  induction rows with
  | nil => intro _; exact ⟨by simp, fun j v h => by simp at h⟩
  | cons row rows ih =>
    intro hl
    have h0 := hl row (by simp)
    obtain ⟨h1, h2⟩ := ih fun x hx => hl x (by simp [hx])
    refine ⟨by simp only [List.flatten_cons, List.length_append, h0, h1, List.length_cons, Nat.add_mul, Nat.one_mul]; omega, fun j v hj => ?_⟩
    rw [List.flatten_cons] at hj
    by_cases hjl : j < es
    · rw [List.getElem?_append_left (by omega)] at hj
      exact ⟨row, by rw [Nat.div_eq_of_lt hjl]; rfl, by rw [Nat.mod_eq_of_lt hjl]; exact hj⟩
    · rw [List.getElem?_append_right (by omega), h0] at hj
      obtain ⟨r2, a1, a2⟩ := h2 _ v hj
      obtain ⟨i, rfl⟩ : ∃ i, j = es + i := ⟨j - es, by omega⟩
      rw [Nat.add_sub_cancel_left] at a1 a2
      refine ⟨r2, ?_, ?_⟩
      · rw [Nat.add_div_left _ (by omega)]; simpa using a1
      · rw [Nat.add_mod_left]; exact a2
theorem srcRows_src {x : AV} {es m : Nat} (hes : 1 ≤ es) {K : List (List AV) → Out} (hm : atMost x m) (e : srcRows es h x m K = .ok r hF) : ∃ rows, K rows = .ok r hF ∧ (∀ ρ w x', VR ρ x x' → Rel ρ h.look w → rows.length = m ∧ ∀ row ∈ rows, row.length = es) ∧ SrcOk P h x es m rows.flatten := by
  obtain ⟨q, off, l, ep, es', rfl, e1⟩ := asSlc_ok (show x.asSlc _ = .ok r hF from e)
  obtain ⟨he, e2⟩ := bc_ok e1
  obtain ⟨F, h1, h2, e3⟩ := famK_ok e2
  rw [bodyK_eq] at e3
  obtain ⟨rows, e4, A⟩ := rowsK_if hes e3
  have hA : ∀ ρ w, Rel ρ h.look w → RowsAt F.body es m off rows := fun ρ w R => A (R.fam q F h1).bok
  have hlen : ∀ ρ w, Rel ρ h.look w → rows.length = m ∧ ∀ row ∈ rows, row.length = es := fun ρ w R => by
    obtain ⟨a1, _, a3⟩ := hA ρ w R
    refine ⟨a1, fun row hr => ?_⟩
    obtain ⟨i, hi⟩ := List.getElem?_of_mem hr
    exact (a3 i row hi).1
  refine ⟨rows, e4, fun ρ w x' _ R => hlen ρ w R, fun ρ w x' hx R => ?_⟩
  obtain ⟨a1, a2, a3⟩ := hA ρ w R
  obtain ⟨f1, f2⟩ := flatten_get hes (hlen ρ w R).2
  have hRow : RowAt F.body (m * es) off rows.flatten := by
    refine ⟨by rw [f1, a1], ?_, fun j v hj => ?_⟩
    · rcases a2 with h | h
      · exact .inl (by rw [h, Nat.zero_mul])
      · exact .inr h
    · obtain ⟨row, b1, b2⟩ := f2 j v hj
      have := (a3 _ row b1).2 _ v b2
      have hd := Nat.div_add_mod j es
      rw [show off + j / es * es + j % es = off + j by rw [Nat.mul_comm (j / es)]; omega] at this
      exact this
  obtain ⟨b, ba, cs, cap, hr, hx⟩ := hx
  obtain ⟨vs, c1, c2, c3⟩ := R.cells h1 hr hRow h2
  have hvl : vs.length = m * es := by have := c1.length; rw [f1, a1] at this; exact this.symm
  refine ⟨vs, ⟨c1, c2⟩, hvl, ?_⟩
  rcases hx with ⟨rfl, _, _⟩ | ⟨h0, ad, rfl⟩
  · exact run_firstCells_some (P := P) w es m _ l cap vs hvl fun j v hj => by rw [add_addr]; exact c3 j v hj
  · have hm0 : m = 0 := by have : m ≤ l := hm; omega
    subst hm0
    have : vs = [] := by simpa using hvl
    subst this
    exact first_zero
end
end Go.Am

namespace Go.Am
open Go

section
variable {P : Program} {N T : Nat} {o : Oper} {f : Call_ → Env → Fr → Hp → (AV → Hp → Out) → Out} {call : Call_} {env : Env} {fr : Fr} {h : Hp} {k : AV → Hp → Out} {r : AV} {hF : Hp}
/-- the length of a slice or a string -/
def lenAV : AV → Option Nat
  | .str _ l => some l
  | .slc _ _ l _ _ => some l
  | .nsl => some 0
  | _ => none
theorem lenK_len {v : AV} {K : Nat → Out} (e : v.lenK K = .ok r hF) : ∃ l, lenAV v = some l ∧ K l = .ok r hF := by
  rcases lenK_ok e with ⟨n, l, rfl, e1⟩ | ⟨_, _, l, _, _, rfl, e1⟩ | ⟨rfl, e1⟩ <;> exact ⟨_, rfl, e1⟩
theorem lenOf_run {v : AV} {l : Nat} (hl : lenAV v = some l) {ρ : Rho} {x : Value} (hx : VR ρ v x) (w : World) : (Builtin.lenOf x).run P w = .ok l w := by
  cases v <;> simp only [lenAV, Option.some.injEq, reduceCtorEq] at hl
  · subst hl; obtain ⟨s, rfl, _, rfl⟩ := hx
    simp only [Builtin.lenOf, Sem.run_pure]; rw [Array.length_toList]; rfl
  · subst hl
    obtain ⟨_, _, _, _, _, ⟨rfl, _⟩ | ⟨h0, _, rfl⟩⟩ := hx
    · rfl
    · rw [h0]; rfl
  · subst hl; have hx : x = .slice none 0 0 := hx; subst hx; rfl
theorem atMost_of {v : AV} {l m : Nat} (hl : lenAV v = some l) (hm : m ≤ l) : atMost v m := by
  cases v <;> simp only [lenAV, Option.some.injEq, reduceCtorEq] at hl <;> subst hl <;> first | exact hm | exact Nat.le_zero.1 hm
theorem first_none {v : AV} {l : Nat} (hl : lenAV v = some l) {ρ : Rho} {x : Value} (hx : VR ρ v x) (es : Nat) (w : World) : (Builtin.firstCells es 0 x).run P w = .ok #[] w := by
  cases v <;> simp only [lenAV, Option.some.injEq, reduceCtorEq] at hl
  · obtain ⟨s, rfl, _⟩ := hx
    simp only [Builtin.firstCells, Sem.run_pure]
    congr 1
    apply Array.ext'
    simp [ByteArray.data_extract]
  · obtain ⟨_, _, _, _, _, ⟨rfl, _⟩ | ⟨_, _, rfl⟩⟩ := hx <;> exact first_zero
  · have hx : x = .slice none 0 0 := hx; subst hx; exact run_firstCells_none (P := P) w es 0 0 0
theorem copy_run {ats : Array Nat} {t ty e : Nat} (ht : ats[0]? = some t) (hu : P.underlying t = some (.slice e)) (hi : ∃ i, P.info? e = some i) {base : Option Addr} {dl dc xl : Nat} {x : Value} {w w' : World} {vs : List Value}
    (h1 : (Builtin.lenOf x).run P w = .ok xl w) (h2 : (Builtin.firstCells (P.cellsOf e) (Nat.min xl dl) x).run P w = .ok vs.toArray w)
    (h3 : (match base with | some a => (storeCells a vs).run P w = .ok () w' | none => w' = w)) :
    (Builtin.copy_ ats ty #[.slice base dl dc, x]).run P w = .ok (goInt (Nat.min xl dl)) w' := by
  obtain ⟨i, hi⟩ := hi
  unfold Builtin.copy_
  simp only [ht, List.getElem?_toArray, List.getElem?_cons_zero, List.getElem?_cons_succ, Sem.run_bind, under hu, Result.andThen_ok, h1, run_size hi, h2]
  cases base with
  | none => simp only at h3; subst h3; rfl
  | some a => simp only at h3; simp only [h3, Sem.run_bind, Result.andThen_ok, Sem.run_pure]

theorem slice_of {d : AV} {l : Nat} (hd : (∃ q o l' ep es, d = .slc q o l' ep es ∧ l = l') ∨ (d = .nsl ∧ l = 0)) {ρ : Rho} {x : Value} (hx : VR ρ d x) : ∃ base dc, x = .slice base l dc := by
  rcases hd with ⟨q, o, l', ep, es, rfl, rfl⟩ | ⟨rfl, rfl⟩
  · obtain ⟨_, _, _, cap, _, ⟨rfl, _⟩ | ⟨h0, _, rfl⟩⟩ := hx
    · exact ⟨_, _, rfl⟩
    · rw [h0]; exact ⟨_, _, rfl⟩
  · have hx : x = .slice none 0 0 := hx
    subst hx; exact ⟨_, _, rfl⟩
theorem args2 {c : Call} {x y : Operand} (ha : c.args.toList = [x, y]) (a : Act) : c.args.map a.eval = #[a.eval x, a.eval y] := by rw [arr2 ha]; simp
theorem ok_copy {t : Nat} {ts : List Nat} {x y : Operand} {c : Call} (ho : o.op = .call c) (hc : c.callee = .builtin .copy) (ha : c.args.toList = [x, y]) (ht : c.argTypes.toList = t :: ts) (hf : opC P N o.op = .mk f) (e : f call env fr h k = .ok r hF) : GreatR P N T o env fr h k r hF := by
  rw [ho] at hf
  have hf1 : callC P N c = .mk f := hf
  unfold callC at hf1
  rw [hc] at hf1
  simp only [ha, ht] at hf1
  have hty := arrC ht
  cases hel : elemT P t with
  | none => simp only [hel] at hf1; cases hf1; cases e
  | some el =>
    simp only [hel] at hf1
    obtain ⟨d, s, e1, hds⟩ := op2_ok (show op2 (opdC P N x) (opdC P N y) (copyC P el) = .mk f from hf1) e
    have hu := elemT_ok hel
    have hrun : ∀ (a : Act) (w w' : World) (base : Option Addr) (dl dc m : Nat), a.eval x = .slice base dl dc → (Builtin.copy_ c.argTypes o.type #[.slice base dl dc, a.eval y]).run P w = .ok (goInt m) w' → (execOp a.eval o).run P w = .ok (.value (.int .i64 (Int.ofNat m))) w' := by
      intro a w w' base dl dc m hx hr
      obtain ⟨cs, he⟩ := exec_builtin (P := P) a ho hc w
      rw [he, args2 ha, hx]
      simp only [builtin, Sem.run_bind, hr, Result.andThen_ok, Sem.run_pure]; rfl
    unfold copyC at e1
    cases hlo : lenOk P el with
    | false => simp only [hlo] at e1; cases e1
    | true =>
      obtain ⟨i, z, hi, hz, hcs, hzl, hpos, hcz, hby⟩ := len_ok hlo
      -- nothing to copy
      have none_ : ∀ dl xl, ((∃ q o l' ep es, d = .slc q o l' ep es ∧ dl = l') ∨ (d = .nsl ∧ dl = 0)) → lenAV s = some xl → Nat.min xl dl = 0 → k (.int .i64 0) h = .ok r hF → GreatR P N T o env fr h k r hF := by
        intro dl xl hd hs hm e2
        refine ⟨_, _, e2, Nat.le_refl _, Runs1.toG fun ρ a w cx R => ?_⟩
        obtain ⟨h1, h2⟩ := hds ρ a cx
        obtain ⟨base, dc, hxe⟩ := slice_of hd h1
        have hcr := copy_run (P := P) (ats := c.argTypes) (ty := o.type) hty hu ⟨i, hi⟩ (base := base) (dl := dl) (dc := dc) (x := a.eval y) (w := w) (w' := w) (vs := []) (lenOf_run hs h2 w) (by rw [hm]; exact first_none hs h2 _ w) (by cases base <;> rfl)
        rw [hm] at hcr
        exact ⟨_, rfl, hrun a w w base dl dc 0 hxe hcr⟩
      have some_ : ∀ {m dl xl q off ep es F} {l : List AV} {b' : Body}, d = .slc q off dl ep es → lenAV s = some xl → m = Nat.min xl dl → h.look q = some F → F.old ≤ big → ep = F.ep → F.body.isMap = false → SrcOk P h s (P.cellsOf el) m l → (BodyOk F.body → WrSpecX F.body off l b') → ((BodyOk F.body → WrSpec F.body off l b') ∨ (es = 1 ∧ P.cellsOf el = 1)) → 0 < m →
          k (.int .i64 (Int.ofNat m)) (putFam h q (some (F.wrote off b'))) = .ok r hF → GreatR P N T o env fr h k r hF := by
        intro m dl xl q off ep es F l b' hd hs hm hq hwr hep hmap hsrc S hS hmp e2
        refine ⟨_, _, e2, by rw [nx_put]; exact Nat.le_refl _, fun ρ a w next Q har R _ hn => ?_⟩
        obtain ⟨h1, h2⟩ := hds ρ a har.cx
        obtain ⟨vs, v1, v2, v3⟩ := hsrc ρ w _ h2 R
        rw [hd] at h1
        obtain ⟨b, ba, cs, cap, hr, hxe⟩ := h1
        subst hep
        rcases hxe with ⟨hxe, hlc, hcc⟩ | ⟨h0, ad, hxe⟩
        · obtain ⟨s1, s2⟩ : (storeCells ⟨b, ba + off, none⟩ vs).run P w = .ok () (w.setCells b (ba + off) vs) ∧ Tr ρ h w ρ (putFam h q (some (F.wrote off b'))) (w.setCells b (ba + off) vs) := by
            rcases hS with hS | ⟨rfl, h1⟩
            · exact store_run (P := P) R hq hwr hmap hr hS v1
            · refine store_runX (P := P) R hq hwr hmap hr S v1 ?_
              have : m ≤ dl := by rw [hm]; exact Nat.min_le_right _ _
              rw [v2, h1]; omega
          have hcr := copy_run (P := P) (ats := c.argTypes) (ty := o.type) hty hu ⟨i, hi⟩ (base := some ⟨b, ba + off, none⟩) (dl := dl) (dc := cap) (x := a.eval y) (w := w) (w' := w.setCells b (ba + off) vs) (vs := vs) (lenOf_run hs h2 w) (by rw [← hm]; exact v3) s1
          rw [← hm] at hcr
          exact value_wp (hrun a w _ _ dl cap m hxe hcr) (hn ρ _ _ rfl s2)
        · have : Nat.min xl dl = 0 := by rw [h0]; exact Nat.min_zero _
          omega
      have two : ∀ {B : Nat → Out}, (d.lenS fun dl => s.lenK fun xl => natK (minN xl dl) B) = .ok r hF → (B 0 = .ok r hF → k (.int .i64 0) h = .ok r hF) →
          (∀ m dl xl, ((∃ q o l' ep es, d = .slc q o l' ep es ∧ dl = l') ∨ (d = .nsl ∧ dl = 0)) → lenAV s = some xl → m = Nat.min xl dl → 0 < m → B m = .ok r hF → GreatR P N T o env fr h k r hF) → GreatR P N T o env fr h k r hF := by
        intro B e2 B0 H
        have : ∃ dl, ((∃ q o l' ep es, d = .slc q o l' ep es ∧ dl = l') ∨ (d = .nsl ∧ dl = 0)) ∧ (s.lenK fun xl => natK (minN xl dl) B) = .ok r hF := by
          rcases lenS_ok e2 with ⟨q, o', l, p, es, hd, e3⟩ | ⟨hd, e3⟩
          · exact ⟨l, .inl ⟨q, o', l, p, es, hd, rfl⟩, e3⟩
          · exact ⟨0, .inr ⟨hd, rfl⟩, e3⟩
        obtain ⟨dl, hd, e3⟩ := this
        obtain ⟨xl, hs, e4⟩ := lenK_len e3
        rw [natK_eq, minN_eq] at e4
        cases hm : min xl dl with
        | zero => rw [hm] at e4; exact none_ dl xl hd hs hm (B0 e4)
        | succ m => rw [hm] at e4; exact H (m + 1) dl xl hd hs hm.symm (by omega) e4
      cases hb : isByte P el with
      | true =>
        simp only [hlo, hb] at e1
        have hs1 : P.cellsOf el = 1 := by rw [hcs, ← hzl, hby hb]; rfl
        refine two e1 (fun e => e) fun m dl xl hd hs hm hmp e2 => ?_
        obtain ⟨m, rfl⟩ : ∃ n, m = n + 1 := ⟨m - 1, by omega⟩
        have e2 : (srcBytes h s (m + 1) fun n => d.asSlc fun f o _ ep es => bc (Nat.beq es 1) (famW h f ep fun fam => fam.bodyK fun b => wrBytes b o (m + 1) n fun b => k (.int .i64 (Int.ofNat (m + 1))) (putFam h f (some (fam.wrote o b)))) (.no 68)) = .ok r hF := e2
        generalize m + 1 = m at *
        obtain ⟨bs, hbl, e3, hsrc⟩ := srcBytes_src (P := P) (atMost_of hs (by rw [hm]; exact Nat.min_le_left _ _)) e2
        obtain ⟨q, off, l', ep, es, hdd, e4⟩ := asSlc_ok e3
        obtain ⟨hes, e4⟩ := bc_ok e4
        have hes := Nat.eq_of_beq_eq_true hes
        obtain ⟨F, hq, hep, hwr, e5⟩ := famW_ok e4
        rw [bodyK_eq] at e5
        subst hbl
        obtain ⟨hmap, b', e6, S⟩ := wrBytes_if e5
        have hdl : dl = l' := by
          rcases hd with ⟨_, _, _, _, _, h1, h2⟩ | ⟨h1, _⟩
          · rw [hdd] at h1; cases h1; exact h2
          · rw [hdd] at h1; cases h1
        subst hdl
        exact some_ hdd hs hm hq hwr hep hmap (by rw [hs1]; exact hsrc) S (.inr ⟨hes, hs1⟩) hmp e6
      | false =>
        simp only [hlo, hb] at e1
        refine two e1 (fun e => e) fun m dl xl hd hs hm hmp e2 => ?_
        obtain ⟨m, rfl⟩ : ∃ n, m = n + 1 := ⟨m - 1, by omega⟩
        have e2 : (srcRows (P.cellsOf el) h s (m + 1) fun rows => d.asSlc fun f o _ ep es' => bc (Nat.beq (P.cellsOf el) es') (famW h f ep fun fam => fam.bodyK fun b => wrRows rows (P.cellsOf el) b o fun b => k (.int .i64 (Int.ofNat (m + 1))) (putFam h f (some (fam.wrote o b)))) (.no 68)) = .ok r hF := e2
        generalize m + 1 = m at *
        obtain ⟨rows, e3, hrl, hsrc⟩ := srcRows_src (P := P) (by omega) (atMost_of hs (by rw [hm]; exact Nat.min_le_left _ _)) e2
        obtain ⟨q, off, l', ep, es, hdd, e4⟩ := asSlc_ok e3
        obtain ⟨_, e4⟩ := bc_ok e4
        obtain ⟨F, hq, hep, hwr, e5⟩ := famW_ok e4
        rw [bodyK_eq] at e5
        have hdl : dl = l' := by
          rcases hd with ⟨_, _, _, _, _, h1, h2⟩ | ⟨h1, _⟩
          · rw [hdd] at h1; cases h1; exact h2
          · rw [hdd] at h1; cases h1
        subst hdl
        -- rows that are not of the right form stand in no world
        have vain : ∀ b', k (.int .i64 (Int.ofNat m)) (putFam h q (some (F.wrote off b'))) = .ok r hF → ¬ (rows.length = m ∧ ∀ row ∈ rows, row.length = P.cellsOf el) → GreatR P N T o env fr h k r hF := fun b' e6 hno =>
          ⟨_, _, e6, by rw [nx_put]; exact Nat.le_refl _, fun ρ a w next Q har R _ _ => absurd (hrl ρ w _ (hds ρ a har.cx).2 R) hno⟩
        cases hrows : rows with
        | nil => subst hrows; exact vain _ e5 (fun hh => by have := hh.1; simp at this; omega)
        | cons row rest =>
          have hmap : F.body.isMap = false := by
            rw [hrows] at e5
            exact (wrRow_k (show wrRow F.body (P.cellsOf el) off row (fun b => wrRows rest (P.cellsOf el) b (Nat.add off (P.cellsOf el)) fun b => k (.int .i64 (Int.ofNat m)) (putFam h q (some (F.wrote off b)))) = .ok r hF from e5)).1
          by_cases hl : ∀ row ∈ rows, row.length = P.cellsOf el
          · obtain ⟨b', e6, S⟩ := wrRows_if hmap hl e5
            exact some_ hdd hs hm hq hwr hep hmap hsrc (fun h => (S h).toX) (.inl S) hmp e6
          · obtain ⟨b', _, e6⟩ := wrRows_k hmap e5
            exact vain b' e6 fun hh => hl hh.2
end
end Go.Am

namespace Go.Am
open Go

/-! ### Append, as the model runs it -/
section
variable {P : Program}
theorem app_room {ats : Array Nat} {t u ty e : Nat} {U : TypeDesc} (ht : ats[0]? = some t) (hu0 : ats[1]? = some u) (hu : P.underlying t = some (.slice e)) (hU : P.underlying u = some U) (hUi : ∀ k, U ≠ .int k) {i : TypeInfo} (hi : P.info? e = some i)
    {base : Option Addr} {sl sc n : Nat} {x : Value} {w w' : World} {vs : List Value} (h1 : (Builtin.lenOf x).run P w = .ok n w) (hroom : sl + n ≤ sc) (h2 : (Builtin.firstCells (P.cellsOf e) n x).run P w = .ok vs.toArray w)
    (h3 : match base with | some a => (storeCells (a.add (sl * P.cellsOf e)) vs).run P w = .ok () w' | none => w' = w) :
    (Builtin.append_ ats ty #[.slice base sl sc, x]).run P w = .ok (.slice base (sl + n) sc) w' := by
  unfold Builtin.append_
  simp only [ht, hu0, List.getElem?_toArray, List.getElem?_cons_zero, List.getElem?_cons_succ]
  rw [Sem.run_bind, run_underlying hu, Result.andThen_ok]
  simp only
  rw [Sem.run_bind, run_size hi, Result.andThen_ok, Sem.run_bind, run_underlying hU, Result.andThen_ok, Sem.run_bind, Sem.run_pure, Result.andThen_ok]
  cases U <;> first | exact absurd rfl (hUi _) | skip
  all_goals
    simp only [Bool.false_eq_true, if_false, Bool.not_false, if_true]
    rw [Sem.run_bind, h1, Result.andThen_ok, if_pos hroom, Sem.run_bind, h2, Result.andThen_ok]
    cases base with
    | none => simp only at h3; subst h3; rfl
    | some a => simp only at h3; simp only [Sem.run_bind, h3, Result.andThen_ok, Sem.run_pure]
theorem app_grow {ats : Array Nat} {t u ty e : Nat} {U : TypeDesc} (ht : ats[0]? = some t) (hu0 : ats[1]? = some u) (hu : P.underlying t = some (.slice e)) (hU : P.underlying u = some U) (hUi : ∀ k, U ≠ .int k) {i : TypeInfo} (hi : P.info? e = some i) {z : Value} (hz : i.zero = some z)
    {base : Option Addr} {sl sc n : Nat} {x : Value} {w : World} {olds news : List Value} (h1 : (Builtin.lenOf x).run P w = .ok n w) (hg : sc < sl + n) (h63 : sl + n ≤ 9223372036854775807) (hfit : (sl + n) * i.bytes ≤ 140737488355328)
    (h2 : (Builtin.firstCells (P.cellsOf e) sl (.slice base sl sc)).run P w.drew = .ok olds.toArray w.drew) (h3 : (Builtin.firstCells (P.cellsOf e) n x).run P w.drew = .ok news.toArray w.drew) :
    (Builtin.append_ ats ty #[.slice base sl sc, x]).run P w = .ok (.slice (some ⟨w.heap.size, 0, none⟩) (sl + n) (grownCap w (sl + n) sc e)) (w.drew.alloc (.cells (olds.toArray ++ news.toArray ++ Builtin.zeroCells z.cells (grownCap w (sl + n) sc e - (sl + n))) e)) := by
  have hn : ¬ (sl + n ≤ sc) := by omega
  have hti : (typeInfo e).run P w = .ok i w := by simp [typeInfo, hi]
  have h48 : ¬ (Builtin.nextslicecap (sl + n) sc * i.bytes > 2 ^ 48) := by have := growslice_fits hg hfit; omega
  have h63' : ¬ (((sl + n : Nat) : Int) > IntKind.i64.max ∧ (False ∨ i.bytes = 0)) := by
    rintro ⟨h4, _⟩
    have h5 : IntKind.i64.max = 9223372036854775807 := by decide
    rw [h5] at h4; omega
  have hzr : (zeroValue e).run P w.drew = .ok z w.drew := by simp [zeroValue, typeInfo, hi, hz]
  unfold Builtin.append_
  simp only [ht, hu0, List.getElem?_toArray, List.getElem?_cons_zero, List.getElem?_cons_succ]
  rw [Sem.run_bind, run_underlying hu, Result.andThen_ok]
  simp only
  rw [Sem.run_bind, run_size hi, Result.andThen_ok, Sem.run_bind, run_underlying hU, Result.andThen_ok, Sem.run_bind, Sem.run_pure, Result.andThen_ok]
  cases U <;> first | exact absurd rfl (hUi _) | skip
  all_goals
    simp only [Bool.false_eq_true, if_false, Bool.not_false, if_true]
    rw [Sem.run_bind, h1, Result.andThen_ok, if_neg hn]
    rw [Sem.run_bind, hti, Result.andThen_ok, if_neg h63', Sem.run_bind, hti, Result.andThen_ok, if_neg h48]
    have htd : (typeInfo e).run P w.drew = .ok i w.drew := by simp [typeInfo, hi]
    have hch : (choose (Question.appendCap (sl + n) sc e)).run P w = .ok (grownCap w (sl + n) sc e) w.drew := by simp [grownCap, Question.forced]
    have hro : (askRoom (grownCap w (sl + n) sc e * i.bytes)).run P w.drew = .ok () w.drew := by simp
    rw [Sem.run_bind, hch, Result.andThen_ok, Sem.run_bind, htd, Result.andThen_ok, Sem.run_bind, hro, Result.andThen_ok, Sem.run_bind, h2, Result.andThen_ok, Sem.run_bind, h3, Result.andThen_ok, Sem.run_bind, hzr, Result.andThen_ok]
    simp [newRow]
end
end Go.Am

namespace Go.Am
open Go

/-- a family goes on at a new place, or further on at an old one -/
theorem Rel.epoch {ρ : Rho} {h : Hp} {w w' : World} (R : Rel ρ h.look w) {q : Pth} {F : Fam} (hq : h.look q = some F) (hwr : F.old ≤ big) {x : Nat × Nat × Nat} {b' : Body} {el old : Nat} (hok : BodyOk b') (hm' : b'.isMap = false)
    (hcell : ∀ i v, b'.cell? i = some v → CellR ρ w' x.1 (x.2.1 + i) v) (hblk : BlkOk w' x.1 x.2.2)
    (hold : ∀ e y, ρ q e = some y → BlkOk w' y.1 y.2.2 ∧ ∀ i v, b'.cell? i = some v → i < old → CellR ρ w' y.1 (y.2.1 + i) v)
    (hoth : ∀ k, k < w.heap.size → k ≠ x.1 → w'.heap[k]? = w.heap[k]?)
    (hx : (w.heap.size ≤ x.1 ∧ x.1 < w'.heap.size) ∨ ∃ e y, ρ q e = some y ∧ y.1 = x.1 ∧ y.2.1 = x.2.1) (hsz : w.heap.size ≤ w'.heap.size) (hos : w'.os = w.os) (ht : w'.tape = w.tape) (hout : w'.output = w.output) :
    Tr ρ h w (upd1 ρ q (F.ep + 1) x) (putFam h q (some ⟨el, F.ep + 1, old, b'⟩)) w' := by
  have hnone : ρ q (F.ep + 1) = none := by
    cases hr : ρ q (F.ep + 1) with
    | none => rfl
    | some y => have := (R.fam q F hq).le _ y hr; omega
  have hle := upd1_le (x := x) hnone
  have hlook : ∀ g, (putFam h q (some ⟨el, F.ep + 1, old, b'⟩)).look g = if g = q then some ⟨el, F.ep + 1, old, b'⟩ else h.look g := look_put h q _
  have hl2 : ∀ g G, (putFam h q (some ⟨el, F.ep + 1, old, b'⟩)).look g = some G → ∃ G', h.look g = some G' := by
    intro g G hG
    rw [hlook] at hG
    split at hG
    · rename_i hgq; subst hgq; exact ⟨F, hq⟩
    · exact ⟨G, hG⟩
  have hxlt : x.1 < w'.heap.size := by
    rcases hx with h | ⟨e, y, h1, h2, _⟩
    · exact h.2
    · have := R.lt q e y h1; omega
  have hne : ∀ g G e y, h.look g = some G → g ≠ q → ρ g e = some y → y.1 ≠ x.1 := by
    intro g G e y hg hgq hy heq
    rcases hx with h | ⟨e2, y2, h1, h2, _⟩
    · have := R.lt g e y hy; omega
    · exact hgq (R.sep g G e y q F e2 y2 hg hq hy h1 (heq.trans h2.symm)).1
  refine ⟨⟨?_, ?_, ?_⟩, hle, ?_, by rw [nx_put]; exact Nat.le_refl _, ?_, ?_, hsz, hos, ht, hout, ?_⟩
  rotate_right
  · intro g G hG hb
    rw [hlook] at hG
    split at hG
    · rename_i hgq; subst hgq; exact .inl ⟨F, hq, hwr⟩
    · exact .inl ⟨G, hG, hb⟩
  · intro g G hG
    rw [hlook] at hG
    by_cases hgq : g = q
    · subst hgq
      rw [if_pos rfl] at hG; cases hG
      refine ⟨hok, ⟨x, upd1_same _ _ _ _⟩, fun e y hy => ?_, fun l hl => ?_, fun _ e y hy => ?_⟩
      · rcases upd1_inv hy with ⟨_, h1, _⟩ | h1
        · rw [h1]; exact Nat.le_refl _
        · have := (R.fam g F hq).le e y h1; show e ≤ F.ep + 1; omega
      · have hl : b' = .map l := hl
        rw [hl] at hm'; cases hm'
      · rcases upd1_inv hy with ⟨_, h1, h2⟩ | h1
        · subst h2; exact ⟨hblk, fun i v hi _ => (hcell i v hi).mono hle rfl⟩
        · obtain ⟨a1, a2⟩ := hold e y h1
          refine ⟨a1, fun i v hi ho => (a2 i v hi ?_).mono hle rfl⟩
          rcases ho with ho | ho
          · have := (R.fam g F hq).le e y h1
            have ho : e = F.ep + 1 := ho
            omega
          · exact ho
    · rw [if_neg hgq] at hG
      refine (R.fam g G hG).mono hle (fun e y hy => ?_) fun e y hy => hoth _ (R.lt g e y hy) (hne g G e y hG hgq hy)
      rcases upd1_inv hy with ⟨h1, _⟩ | h1
      · exact absurd h1 hgq
      · exact h1
  · intro g G e y g' G' e' y' h1 h2 h3 h4 h5
    obtain ⟨A, hA⟩ := hl2 g G h1
    obtain ⟨B, hB⟩ := hl2 g' G' h2
    rcases upd1_inv h3 with ⟨a1, a2, a3⟩ | a <;> rcases upd1_inv h4 with ⟨b1, b2, b3⟩ | b
    · subst a3; subst b3; exact ⟨a1.trans b1.symm, rfl⟩
    · subst a3; subst a1
      rcases hx with hx | ⟨e2, y2, c1, c2, c3⟩
      · have := R.lt g' e' y' b; omega
      · obtain ⟨d1, d2⟩ := R.sep g A e2 y2 g' B e' y' hA hB c1 b (c2.trans h5)
        exact ⟨d1, c3.symm.trans d2⟩
    · subst b3; subst b1
      rcases hx with hx | ⟨e2, y2, c1, c2, c3⟩
      · have := R.lt g e y a; omega
      · obtain ⟨d1, d2⟩ := R.sep g A e y g' B e2 y2 hA hB a c1 (h5.trans c2.symm)
        exact ⟨d1, d2.trans c3⟩
    · exact R.sep g A e y g' B e' y' hA hB a b h5
  · intro g e y hy
    rcases upd1_inv hy with ⟨_, _, h1⟩ | h1
    · subst h1; exact hxlt
    · exact Nat.lt_of_lt_of_le (R.lt g e y h1) hsz
  · intro g e y h1 h2
    rcases upd1_inv h1 with ⟨a1, _, a3⟩ | h3
    · subst a1; subst a3
      refine ⟨.inr ⟨F, hq⟩, ?_⟩
      rcases hx with hx | ⟨e2, y2, c1, c2, _⟩
      · exact .inl hx.1
      · exact .inr ⟨g, F, e2, y2, ⟨hq, hwr⟩, c1, c2⟩
    · rw [h3] at h2; cases h2
  · intro g G hG; exact .inl (hl2 g G hG)
  · intro k hk hk2
    refine hoth k hk fun he => ?_
    rcases hx with hx | ⟨e2, y2, c1, c2, _⟩
    · omega
    · exact hk2 q F e2 y2 hq hwr c1 (c2.trans he.symm)
end Go.Am

namespace Go.Am
open Go

/-! ### What append does to a body -/
structure AppSpec (b : Body) (off : Nat) (l : List AV) (b' : Body) : Prop where
  ok : BodyOk b'
  map : b'.isMap = false
  cell : ∀ i v, b'.cell? i = some v → (i < off ∧ b.cell? i = some v) ∨ (off ≤ i ∧ l[i - off]? = some v)
  has : ∀ i, i < off → (b.cell? i).isSome = true
theorem rowsIn_eq : ∀ (rows : List (List AV)) (t : PT (List AV)) (i : Nat), rowsIn rows t i = match rows with | [] => t | r :: rows => rowsIn rows (t.upd (Pth.ofNat i) (some r)) (i + 1) := by
  intro rows t i
  cases rows with
  | nil => rfl
  | cons r rows => show rowsIn rows (rwSet t (Pth.ofNat i) (some r)) (i + 1) = _; rw [rwSet_eq]
theorem rowsIn_ok {es len : Nat} {z : List AV} : ∀ (rows : List (List AV)) (t : PT (List AV)) (i : Nat), BodyOk (.arr t es len z) → (∀ row ∈ rows, row.length = es) → BodyOk (.arr (rowsIn rows t i) es len z) := by
  intro rows
  induction rows with
  | nil => intro t i h _; exact h
  | cons r rows ih =>
    intro t i h hl
    rw [rowsIn_eq]
    exact ih _ _ (row_put h (hl r (by simp)) _) fun x hx => hl x (by simp [hx])
theorem rowsIn_look : ∀ (rows : List (List AV)) (t : PT (List AV)) (i j : Nat), (rowsIn rows t i).look (Pth.ofNat j) = if i ≤ j ∧ j < i + rows.length then rows[j - i]? else t.look (Pth.ofNat j) := by
  intro rows
  induction rows with
  | nil => intro t i j; rw [if_neg (by simp)]; rfl
  | cons r rows ih =>
    intro t i j
    rw [rowsIn_eq]
    simp only
    rw [ih, look_upd]
    by_cases h1 : j = i
    · subst h1
      rw [if_neg (by omega), if_pos rfl, if_pos ⟨Nat.le_refl _, by simp⟩, Nat.sub_self]; rfl
    · by_cases h2 : i + 1 ≤ j ∧ j < i + 1 + rows.length
      · rw [if_pos h2, if_pos ⟨by omega, by simp; omega⟩, show j - i = (j - (i + 1)) + 1 by omega, List.getElem?_cons_succ]
      · rw [if_neg h2, if_neg (fun h => h1 (ofNat_inj h)), if_neg (by simp; omega)]
theorem get_flatten {es : Nat} : ∀ {rows : List (List AV)}, (∀ row ∈ rows, row.length = es) → ∀ (q s : Nat) (row : List AV), rows[q]? = some row → s < es → rows.flatten[q * es + s]? = row[s]? := by
  intro rows
  induction rows with
  | nil => intro _ q s row h; simp at h
  | cons r rows ih =>
    intro hl q s row h hs
    have h0 := hl r (by simp)
    rw [List.flatten_cons]
    cases q with
    | zero =>
      rw [List.getElem?_cons_zero] at h; cases h
      rw [Nat.zero_mul, Nat.zero_add, List.getElem?_append_left (by omega)]
    | succ q =>
      rw [List.getElem?_cons_succ] at h
      rw [Nat.succ_mul, List.getElem?_append_right (by omega), h0, show q * es + es + s - es = q * es + s by omega]
      exact ih (fun x hx => hl x (by simp [hx])) q s row h hs
theorem app_arr {t : PT (List AV)} {es len : Nat} {z : List AV} (hb : BodyOk (.arr t es len z)) (hes : 1 ≤ es) {slen m : Nat} (hle : slen ≤ len) {rows : List (List AV)} (hm : rows.length = m) (hl : ∀ row ∈ rows, row.length = es) :
    AppSpec (.arr t es len z) (slen * es) rows.flatten (.arr (rowsIn rows t slen) es (slen + m) z) := by
  refine ⟨rowsIn_ok rows t slen (show BodyOk (.arr t es (slen + m) z) from hb) hl, rfl, fun i v hi => ?_, fun i hi => ?_⟩
  rotate_left
  · rw [cell_arr_row (Nat.lt_of_lt_of_le hi (by rw [Nat.mul_comm]; exact Nat.mul_le_mul_left es hle))]
    have hmod := Nat.mod_lt i (show 0 < es by omega)
    cases hk : t.look (Pth.ofNat (i / es)) with
    | none => simp [hb.1, hmod]
    | some row => simp [hb.2 _ _ hk, hmod]
  have hlt : i < es * (slen + m) := by
    simp only [Body.cell?] at hi
    split at hi
    · assumption
    · cases hi
  rw [cell_arr_row hlt, rowsIn_look] at hi
  have hd := Nat.div_add_mod i es
  have hmod := Nat.mod_lt i (show 0 < es by omega)
  by_cases h1 : slen ≤ i / es
  · have h2 : slen * es ≤ i := by
      have := Nat.mul_le_mul_left es h1
      rw [Nat.mul_comm slen]; omega
    have h3 : i / es < slen + m := by rw [Nat.div_lt_iff_lt_mul (by omega), Nat.mul_comm]; exact hlt
    rw [if_pos ⟨h1, by omega⟩] at hi
    refine .inr ⟨h2, ?_⟩
    have hg : rows[i / es - slen]? = some rows[i / es - slen] := List.getElem?_eq_getElem (by omega)
    rw [hg] at hi
    have := get_flatten hl (i / es - slen) (i % es) _ hg hmod
    rw [show i - slen * es = (i / es - slen) * es + i % es by rw [Nat.sub_mul, Nat.mul_comm (i / es)]; have := Nat.mul_le_mul_left es h1; rw [Nat.mul_comm slen]; omega, this]
    exact hi
  · rw [if_neg (by omega)] at hi
    have h2 : i < slen * es := by
      have : i / es < slen := by omega
      rw [Nat.div_lt_iff_lt_mul (by omega)] at this; exact this
    refine .inl ⟨h2, ?_⟩
    rw [cell_arr_row (Nat.lt_of_lt_of_le h2 (by rw [Nat.mul_comm]; exact Nat.mul_le_mul_left es hle))]
    exact hi
theorem app_byt (bs xs : List UInt8) {slen : Nat} (hle : slen ≤ bs.length) : AppSpec (.byt (leNat bs) bs.length) slen (xs.map fun x => AV.int .u8 (Int.ofNat x.toNat)) (.byt (leNat (bs.take slen ++ xs)) (slen + xs.length)) := by
  have hlen : (bs.take slen ++ xs).length = slen + xs.length := by simp; omega
  have hc := cell_byt (bs.take slen ++ xs)
  rw [hlen] at hc
  refine ⟨by have := leNat_lt (bs.take slen ++ xs); rw [hlen] at this; exact this, rfl, fun i v hi => ?_, fun i hi => by rw [cell_byt]; simp; omega⟩
  rw [hc] at hi
  by_cases h : i < slen
  · refine .inl ⟨h, ?_⟩
    rw [List.getElem?_append_left (by simp; omega), List.getElem?_take_of_lt h] at hi
    rw [cell_byt]; exact hi
  · refine .inr ⟨by omega, ?_⟩
    rw [List.getElem?_append_right (by simp; omega), List.length_take, Nat.min_eq_left hle] at hi
    rw [List.getElem?_map]; exact hi
theorem nb_bc {b : Bool} {x : Nat} {o : Out} {r : AV} {hF : Hp} (e : bc b (.no x) o = .ok r hF) : b = false ∧ o = .ok r hF := by
  cases b with
  | false => exact ⟨rfl, e⟩
  | true => cases e
/-- n: the new elements as bytes, or rows -/
theorem appBody_ok {byte : Bool} {es : Nat} {b : Body} {slen m n : Nat} {rows : List (List AV)} {old : Nat} {k : Body → Nat → Out} {r : AV} {hF : Hp} (hes : 1 ≤ es) (hby : byte = true → es = 1)
    (e : appBody byte es b slen m n rows old k = .ok r hF) {xs : List UInt8} (hn : byte = true → n = leNat xs ∧ xs.length = m) :
    b.isMap = false ∧ ∃ b', k b' (min old (slen * es)) = .ok r hF ∧ (BodyOk b → (byte = false → rows.length = m ∧ ∀ row ∈ rows, row.length = es) → AppSpec b (slen * es) (if byte then xs.map fun x => AV.int .u8 (Int.ofNat x.toNat) else rows.flatten) b') := by
  cases b with
  | map l => cases e
  | byt c len =>
    obtain ⟨hb, e1⟩ := bc_ok (show bc byte (bc (Nat.ble slen len) (natK (minN old slen) fun old => natK (Nat.add slen m) fun l => bc (Nat.beq len slen) (natK (Nat.add c (Nat.shiftLeft n (Nat.mul 8 slen))) fun c => k (.byt c l) old)
      (natK (Nat.add (Nat.mod c (Nat.shiftLeft 1 (Nat.mul 8 slen))) (Nat.shiftLeft n (Nat.mul 8 slen))) fun c => k (.byt c l) old)) (.no 69)) (.no 69) = .ok r hF from e)
    subst hb
    obtain ⟨h1, e2⟩ := bc_ok e1
    have hle : slen ≤ len := Nat.le_of_ble_eq_true h1
    have hs := hby rfl
    subst hs
    obtain ⟨rfl, rfl⟩ := hn rfl
    rw [natK_eq, natK_eq, minN_eq, natK_eq, natK_eq, shl8, shl8, Nat.one_mul, bc_eq] at e2
    rw [Nat.mul_one]
    have key : BodyOk (.byt c len) → AppSpec (.byt c len) slen (xs.map fun x => AV.int .u8 (Int.ofNat x.toNat)) (.byt (c % 256 ^ slen + leNat xs * 256 ^ slen) (slen + xs.length)) := by
      intro hb
      obtain ⟨bs, rfl, rfl⟩ := bytes_of hb
      have := app_byt bs xs hle
      rw [leNat_append, ← leNat_take, List.length_take, Nat.min_eq_left hle] at this
      exact this
    refine ⟨rfl, ?_⟩
    split at e2
    · rename_i hlen
      have hlen := Nat.eq_of_beq_eq_true hlen
      subst hlen
      refine ⟨_, e2, fun hb _ => ?_⟩
      have hk := key hb
      rw [Nat.mod_eq_of_lt (show c < 256 ^ len from hb)] at hk
      exact hk
    · exact ⟨_, e2, fun hb _ => key hb⟩
  | arr t es' len z =>
    obtain ⟨hb, e1⟩ := nb_bc (show bc byte (.no 69) (bc (Nat.beq es es') (bc (Nat.ble slen len) (natK (Nat.add slen m) fun l => natK (minN old (Nat.mul es slen)) fun old => k (.arr (rowsIn rows t slen) es' l z) old) (.no 69)) (.no 69)) = .ok r hF from e)
    subst hb
    obtain ⟨h1, e2⟩ := bc_ok e1
    obtain ⟨h2, e3⟩ := bc_ok e2
    have h1 := Nat.eq_of_beq_eq_true h1
    subst h1
    have hle : slen ≤ len := Nat.le_of_ble_eq_true h2
    rw [natK_eq, natK_eq, minN_eq] at e3
    refine ⟨rfl, _, (by rw [Nat.mul_comm slen]; exact e3), fun hb hr => ?_⟩
    obtain ⟨r1, r2⟩ := hr rfl
    exact app_arr hb hes hle r1 r2
end Go.Am

namespace Go.Am
open Go

theorem cell_of_heap {w w' : World} {b i : Nat} (h : w'.heap[b]? = w.heap[b]?) : w'.cell? ⟨b, i, none⟩ = w.cell? ⟨b, i, none⟩ := by unfold World.cell?; rw [h]
theorem cell_cells {w : World} {b i : Nat} {c : Array Value} {el : Nat} {fz : Nat × Nat} (h : w.heap[b]? = some (.cells c el fz)) : w.cell? ⟨b, i, none⟩ = c[i]? := by unfold World.cell?; rw [h]; simp
/-- append in its own place -/
theorem Rel.appRoom {ρ : Rho} {h : Hp} {w : World} (R : Rel ρ h.look w) {q : Pth} {F : Fam} (hq : h.look q = some F) (hwr : F.old ≤ big) (hm : F.body.isMap = false) {ep : Nat} {x : Nat × Nat × Nat} (hx : ρ q ep = some x)
    {off el : Nat} {l : List AV} {b' : Body} (S : AppSpec F.body off l b') (ho : ep = F.ep ∨ off ≤ F.old) {vs : List Value} (hv : CellsR ρ l vs) (hfit : x.2.1 + off + vs.length ≤ x.2.2) :
    (∀ P : Program, (storeCells ⟨x.1, x.2.1 + off, none⟩ vs).run P w = .ok () (w.setCells x.1 (x.2.1 + off) vs)) ∧
    Tr ρ h w (upd1 ρ q (F.ep + 1) x) (putFam h q (some ⟨el, F.ep + 1, min F.old off, b'⟩)) (w.setCells x.1 (x.2.1 + off) vs) := by
  have FR := R.fam q F hq
  have hblk := (FR.arr hm _ _ hx).1
  obtain ⟨c, elt, fz, c1, c2, c3⟩ := hblk
  have hsome : ∀ j, j < vs.length → (w.cell? ⟨x.1, x.2.1 + off + j, none⟩).isSome = true := by
    intro j hj
    rw [cell_cells c1, Array.getElem?_eq_getElem (by omega)]; rfl
  have hfro : ∀ j, j < vs.length → w.frozen? ⟨x.1, x.2.1 + off + j, none⟩ = false := by
    intro j hj
    obtain ⟨u, hu⟩ := Option.isSome_iff_exists.1 (hsome j hj)
    exact (frozen_blk ⟨c, elt, fz, c1, c2, c3⟩ hu).1
  have hrest := setCells_rest x.1 vs (x.2.1 + off) w
  refine ⟨fun P => run_storeCells_cells (P := P) x.1 (x.2.1 + off) vs 0 w hsome hfro hv.2, ?_⟩
  refine R.epoch hq hwr S.ok S.map (fun i v hi => ?_) (blk_setCells _ _ _ ⟨c, elt, fz, c1, c2, c3⟩) (fun e y hy => ⟨blk_setCells _ _ _ (FR.arr hm e y hy).1, fun i v hi hio => ?_⟩)
    (fun k _ hk => heap_setCells_other _ _ _ _ _ hk) (.inr ⟨ep, x, hx, rfl, rfl⟩) (by rw [setCells_size]; exact Nat.le_refl _) hrest.1 hrest.2.1 hrest.2.2
  · rcases S.cell i v hi with ⟨h1, h2⟩ | ⟨h1, h2⟩
    · obtain ⟨u, a1, a2, a3⟩ := R.read hq hm hx h2 (ho.imp id fun h => by omega)
      refine ⟨u, ?_, a2, a3⟩
      rw [World.cell?_setCells_out, a1]
      intro _ _
      left; show x.2.1 + i < x.2.1 + off; omega
    · obtain ⟨u, a1, a2⟩ := hv.1.get h2
      have hj : i - off < vs.length := (List.getElem?_eq_some_iff.1 a1).1
      refine ⟨u, ?_, a2, hv.2 u (List.mem_of_getElem? a1)⟩
      have := World.cell?_setCells_in x.1 vs (x.2.1 + off) w hsome (i - off) hj
      rw [show x.2.1 + i = x.2.1 + off + (i - off) by omega, this, ← a1, List.getElem?_eq_getElem hj]
  · rcases S.cell i v hi with ⟨h1, h2⟩ | ⟨h1, h2⟩
    · obtain ⟨u, a1, a2, a3⟩ := R.read hq hm hy h2 (.inr (by omega))
      refine ⟨u, ?_, a2, a3⟩
      rw [World.cell?_setCells_out, a1]
      intro hb _
      have := (R.sep q F e y q F ep x hq hq hy hx hb).2
      left; show y.2.1 + i < x.2.1 + off; omega
    · omega
/-- append in a new place -/
theorem Rel.appGrow {ρ : Rho} {h : Hp} {w w0 : World} (R : Rel ρ h.look w) {q : Pth} {F : Fam} (hq : h.look q = some F) (hwr : F.old ≤ big) (hm : F.body.isMap = false)
    {off el elt : Nat} {l : List AV} {b' : Body} (S : AppSpec F.body off l b') {lo : List AV} (hlo : lo.length = off) (hlc : ∀ (i : Nat) v, i < off → F.body.cell? i = some v → lo[i]? = some v) {olds news : List Value} (hov : CellsR ρ lo olds) (hv : CellsR ρ l news) {zs : Array Value}
    (hw : w0.heap = w.heap) (hos : w0.os = w.os) (ht : w0.tape = w.tape) (hout : w0.output = w.output) :
    Tr ρ h w (upd1 ρ q (F.ep + 1) (w.heap.size, 0, (olds.toArray ++ news.toArray ++ zs).size)) (putFam h q (some ⟨el, F.ep + 1, min F.old off, b'⟩)) (w0.alloc (.cells (olds.toArray ++ news.toArray ++ zs) elt)) := by
  have FR := R.fam q F hq
  have hsz : w0.heap.size = w.heap.size := by rw [hw]
  have hnew : (w0.alloc (.cells (olds.toArray ++ news.toArray ++ zs) elt)).heap[w.heap.size]? = some (.cells (olds.toArray ++ news.toArray ++ zs) elt) := by rw [← hsz]; exact alloc_new w0 _
  have hold : ∀ k, k < w.heap.size → (w0.alloc (.cells (olds.toArray ++ news.toArray ++ zs) elt)).heap[k]? = w.heap[k]? := fun k hk => by rw [alloc_old w0 _ k (by omega), hw]
  have hol : olds.length = off := by have := hov.1.length; omega
  refine R.epoch hq hwr (x := (w.heap.size, 0, (olds.toArray ++ news.toArray ++ zs).size)) S.ok S.map (fun i v hi => ?_) ⟨_, _, _, hnew, rfl, .inl rfl⟩ (fun e y hy => ?_) (fun k hk _ => hold k hk)
    (.inl ⟨Nat.le_refl _, by rw [World.size_alloc]; show w.heap.size < _; omega⟩) (by rw [World.size_alloc]; omega) hos ht hout
  · show CellR ρ _ w.heap.size (0 + i) v
    rw [Nat.zero_add]
    rcases S.cell i v hi with ⟨h1, h2⟩ | ⟨h1, h2⟩
    · obtain ⟨u, a1, a2⟩ := hov.1.get (hlc i v h1 h2)
      refine ⟨u, ?_, a2, hov.2 u (List.mem_of_getElem? a1)⟩
      have hi2 : i < olds.length := by omega
      rw [cell_cells hnew, Array.getElem?_append_left (by simp; omega), Array.getElem?_append_left (by simpa using hi2), List.getElem?_toArray]; exact a1
    · obtain ⟨u, a1, a2⟩ := hv.1.get h2
      have hj : i - off < news.length := (List.getElem?_eq_some_iff.1 a1).1
      refine ⟨u, ?_, a2, hv.2 u (List.mem_of_getElem? a1)⟩
      rw [cell_cells hnew, Array.getElem?_append_left (by simp; omega), Array.getElem?_append_right (by simp; omega), List.getElem?_toArray, List.size_toArray, hol]; exact a1
  · have hlt := R.lt q e y hy
    obtain ⟨a1, a2⟩ := FR.arr hm e y hy
    refine ⟨a1.mono (hold _ hlt), fun i v hi hio => ?_⟩
    rcases S.cell i v hi with ⟨h1, h2⟩ | ⟨h1, h2⟩
    · exact (a2 i v h2 (.inr (by omega))).mono (Le.refl ρ) (hold _ hlt)
    · omega
section
variable {P : Program} {N T : Nat} {o : Oper} {f : Call_ → Env → Fr → Hp → (AV → Hp → Out) → Out} {call : Call_} {env : Env} {fr : Fr} {h : Hp} {k : AV → Hp → Out} {r : AV} {hF : Hp}
theorem drew_facts (w : World) : w.drew.heap = w.heap ∧ w.drew.os = w.os ∧ w.drew.tape = w.tape ∧ w.drew.output = w.output := ⟨rfl, rfl, rfl, rfl⟩
/-- what is asked of the new elements -/
structure NewR (P : Program) (h : Hp) (byte : Bool) (es : Nat) (s x : AV) (m n : Nat) (rows : List (List AV)) (xs : List UInt8) : Prop where
  src : SrcOk P h x es m (if byte then xs.map fun x => AV.int .u8 (Int.ofNat x.toNat) else rows.flatten)
  n : byte = true → n = leNat xs ∧ xs.length = m
  rows : byte = false → ∀ ρ w x', VR ρ x x' → Rel ρ h.look w → rows.length = m ∧ ∀ row ∈ rows, row.length = es
  len : lenAV x = some m
theorem ok_append {t u : Nat} {ts : List Nat} {x y : Operand} {c : Call} (ho : o.op = .call c) (hc : c.callee = .builtin .append) (ha : c.args.toList = [x, y]) (ht : c.argTypes.toList = t :: u :: ts) (hf : opC P N o.op = .mk f) (e : f call env fr h k = .ok r hF) : GreatR P N T o env fr h k r hF := by
  rw [ho] at hf
  have hf1 : callC P N c = .mk f := hf
  unfold callC at hf1
  rw [hc] at hf1
  simp only [ha, ht] at hf1
  have hty : c.argTypes[0]? = some t := by rw [← Array.getElem?_toList, ht]; rfl
  have htu : c.argTypes[1]? = some u := by rw [← Array.getElem?_toList, ht]; rfl
  cases hel : elemT P t with
  | none => simp only [hel] at hf1; cases hf1; cases e
  | some el =>
    simp only [hel] at hf1
    obtain ⟨U, hU⟩ : ∃ U, P.underlying u = U := ⟨_, rfl⟩
    have : ∃ D, U = some D ∧ (∀ k, D ≠ .int k) ∧ op2 (opdC P N x) (opdC P N y) (appC P el) = .mk f := by
      rw [hU] at hf1
      cases U with
      | none => cases hf1; cases e
      | some D =>
        cases D with
        | int kk => cases hf1; cases e
        | _ => exact ⟨_, rfl, fun k => by simp, hf1⟩
    obtain ⟨D, rfl, hDi, hf2⟩ := this
    obtain ⟨s, v, e1, hsv⟩ := op2_ok hf2 e
    have hu := elemT_ok hel
    have hrun : ∀ (a : Act) (w w' : World) (z : Value) (s' : Value), a.eval x = s' → (Builtin.append_ c.argTypes o.type #[s', a.eval y]).run P w = .ok z w' → (execOp a.eval o).run P w = .ok (.value z) w' := by
      intro a w w' z s' hx hr
      obtain ⟨cs, he⟩ := exec_builtin (P := P) a ho hc w
      rw [he, args2 ha, hx]
      simp only [builtin, Sem.run_bind, hr, Result.andThen_ok, Sem.run_pure]
    unfold appC at e1
    cases hlo : lenOk P el with
    | false => simp only [hlo] at e1; cases e1
    | true =>
      obtain ⟨i, z, hi, hz, hcs, hzl, hpos, hcz, hby⟩ := len_ok hlo
      have hzs : z.cells.size = P.cellsOf el := by have := (hcz (fun _ _ => none)).1.length; simp at this; omega
      have hbt : bytesT P el = i.bytes := by unfold bytesT; rw [hi]
      -- nothing to append
      have none_ : ∀ sl, ((∃ q o l' ep es, s = .slc q o l' ep es ∧ sl = l') ∨ (s = .nsl ∧ sl = 0)) → lenAV v = some 0 → k s h = .ok r hF → GreatR P N T o env fr h k r hF := by
        intro sl hd hs e2
        refine ⟨_, _, e2, Nat.le_refl _, Runs1.toG fun ρ a w cx R => ?_⟩
        obtain ⟨h1, h2⟩ := hsv ρ a cx
        obtain ⟨base, sc, hxe⟩ := slice_of hd h1
        have hle : sl ≤ sc := by
          rcases hd with ⟨q, o', l', ep, es, rfl, rfl⟩ | ⟨rfl, rfl⟩
          · obtain ⟨b, ba, cs, cap, _, ⟨hh, h5, _⟩ | ⟨h0, _, hh⟩⟩ := h1
            · rw [hxe] at hh; cases hh; exact h5
            · omega
          · exact Nat.zero_le _
        have hcr := app_room (P := P) (ats := c.argTypes) (ty := o.type) hty htu hu hU hDi hi (base := base) (sl := sl) (sc := sc) (n := 0) (x := a.eval y) (w := w) (w' := w) (vs := []) (lenOf_run hs h2 w) hle (first_none hs h2 _ w) (by cases base <;> rfl)
        rw [Nat.add_zero] at hcr
        exact ⟨a.eval x, h1, hrun a w w _ _ rfl (by rw [hxe]; exact hcr)⟩
      -- something
      have some_ : ∀ (byte : Bool) (es m n sl : Nat) (rows : List (List AV)) (xs : List UInt8) (zl : List AV), es = P.cellsOf el → zl = zeroL P el → (byte = true → es = 1) → NewR P h byte es s v m n rows xs → 0 < m → (∀ l, lenAV s = some l → l = sl) →
          (sl + m) * i.bytes ≤ 140737488355328 → sl + m ≤ 1099511627776 → appK byte el es zl s m n rows h k = .ok r hF → GreatR P N T o env fr h k r hF := by
        intro byte es m n sl rows xs zl hes hzle hb1 hN hm0 hsl hfit h40 e2
        have hes1 : 1 ≤ es := by omega
        cases s with
        | slc q off sl' ep es' =>
          have hsl' : sl' = sl := hsl _ rfl
          subst hsl'
          obtain ⟨hee, e3⟩ := bc_ok (show bc (Nat.beq es es') (famK h q ep off (Nat.mul sl' es) fun fam => Nat.rec (motive := fun _ => Bool → Fam → Pth → Nat → Nat → Nat → Nat → Nat → List (List AV) → Hp → (AV → Hp → Out) → Out)
             (fun byte fam f slen _ es m n rows h k => Fam.rec (motive := fun _ => Bool → Pth → Nat → Nat → Nat → Nat → List (List AV) → Hp → (AV → Hp → Out) → Out) (fun e ep old b byte f slen es m n rows h k => bc (Nat.ble old big) (appBody byte es b slen m n rows old fun b old => natK (Nat.succ ep) fun ep => natK (Nat.add slen m) fun l => k (.slc f 0 l ep es) (putFam h f (some (.mk e ep old b)))) (.no 116)) fam byte f slen es m n rows h k)
             (fun _ _ _ _ _ _ _ _ _ _ _ _ _ => .no 71) off byte fam q sl' ep es m n rows h k) (.no 72) = .ok r hF from e2)
          have hee := Nat.eq_of_beq_eq_true hee
          subst hee
          obtain ⟨F, hq, hep, e4⟩ := famK_ok e3
          cases off with
          | succ off => cases e4
          | zero =>
            obtain ⟨fe, fep, fold_, fb⟩ := F
            obtain ⟨hwr, e4⟩ := bc_ok (show bc (Nat.ble fold_ big) (appBody byte es fb sl' m n rows fold_ (fun b old => natK (Nat.succ fep) fun ep => natK (Nat.add sl' m) fun l => k (.slc q 0 l ep es) (putFam h q (some (.mk fe ep old b))))) (.no 116) = .ok r hF from e4)
            have hwr : fold_ ≤ big := Nat.le_of_ble_eq_true hwr
            obtain ⟨hmap, b', e5, S⟩ := appBody_ok (xs := xs) hes1 hb1 e4 hN.n
            rw [natK_eq, natK_eq] at e5
            refine ⟨_, _, e5, by rw [nx_put]; exact Nat.le_refl _, fun ρ a w next Q har R _ hn => ?_⟩
            obtain ⟨h1, h2⟩ := hsv ρ a har.cx
            have hbok := (R.fam q _ hq).bok
            have S := S hbok fun hb => hN.rows hb ρ w _ h2 R
            obtain ⟨vs, v1, v2, v3⟩ := hN.src ρ w _ h2 R
            have hl0 := lenOf_run (P := P) hN.len h2 w
            obtain ⟨b, ba, cs, cap, hr, hxe⟩ := h1
            -- the new place
            have growing : ∀ base cap, a.eval x = .slice base sl' cap → (∃ olds lo, CellsR ρ lo olds ∧ lo.length = sl' * es ∧ (∀ (i : Nat) v, i < sl' * es → fb.cell? i = some v → lo[i]? = some v) ∧ (Builtin.firstCells (P.cellsOf el) sl' (.slice base sl' cap)).run P w.drew = .ok olds.toArray w.drew) → cap < sl' + m → o.wp P a w next Q := by
              intro base cap hxe ⟨olds, lo, o1, o2, o3, o4⟩ hg
              obtain ⟨d1, d2, d3, d4⟩ := drew_facts w
              obtain ⟨vs2, v1, v2, v3⟩ := hN.src ρ w.drew _ h2 (R.world d1)
              have hcr := app_grow (P := P) (ats := c.argTypes) (ty := o.type) hty htu hu hU hDi hi hz (base := base) (sl := sl') (sc := cap) (n := m) (x := a.eval y) (w := w) (olds := olds) (news := vs2) hl0 hg (by omega) hfit o4 (by rw [← hes]; exact v3)
              have hT := R.appGrow hq hwr hmap (el := fe) (elt := el) S o2 o3 o1 v1 (w0 := w.drew) (zs := Builtin.zeroCells z.cells (grownCap w (sl' + m) cap el - (sl' + m))) d1 d2 d3 d4
              refine value_wp (hrun a w _ _ _ hxe hcr) (hn _ _ _ ?_ hT)
              refine ⟨w.heap.size, 0, _, grownCap w (sl' + m) cap el, upd1_same _ _ _ _, .inl ⟨rfl, grownCap_ge _ _ _ _, ?_⟩⟩
              have hge := grownCap_ge w (sl' + m) cap el
              have hol : olds.length = sl' * es := by have := o1.1.length; omega
              simp only [Array.size_append, List.size_toArray, size_zeroCells, hzs, hol, v2, ← hes]
              have : grownCap w (sl' + m) cap el = sl' + m + (grownCap w (sl' + m) cap el - (sl' + m)) := by omega
              rw [Nat.zero_add]
              show grownCap w (sl' + m) cap el * es ≤ _
              conv => lhs; rw [this, Nat.add_mul, Nat.add_mul]
              exact Nat.le_refl _
            rcases hxe with ⟨hxe, hlc, hcc⟩ | ⟨h0, ad, hxe⟩
            · by_cases hroom : sl' + m ≤ cap
              · have hvl : vs.length = m * es := v2
                have hin : ba + sl' * es + vs.length ≤ cs := by
                  rw [hvl]
                  have h4 := Nat.mul_le_mul_right es hroom
                  rw [Nat.add_mul] at h4
                  omega
                obtain ⟨s1, s2⟩ := R.appRoom hq hwr hmap hr (el := fe) S (hep.imp id fun h => by simpa using h) v1 hin
                have hcr := app_room (P := P) (ats := c.argTypes) (ty := o.type) hty htu hu hU hDi hi (base := some ⟨b, ba + 0, none⟩) (sl := sl') (sc := cap) (n := m) (x := a.eval y) (w := w) (w' := w.setCells b (ba + sl' * es) vs) (vs := vs) hl0 hroom (by rw [← hes]; exact v3)
                  (by simp only; rw [add_addr, Nat.add_zero, ← hes]; exact s1 P)
                refine value_wp (hrun a w _ _ _ hxe hcr) (hn _ _ _ ?_ s2)
                exact ⟨b, ba, cs, cap, upd1_same _ _ _ _, .inl ⟨rfl, hroom, hcc⟩⟩
              · refine growing _ _ hxe ?_ (by omega)
                have hRow : RowAt fb (sl' * es) 0 ((List.range (sl' * es)).map fun i => (fb.cell? i).getD .bad) := by
                  refine ⟨by simp, .inr hmap, fun j v hj => ?_⟩
                  rw [List.getElem?_map] at hj
                  by_cases hjl : j < sl' * es
                  · rw [List.getElem?_range hjl] at hj
                    obtain ⟨u', hu'⟩ := Option.isSome_iff_exists.1 (S.has j hjl)
                    rw [Nat.zero_add]; rw [Option.map_some, hu'] at hj; cases hj; exact hu'
                  · rw [List.getElem?_eq_none (by simp; omega)] at hj; cases hj
                obtain ⟨olds, c1, c2, c3⟩ := (R.world (drew_facts w).1).cells (w := w.drew) hq hr hRow hep
                have hol : olds.length = sl' * es := by have := c1.length; simp at this; omega
                refine ⟨olds, _, ⟨c1, c2⟩, by simp, fun j v hj hv => ?_, ?_⟩
                · rw [List.getElem?_map, List.getElem?_range hj, Option.map_some, hv]; rfl
                · refine run_firstCells_some (P := P) w.drew (P.cellsOf el) sl' _ sl' cap olds (by rw [← hes]; exact hol) fun j v hj => by rw [add_addr]; exact c3 j v hj
            · refine growing (some ad) 0 (by rw [hxe, h0]) ?_ (by omega)
              exact ⟨[], [], ⟨trivial, fun u hu => by simp at hu⟩, by rw [h0]; simp, fun i v hi => by rw [h0] at hi; simp at hi, by rw [h0]; exact first_zero⟩
        | nsl =>
          have h0 : 0 = sl := hsl _ rfl
          subst h0
          have e3 := newFam_ok (show newFam h el (mkBody byte es zl m n rows) (fun f h => k (.slc f 0 m 0 es) h) = .ok r hF from e2)
          refine ⟨_, _, e3, (by show _ ≤ (Pth.succ h.nx).toNat; rw [Pth.toNat_succ]; omega), fun ρ a w next Q har R K hn => ?_⟩
          obtain ⟨h1, h2⟩ := hsv ρ a har.cx
          have h1 : a.eval x = .slice none 0 0 := h1
          obtain ⟨d1, d2, d3, d4⟩ := drew_facts w
          obtain ⟨vs, v1, v2, v3⟩ := hN.src ρ w.drew _ h2 (R.world d1)
          have hl0 := lenOf_run (P := P) hN.len h2 w
          have hcr := app_grow (P := P) (ats := c.argTypes) (ty := o.type) hty htu hu hU hDi hi hz (base := none) (sl := 0) (sc := 0) (n := m) (x := a.eval y) (w := w) (olds := []) (news := vs) hl0 (by omega) (by omega) hfit (run_firstCells_none (P := P) w.drew (P.cellsOf el) 0 0 0) (by rw [← hes]; exact v3)
          have hS : ∃ b0, AppSpec b0 0 (if byte then xs.map fun x => AV.int .u8 (Int.ofNat x.toNat) else rows.flatten) (mkBody byte es zl m n rows) := by
            cases byte with
            | true =>
              obtain ⟨rfl, rfl⟩ := hN.n rfl
              have := app_byt [] xs (slen := 0) (Nat.zero_le _)
              rw [Nat.zero_add] at this
              exact ⟨_, this⟩
            | false =>
              obtain ⟨r1, r2⟩ := hN.rows rfl ρ w _ h2 R
              have := app_arr (t := .lf) (es := es) (len := 0) (z := zl) ⟨by rw [hzle, hzl, ← hcs, hes], fun p row hp => by rw [look_lf] at hp; cases hp⟩ hes1 (slen := 0) (Nat.le_refl _) r1 r2
              rw [Nat.zero_add, Nat.zero_mul] at this
              exact ⟨_, this⟩
          obtain ⟨b0, S⟩ := hS
          have hN2 : NewOk ρ (.cells (([] : List Value).toArray ++ vs.toArray ++ Builtin.zeroCells z.cells (grownCap w (0 + m) 0 el - (0 + m))) el) (([] : List Value).toArray ++ vs.toArray ++ Builtin.zeroCells z.cells (grownCap w (0 + m) 0 el - (0 + m))).size (mkBody byte es zl m n rows) := by
            refine ⟨S.ok, .inr ⟨S.map, _, _, _, rfl, .inl rfl, rfl, fun i v hi => ?_⟩⟩
            rcases S.cell i v hi with ⟨a1, _⟩ | ⟨_, a2⟩
            · omega
            · rw [Nat.sub_zero] at a2
              obtain ⟨u, b1, b2⟩ := v1.1.get a2
              have hj : i < vs.length := (List.getElem?_eq_some_iff.1 b1).1
              refine ⟨u, ?_, b2, v1.2 u (List.mem_of_getElem? b1)⟩
              rw [Array.getElem?_append_left (by simp; omega), Array.getElem?_append_right (by simp)]
              simpa using b1
          have hT := R.alloc (w0 := w.drew) d1 d2 d3 d4 (el := el) K hN2
          refine value_wp (hrun a w _ _ _ h1 hcr) (hn _ _ _ ?_ hT)
          refine ⟨w.heap.size, 0, _, grownCap w (0 + m) 0 el, upd1_same _ _ _ _, .inl ⟨by rw [Nat.zero_add], by have := grownCap_ge w (0 + m) 0 el; omega, ?_⟩⟩
          have hge := grownCap_ge w (0 + m) 0 el
          simp only [Array.size_append, List.size_toArray, size_zeroCells, hzs, v2, ← hes]
          have : grownCap w (0 + m) 0 el = m + (grownCap w (0 + m) 0 el - (0 + m)) := by omega
          rw [Nat.zero_add]
          show grownCap w (0 + m) 0 el * es ≤ _
          conv => lhs; rw [this, Nat.add_mul]
          simp
        | _ => cases e2
      have two : ∀ {B : Nat → Nat → Out}, (s.lenS fun sl => v.lenK fun m => bc (Bool.rec false (Nat.ble (Nat.mul (Nat.add sl m) (bytesT P el)) 140737488355328) (Nat.ble (Nat.add sl m) 1099511627776)) (B sl m) (.no 120)) = .ok r hF →
          (∀ sl, B sl 0 = .ok r hF → k s h = .ok r hF) → (∀ sl m, (∀ l, lenAV s = some l → l = sl) → lenAV v = some m → 0 < m → (sl + m) * i.bytes ≤ 140737488355328 → sl + m ≤ 1099511627776 → B sl m = .ok r hF → GreatR P N T o env fr h k r hF) → GreatR P N T o env fr h k r hF := by
        intro B e2 B0 H
        have : ∃ sl, ((∃ q o l' ep es, s = .slc q o l' ep es ∧ sl = l') ∨ (s = .nsl ∧ sl = 0)) ∧ (v.lenK fun m => bc (Bool.rec false (Nat.ble (Nat.mul (Nat.add sl m) (bytesT P el)) 140737488355328) (Nat.ble (Nat.add sl m) 1099511627776)) (B sl m) (.no 120)) = .ok r hF := by
          rcases lenS_ok e2 with ⟨q, o', l, p, es, hd, e3⟩ | ⟨hd, e3⟩
          · exact ⟨l, .inl ⟨q, o', l, p, es, hd, rfl⟩, e3⟩
          · exact ⟨0, .inr ⟨hd, rfl⟩, e3⟩
        obtain ⟨sl, hd, e3⟩ := this
        obtain ⟨m, hs, e4⟩ := lenK_len e3
        obtain ⟨hb, e5⟩ := bc_ok e4
        cases hb1 : Nat.ble (Nat.add sl m) 1099511627776 with
        | false => rw [hb1] at hb; cases hb
        | true =>
          rw [hb1] at hb
          have hb : Nat.ble (Nat.mul (Nat.add sl m) (bytesT P el)) 140737488355328 = true := hb
          rw [hbt] at hb
          cases m with
          | zero => exact none_ sl hd hs (B0 sl e5)
          | succ m =>
            refine H sl (m + 1) (fun l hl => ?_) hs (by omega) (Nat.le_of_ble_eq_true hb) (Nat.le_of_ble_eq_true hb1) e5
            rcases hd with ⟨_, _, _, _, _, rfl, rfl⟩ | ⟨rfl, rfl⟩ <;> (cases hl; rfl)
      cases hb : isByte P el with
      | true =>
        simp only [hlo, hb] at e1
        have hs1 : P.cellsOf el = 1 := by rw [hcs, ← hzl, hby hb]; rfl
        refine two e1 (fun sl e => e) fun sl m hsl hs hmp h47 h40 e2 => ?_
        obtain ⟨m, rfl⟩ : ∃ n, m = n + 1 := ⟨m - 1, by omega⟩
        have e2 : (srcBytes h v (m + 1) fun n => appK true el 1 (zeroL P el) s (m + 1) n [] h k) = .ok r hF := e2
        generalize m + 1 = m at *
        obtain ⟨bs, hbl, e3, hsrc⟩ := srcBytes_src (P := P) (atMost_of hs (Nat.le_refl _)) e2
        exact some_ true 1 m _ sl [] bs _ hs1.symm rfl (fun _ => rfl) ⟨hsrc, fun _ => ⟨rfl, hbl⟩, (fun hh => by cases hh), hs⟩ hmp hsl h47 h40 e3
      | false =>
        simp only [hlo, hb] at e1
        refine two e1 (fun sl e => e) fun sl m hsl hs hmp h47 h40 e2 => ?_
        obtain ⟨m, rfl⟩ : ∃ n, m = n + 1 := ⟨m - 1, by omega⟩
        have e2 : (srcRows (P.cellsOf el) h v (m + 1) fun rows => appK false el (P.cellsOf el) (zeroL P el) s (m + 1) 0 rows h k) = .ok r hF := e2
        generalize m + 1 = m at *
        obtain ⟨rows, e3, hrl, hsrc⟩ := srcRows_src (P := P) (by omega) (atMost_of hs (Nat.le_refl _)) e2
        exact some_ false _ m _ sl rows [] _ rfl rfl (fun hh => by cases hh) ⟨hsrc, (fun hh => by cases hh), fun _ => hrl, hs⟩ hmp hsl h47 h40 e3
end
end Go.Am

namespace Go.Am
open Go
section
variable {P : Program} {N T : Nat} {o : Oper}
theorem spec_make (hcl : clsOp P o.op = 2) {g : Call_ → Env → Fr → Hp → (AV → Hp → Out) → Out} (hg : opC P N o.op = .mk g) {call : Call_} {env : Env} {fr : Fr} {h : Hp} {k : AV → Hp → Out} {r : AV} {hF : Hp} (e : g call env fr h k = .ok r hF) : MadeR P N o env fr h k r hF := by
  cases hop : o.op with
  | alloc el => exact ok_alloc hop hg e
  | box el x => exact ok_box hop hg e
  | buildSlice t n ps => exact ok_buildSlice hop hg e
  | makeMap t x => exact ok_makeMap hop hg e
  | makeSlice t x y => exact ok_makeSlice hop hg e
  | convert s d x => exact ok_conv2 hop hcl hg e
  | slice t x lo hi mx =>
    rw [hop] at hcl
    exfalso
    have hcl : (match P.underlying t with | some (.array _ _) => 1 | _ => 0) = 2 := hcl
    split at hcl <;> cases hcl
  | call c =>
    exfalso
    rw [hop] at hcl
    have hcl : clsCall P c = 2 := hcl
    unfold clsCall at hcl
    split at hcl
    · split at hcl
      · split at hcl <;> cases hcl
      · cases hcl
    · cases hcl
    · cases hcl
    · cases hcl
  | _ => rw [hop] at hcl; cases hcl
theorem spec_read (hcl : clsOp P o.op = 1) {g : Call_ → Env → Fr → Hp → (AV → Hp → Out) → Out} (hg : opC P N o.op = .mk g) {call : Call_} {env : Env} {fr : Fr} {h : Hp} {k : AV → Hp → Out} {r : AV} {hF : Hp} (e : g call env fr h k = .ok r hF) : ∃ v, k v h = .ok r hF ∧ Runs1 P o N env fr h v := by
  cases hop : o.op with
  | load t x => exact ok_load hop hg e
  | lookup t x y c => exact ok_lookup hop hg e
  | convert s d x => exact ok_conv1 hop hcl hg e
  | slice t x lo hi mx =>
    have := ok_slice hop hg e
    first | exact this | (obtain ⟨v, h1, h2, h3⟩ := this; exact ⟨v, h1, h2⟩) | (obtain ⟨v, h1, h2⟩ := this; exact ⟨v, h1, h2.1⟩)
  | call c =>
    rw [hop] at hcl
    have hcl : clsCall P c = 1 := hcl
    unfold clsCall at hcl
    split at hcl
    · rename_i hb
      split at hcl
      · rename_i t ts hts
        have hno : (∀ x, c.args.toList ≠ [x]) → False := by
          intro hn
          rw [hop] at hg
          have hg1 : callC P N c = .mk g := hg
          unfold callC at hg1
          rw [hb] at hg1
          simp only [hts] at hg1
          split at hg1 <;> first | contradiction | exact hn _ (by assumption) | (cases hg1; cases e)
        by_cases hx : ∃ x, c.args.toList = [x]
        · obtain ⟨x, hx⟩ := hx
          obtain ⟨v, h1, h2, _⟩ := ok_len hop hb hx hts hg e
          exact ⟨v, h1, h2⟩
        · exact (hno fun x h => hx ⟨x, h⟩).elim
      · cases hcl
    · cases hcl
    · cases hcl
    · cases hcl
  | _ => rw [hop] at hcl; cases hcl
theorem spec_pure (hcl : clsOp P o.op = 0) {g : Call_ → Env → Fr → Hp → (AV → Hp → Out) → Out} (hg : opC P N o.op = .mk g) {call : Call_} {env : Env} {fr : Fr} {h : Hp} {k : AV → Hp → Out} {r : AV} {hF : Hp} (e : g call env fr h k = .ok r hF) : ∃ v, k v h = .ok r hF ∧ Runs0 P o N env fr v := by
  cases hop : o.op with
  | move x => exact ok_move (.inl hop) hg e
  | assign x => exact ok_move (.inr hop) hg e
  | pick c x y => exact ok_pick hop hg e
  | build t ps => exact ok_build hop hg e
  | nilCheck x => exact ok_nil hop hg e
  | unOp op t x => exact ok_un hop hg e
  | makeInterface t x => exact ok_iface hop hg e
  | makeFunc fn xs ys =>
    cases fn with
    | func q => exact ok_func hop hg e
    | _ => rw [hop] at hg; cases hg; cases e
  | fieldAddr s x i => exact ok_fieldAddr hop hg e
  | field s x i => exact ok_field hop hg e
  | indexAddr t x y => exact ok_idxAddr hop hg e
  | index t x y => exact ok_idx hop hg e
  | extract x i => exact ok_extract hop hg e
  | binOp op t x y b => exact ok_bin hop hg e
  | convert s d x => exact ok_conv0 hop hcl hg e
  | slice t x lo hi mx =>
    obtain ⟨v, h1, _, h3⟩ := ok_slice hop hg e
    refine ⟨v, h1, h3 fun n el hu => ?_⟩
    rw [hop] at hcl
    have hcl : (match P.underlying t with | some (.array _ _) => 1 | _ => 0) = 0 := hcl
    rw [hu] at hcl; cases hcl
  | call c =>
    rw [hop] at hcl
    have hcl : clsCall P c = 0 := hcl
    have hg0 := hg
    rw [hop] at hg
    have hg1 : callC P N c = .mk g := hg
    unfold callC at hg1
    unfold clsCall at hcl
    split at hcl
    · rename_i hb
      split at hcl
      · rename_i t ts hts
        rw [hb] at hg1
        simp only [hts] at hg1
        by_cases hx : ∃ x, c.args.toList = [x]
        · obtain ⟨x, hx⟩ := hx
          obtain ⟨v, h1, _, h3⟩ := ok_len hop hb hx hts hg0 e
          refine ⟨v, h1, h3 fun a b hu => ?_⟩
          rw [hu] at hcl; cases hcl
        · exfalso
          split at hg1 <;> first | contradiction | exact hx ⟨_, by assumption⟩ | (cases hg1; cases e)
      · cases hcl
    · rename_i hb
      by_cases hx : ∃ x y t ts, c.args.toList = [x, y] ∧ c.argTypes.toList = t :: ts
      · obtain ⟨x, y, t, ts, hx, hts⟩ := hx
        exact ok_minmax (mx := false) hop hb hx hts hg0 e
      · exfalso
        rw [hb] at hg1
        simp only at hg1
        split at hg1 <;> first | contradiction | exact hx ⟨_, _, _, _, by assumption, by assumption⟩ | (cases hg1; cases e)
    · rename_i hb
      by_cases hx : ∃ x y t ts, c.args.toList = [x, y] ∧ c.argTypes.toList = t :: ts
      · obtain ⟨x, y, t, ts, hx, hts⟩ := hx
        exact ok_minmax (mx := true) hop hb hx hts hg0 e
      · exfalso
        rw [hb] at hg1
        simp only at hg1
        split at hg1 <;> first | contradiction | exact hx ⟨_, _, _, _, by assumption, by assumption⟩ | (cases hg1; cases e)
    · cases hcl
  | _ => rw [hop] at hcl; cases hcl
end
end Go.Am

namespace Go.Am
open Go
section
variable {P : Program} {N T : Nat} {o : Oper}
theorem no_slice {t : Nat} (h : 3 ≤ (match P.underlying t with | some (.array _ _) => 1 | _ => 0)) : False := by
  split at h <;> omega
theorem spec_great (hcl : 3 ≤ clsOp P o.op) : OpG P N T o := by
  intro g hg call env fr h k r hF hc e
  cases hop : o.op with
  | store t x y => exact ok_store hop hg e
  | mapUpdate t x y z => exact ok_update (.inl hop) hg e
  | insert t x y z => exact ok_update (.inr hop) hg e
  | convert s d x => exact ok_conv3 hop hcl hg e
  | slice t x lo hi mx => rw [hop] at hcl; exact (no_slice hcl).elim
  | call c =>
    rw [hop] at hcl
    have hcl : 3 ≤ clsCall P c := hcl
    have hg0 := hg
    rw [hop] at hg
    have hg1 : callC P N c = .mk g := hg
    unfold callC at hg1
    cases hcal : c.callee with
    | value x => exact ok_call hop hcal hg0 hc e
    | invoke a b => rw [hcal] at hg1; cases hg1; cases e
    | builtin b =>
      rw [hcal] at hg1
      simp only at hg1
      cases b with
      | append =>
        by_cases hx : ∃ x y t u ts, c.args.toList = [x, y] ∧ c.argTypes.toList = t :: u :: ts
        · obtain ⟨x, y, t, u, ts, hx, hts⟩ := hx
          exact ok_append hop hcal hx hts hg0 e
        · exfalso
          split at hg1 <;> first | contradiction | exact hx ⟨_, _, _, _, _, by assumption, by assumption⟩ | (cases hg1; cases e)
      | copy =>
        by_cases hx : ∃ x y t ts, c.args.toList = [x, y] ∧ c.argTypes.toList = t :: ts
        · obtain ⟨x, y, t, ts, hx, hts⟩ := hx
          exact ok_copy hop hcal hx hts hg0 e
        · exfalso
          split at hg1 <;> first | contradiction | exact hx ⟨_, _, _, _, by assumption, by assumption⟩ | (cases hg1; cases e)
      | len =>
        exfalso
        unfold clsCall at hcl
        rw [hcal] at hcl
        simp only at hcl
        split at hcl
        · split at hcl <;> omega
        · rename_i hts
          split at hg1 <;> first | contradiction | exact hts _ _ (by assumption) | (cases hg1; cases e)
      | min => exfalso; unfold clsCall at hcl; rw [hcal] at hcl; simp only at hcl; omega
      | max => exfalso; unfold clsCall at hcl; rw [hcal] at hcl; simp only at hcl; omega
      | _ =>
        exfalso
        split at hg1 <;> first | contradiction | (cases hg1; cases e)
  | move _ => rw [hop] at hcl; simp [clsOp] at hcl
  | assign _ => rw [hop] at hcl; simp [clsOp] at hcl
  | pick _ _ _ => rw [hop] at hcl; simp [clsOp] at hcl
  | build _ _ => rw [hop] at hcl; simp [clsOp] at hcl
  | nilCheck _ => rw [hop] at hcl; simp [clsOp] at hcl
  | unOp _ _ _ => rw [hop] at hcl; simp [clsOp] at hcl
  | makeInterface _ _ => rw [hop] at hcl; simp [clsOp] at hcl
  | makeFunc _ _ _ => rw [hop] at hcl; simp [clsOp] at hcl
  | fieldAddr _ _ _ => rw [hop] at hcl; simp [clsOp] at hcl
  | field _ _ _ => rw [hop] at hcl; simp [clsOp] at hcl
  | indexAddr _ _ _ => rw [hop] at hcl; simp [clsOp] at hcl
  | index _ _ _ => rw [hop] at hcl; simp [clsOp] at hcl
  | extract _ _ => rw [hop] at hcl; simp [clsOp] at hcl
  | binOp _ _ _ _ _ => rw [hop] at hcl; simp [clsOp] at hcl
  | load _ _ => rw [hop] at hcl; simp [clsOp] at hcl
  | lookup _ _ _ _ => rw [hop] at hcl; simp [clsOp] at hcl
  | alloc _ => rw [hop] at hcl; simp [clsOp] at hcl
  | box _ _ => rw [hop] at hcl; simp [clsOp] at hcl
  | buildSlice _ _ _ => rw [hop] at hcl; simp [clsOp] at hcl
  | makeMap _ _ => rw [hop] at hcl; simp [clsOp] at hcl
  | makeSlice _ _ _ => rw [hop] at hcl; simp [clsOp] at hcl
  | _ => exfalso; rw [hop] at hg; cases hg; cases e
theorem spec (o : Oper) : Spec P N T o :=
  ⟨fun h => fun hg => fun e => spec_pure h hg e, fun h => fun hg => fun e => spec_read h hg e, fun h => fun hg => fun e => spec_make h hg e, spec_great⟩
end
end Go.Am

namespace Go.Am
open Go

/-! ### Functions without a body -/
section
variable {P : Program} {h : Hp} {r : AV} {hF : Hp}
theorem lenIs_ok : ∀ (l : List AV) (n : Nat), lenIs l n = true → l.length = n := by
  intro l
  induction l with
  | nil => intro n h; exact (Nat.eq_of_beq_eq_true (show Nat.beq n 0 = true from h)).symm
  | cons a l ih =>
    intro n h
    cases n with
    | zero => cases h
    | succ n => simp [ih n h]
theorem bytesOf_back (bs : List UInt8) : Lib.bytesOf (bs.map fun b => (b.toNat : Int)) = bs := by
  unfold Lib.bytesOf
  rw [List.map_map]
  conv => rhs; rw [← List.map_id bs]
  apply List.map_congr_left
  intro x _
  simp
/-- an argument's bytes -/
theorem bytes_arg {x : AV} {m : Nat} {K : Nat → Out} (hm : lenAV x = some m) (e : srcBytes h x m K = .ok r hF) : ∃ bs : List UInt8, bs.length = m ∧ K (leNat bs) = .ok r hF ∧
    ∀ ρ w x', VR ρ x x' → Rel ρ h.look w → (Extern.Bytes.bytesOf x').run P w = .ok ⟨bs.toArray⟩ w := by
  rcases srcBytes_ok e with ⟨n, l, rfl, e1⟩ | ⟨q, off, l, ep, es, F, bs, rfl, h1, h2, h3, h4, h5, e1⟩ | ⟨rfl, e1⟩
  · have hml : l = m := by simpa [lenAV] using hm
    subst hml
    refine ⟨bytesLE n l, bytesLE_length _ _, by rw [leNat_bytesLE]; exact e1, fun ρ w x' hx _ => ?_⟩
    obtain ⟨s, rfl, hn, hl⟩ := hx
    have hbs : bytesLE n l = s.data.toList := by
      apply leNat_inj
      · rw [bytesLE_length, hl]
      · rw [leNat_bytesLE, hn, hl, Nat.mod_eq_of_lt (leNat_lt _)]
    rw [hbs]; rfl
  · have hml : l = m := by simpa [lenAV] using hm
    subst hml
    refine ⟨bs, h3, e1, fun ρ w x' hx R => ?_⟩
    obtain ⟨b, ba, cs, cap, hr, hx⟩ := hx
    rcases hx with ⟨rfl, _, _⟩ | ⟨h0, ad, rfl⟩
    · have := Lib.run_loadBytesX (P := P) w (bs.map fun b => (b.toNat : Int)) ⟨b, ba + off, none⟩ .empty (fun j x hj => by
        rw [List.getElem?_map] at hj
        have hjl : j < bs.length := by
          rcases Nat.lt_or_ge j bs.length with h | h
          · exact h
          · rw [List.getElem?_eq_none h] at hj; cases hj
        rw [List.getElem?_eq_getElem hjl] at hj
        cases hj
        exact R.bytes h1 hr (by rw [h3]; exact h2) (by rw [h3]; exact h4) h5 j hjl)
      rw [List.length_map, h3, bytesOf_back] at this
      show (Extern.Bytes.loadBytes ⟨b, ba + off, none⟩ l .empty).run P w = _
      rw [this]
      congr 1
      apply ByteArray.ext
      show (#[] : Array UInt8) ++ bs.toArray = bs.toArray
      simp
    · have : bs = [] := by simpa using h3.trans h0
      subst this
      subst h0
      rfl
  · have hml : 0 = m := by simpa [lenAV] using hm
    subst hml
    exact ⟨[], rfl, e1, fun ρ w x' hx _ => by have hx : x' = .slice none 0 0 := hx; subst hx; rfl⟩
theorem findB_eq (c : UInt8) : ∀ (bs : List UInt8) (i : Nat) (k : Int → Out), findB c.toNat bs.length (leNat bs) i k = k (if Lib.indexByte bs c = -1 then -1 else Lib.indexByte bs c + i) := by
  intro bs
  induction bs with
  | nil => intro i k; rfl
  | cons b bs ih =>
    intro i k
    have hb := b.toNat_lt
    have e : findB c.toNat (b :: bs).length (leNat (b :: bs)) i k = Bool.rec (motive := fun _ => (Nat → Nat → Nat → (Int → Out) → Out) → Nat → Nat → Nat → (Int → Out) → Out) (fun ih c n i k => natK (Nat.shiftRight n 8) fun n => ih c n (Nat.succ i) k) (fun _ _ _ i k => natK i fun i => k (Int.ofNat i)) (Nat.beq (Nat.mod (leNat (b :: bs)) 256) c.toNat) (fun c n i k => findB c bs.length n i k) c.toNat (leNat (b :: bs)) i k := rfl
    rw [e]
    have hm : Nat.mod (leNat (b :: bs)) 256 = b.toNat := by show leNat (b :: bs) % 256 = _; rw [leNat_cons]; omega
    have hs : Nat.shiftRight (leNat (b :: bs)) 8 = leNat bs := by
      show leNat (b :: bs) >>> 8 = _; rw [Nat.shiftRight_eq_div_pow, leNat_cons]; omega
    rw [hm]
    have hge := Lib.indexByte_ge bs c
    by_cases hc : b = c
    · subst hc
      have h1 : Nat.beq b.toNat b.toNat = true := Nat.beq_refl _
      rw [h1]
      show natK i (fun i => k (Int.ofNat i)) = _
      rw [natK_eq]
      simp [Lib.indexByte]
    · have h1 : Nat.beq b.toNat c.toNat = false := by
        cases h : Nat.beq b.toNat c.toNat with
        | false => rfl
        | true => exact absurd (UInt8.toNat_inj.1 (Nat.eq_of_beq_eq_true h)) hc
      rw [h1]
      show natK (Nat.shiftRight (leNat (b :: bs)) 8) (fun n => findB c.toNat bs.length n (Nat.succ i) k) = _
      rw [natK_eq, hs, ih]
      have hc' : (b == c) = false := by simpa using hc
      simp only [Lib.indexByte, hc', Bool.false_eq_true, if_false]
      by_cases h2 : Lib.indexByte bs c = -1
      · simp [h2]
      · have h3 : (Lib.indexByte bs c == -1) = false := by simpa using h2
        simp only [h3, Bool.false_eq_true, if_false]
        rw [if_neg h2, if_neg (by omega)]
        congr 1
        simp; omega
theorem asInt_u8 {v : AV} {K : Nat → Out} (e : v.asInt (fun kd c => bc (kEq kd .u8) (Int.rec (motive := fun _ => Out) (fun c => bc (Nat.blt c 256) (K c) (.no 112)) (fun _ => .no 112) c) (.no 112)) = .ok r hF) : ∃ c : UInt8, v = .int .u8 (Int.ofNat c.toNat) ∧ K c.toNat = .ok r hF := by
  obtain ⟨kd, c, rfl, e1⟩ := asInt_ok e
  obtain ⟨h1, e2⟩ := bc_ok e1
  have h1 := kEq_ok h1
  subst h1
  cases c with
  | negSucc c => cases e2
  | ofNat c =>
    obtain ⟨h2, e3⟩ := bc_ok e2
    have h2 : c < 256 := by simpa [Nat.blt_eq] using h2
    have h3 : (UInt8.ofNat c).toNat = c := byteNat c h2
    exact ⟨UInt8.ofNat c, by rw [h3], by rw [h3]; exact e3⟩
theorem args_two {ρ : Rho} {l : List AV} {l' : Array Value} (hl : VRs ρ l l'.toList) {a b : AV} (h2 : l.length = 2) (ha : l[0]? = some a) (hb : l[1]? = some b) : ∃ x y, l' = #[x, y] ∧ VR ρ a x ∧ VR ρ b y := by
  match l, h2 with
  | [a', b'], _ =>
    cases ha; cases hb
    obtain ⟨l'⟩ := l'
    match l', hl with
    | [x, y], ⟨h1, h3, _⟩ => exact ⟨x, y, rfl, h1, h3⟩
theorem args_one {ρ : Rho} {l : List AV} {l' : Array Value} (hl : VRs ρ l l'.toList) {a : AV} (h1 : l.length = 1) (ha : l[0]? = some a) : ∃ x, l' = #[x] ∧ VR ρ a x := by
  match l, h1 with
  | [a'], _ =>
    cases ha
    obtain ⟨l'⟩ := l'
    match l', hl with
    | [x], ⟨h1, _⟩ => exact ⟨x, rfl, h1⟩
theorem find_of {fn : Func} {e : Array Value → Sem Value} {n : String} (hn : fn.name = n) (h : ∀ o : String, ((Extern.allGenericRows.lookup n).map (· fn.targs fn.params fn.resultTypes) <|> (Extern.allTypedRows.lookup n).map (· fn.params fn.resultTypes) <|> Extern.allRows.lookup n) = some e) : Extern.find fn = some e := by
  unfold Extern.find
  simp only [hn]
  rw [h ""]; rfl
theorem compare_less : ∀ (a b : List UInt8), Lib.compareBytes a b = if Op.bytesLess a b = true then -1 else if Op.bytesLess b a = true then 1 else 0 := by
  intro a
  induction a with
  | nil => intro b; cases b <;> rfl
  | cons x a ih =>
    intro b
    cases b with
    | nil => rfl
    | cons y b =>
      simp only [Lib.compareBytes, Op.bytesLess]
      by_cases h1 : x < y
      · simp [h1]
      · by_cases h2 : y < x
        · have : ¬ x == y := by intro h; have := eq_of_beq h; subst this; exact h1 h2
          simp [h1, h2, this]
        · have hxy : x = y := by
            apply UInt8.toNat_inj.1
            simp only [UInt8.lt_iff_toNat_lt] at h1 h2
            omega
          subst hxy
          simp [h1, ih]
theorem index_short : ∀ (s sub : List UInt8), s.length < sub.length → Lib.index s sub = -1 := by
  intro s
  induction s with
  | nil => intro sub h; cases sub <;> simp [Lib.index] at h ⊢
  | cons b s ih =>
    intro sub h
    have h1 := ih sub (by simp at h; omega)
    have h2 : sub.isPrefixOf (b :: s) = false := by
      cases hp : sub.isPrefixOf (b :: s) with
      | false => rfl
      | true => have := (List.isPrefixOf_iff_prefix.1 hp).length_le; omega
    simp [Lib.index, h1, h2]
theorem prefix_nat (s sub : List UInt8) (h : sub.length ≤ s.length) : Nat.beq (Nat.mod (leNat s) (Nat.shiftLeft 1 (Nat.mul 8 sub.length))) (leNat sub) = sub.isPrefixOf s := by
  rw [shl8, Nat.one_mul]
  show Nat.beq (leNat s % 256 ^ sub.length) (leNat sub) = _
  rw [leNat_take]
  have hl : (s.take sub.length).length = sub.length := by simp; omega
  cases hp : sub.isPrefixOf s with
  | true =>
    have := List.isPrefixOf_iff_prefix.1 hp
    rw [← List.prefix_iff_eq_take.1 this]; exact Nat.beq_refl _
  | false =>
    cases hb : Nat.beq (leNat (s.take sub.length)) (leNat sub) with
    | false => rfl
    | true =>
      have := leNat_inj _ _ hl (Nat.eq_of_beq_eq_true hb)
      have : sub.isPrefixOf s = true := List.isPrefixOf_iff_prefix.2 (List.prefix_iff_eq_take.2 this.symm)
      rw [this] at hp; cases hp
theorem findS_eq (sub : List UInt8) (h2 : 1 ≤ sub.length) : ∀ (s : List UInt8) (i : Nat) (k : Int → Out), findS sub.length (leNat sub) (Nat.sub (Nat.succ s.length) sub.length) (leNat s) i k = k (if Lib.index s sub = -1 then -1 else Lib.index s sub + i) := by
  intro s
  induction s with
  | nil =>
    intro i k
    have : Nat.sub (Nat.succ ([] : List UInt8).length) sub.length = 0 := by show (0 + 1) - sub.length = 0; omega
    rw [this, index_short [] sub (by simp; omega)]; rfl
  | cons b s ih =>
    intro i k
    by_cases hlt : (b :: s).length < sub.length
    · have : Nat.sub (Nat.succ (b :: s).length) sub.length = 0 := by show ((b :: s).length + 1) - sub.length = 0; omega
      rw [this, index_short _ sub hlt]; rfl
    · obtain ⟨c, hc⟩ : ∃ c, Nat.sub (Nat.succ (b :: s).length) sub.length = c + 1 := ⟨(b :: s).length - sub.length, by show ((b :: s).length + 1) - sub.length = _; omega⟩
      have hc' : Nat.sub (Nat.succ s.length) sub.length = c := by
        have h3 : (b :: s).length + 1 - sub.length = c + 1 := hc
        show s.length + 1 - sub.length = c
        simp at h3; omega
      rw [hc]
      have e : findS sub.length (leNat sub) (c + 1) (leNat (b :: s)) i k = Bool.rec (motive := fun _ => (Nat → Nat → Nat → Nat → (Int → Out) → Out) → Nat → Nat → Nat → Nat → (Int → Out) → Out) (fun ih m b n i k => natK (Nat.shiftRight n 8) fun n => ih m b n (Nat.succ i) k) (fun _ _ _ _ i k => natK i fun i => k (Int.ofNat i)) (Nat.beq (Nat.mod (leNat (b :: s)) (Nat.shiftLeft 1 (Nat.mul 8 sub.length))) (leNat sub)) (fun m b n i k => findS m b c n i k) sub.length (leNat sub) (leNat (b :: s)) i k := rfl
      rw [e, prefix_nat _ _ (by omega)]
      have hb := b.toNat_lt
      have hs : Nat.shiftRight (leNat (b :: s)) 8 = leNat s := by
        show leNat (b :: s) >>> 8 = _; rw [Nat.shiftRight_eq_div_pow, leNat_cons]; omega
      have hge := Lib.index_ge s sub
      cases hp : sub.isPrefixOf (b :: s) with
      | true =>
        show natK i (fun i => k (Int.ofNat i)) = _
        rw [natK_eq]
        simp [Lib.index, hp]
      | false =>
        show natK (Nat.shiftRight (leNat (b :: s)) 8) (fun n => findS sub.length (leNat sub) c n (Nat.succ i) k) = _
        rw [natK_eq, hs, ← hc', ih]
        simp only [Lib.index, hp, Bool.false_eq_true, if_false]
        by_cases h3 : Lib.index s sub = -1
        · simp [h3]
        · have h4 : (Lib.index s sub == -1) = false := by simpa using h3
          simp only [h4, Bool.false_eq_true, if_false]
          rw [if_neg h3, if_neg (by omega)]
          congr 1
          simp; omega
theorem indexByte_run {x x2 y : Value} {ba : ByteArray} {w : World} (h1 : (Extern.Bytes.bytesOf x).run P w = .ok ba w) (h2 : (Extern.Bytes.bytesOf x2).run P w = .ok ba w) : (Extern.BytealgIndexByte.indexByte #[x, y]).run P w = (Extern.BytealgIndexByte.indexByte #[x2, y]).run P w := by
  change Sem.run P (Extern.Bytes.bytesOf x >>= fun b => _) w = Sem.run P (Extern.Bytes.bytesOf x2 >>= fun b => _) w
  rw [Sem.run_bind, Sem.run_bind, h1, h2]; rfl
theorem index_run {x x2 y y2 : Value} {ba bb : ByteArray} {w : World} (h1 : (Extern.Bytes.bytesOf x).run P w = .ok ba w) (h2 : (Extern.Bytes.bytesOf x2).run P w = .ok ba w) (h3 : (Extern.Bytes.bytesOf y).run P w = .ok bb w) (h4 : (Extern.Bytes.bytesOf y2).run P w = .ok bb w) :
    (Extern.BytealgIndex.index #[x, y]).run P w = (Extern.BytealgIndex.index #[x2, y2]).run P w := by
  change Sem.run P (Extern.Bytes.bytesOf x >>= fun a => Extern.Bytes.bytesOf y >>= fun b => _) w = Sem.run P (Extern.Bytes.bytesOf x2 >>= fun a => Extern.Bytes.bytesOf y2 >>= fun b => _) w
  rw [Sem.run_bind, Sem.run_bind, h1, h2, Result.andThen_ok, Result.andThen_ok, Sem.run_bind, Sem.run_bind, h3, h4]
theorem isSlc_ok {t : Nat} (h : isSlc P t = true) : ∃ i e, P.info? t = some i ∧ i.desc = .slice e ∧ P.packed t = false := by
  unfold isSlc at h
  split at h
  · rename_i i hi
    split at h
    · rename_i e he
      exact ⟨i, e, hi, he, by simpa using h⟩
    · cases h
  · cases h
theorem isSl_ok {v : AV} (h : isSl v = true) : (∃ q o l ep es, v = .slc q o l ep es) ∨ v = .nsl := by
  cases v <;> first | exact .inl ⟨_, _, _, _, _, rfl⟩ | exact .inr rfl | cases h
theorem isSl_val {v : AV} (h : isSl v = true) {ρ : Rho} {x : Value} (hx : VR ρ v x) : ∃ p n c, x = .slice p n c := by
  rcases isSl_ok h with ⟨q, o, l, ep, es, rfl⟩ | rfl
  · obtain ⟨_, _, _, _, _, ⟨rfl, _⟩ | ⟨_, _, rfl⟩⟩ := hx <;> exact ⟨_, _, _, rfl⟩
  · exact ⟨_, _, _, hx⟩
theorem xt_ok : XtOk P := by
  intro f fn hfn hb hnx l h k r hF e
  have pure_ : (∃ v, k v h = .ok r hF ∧ ∀ ρ w (l' : Array Value), VRs ρ l l'.toList → Gl P ρ → Rel ρ h.look w → ∃ v', (callFunc f l').run P w = .ok (.value v') w ∧ VR ρ v v') → ∃ v h', k v h' = .ok r hF ∧ h.nx.toNat ≤ h'.nx.toNat ∧ ∀ ρ w (l' : Array Value), VRs ρ l l'.toList → Gl P ρ → Rel ρ h.look w → Fresh ρ h h' → ∃ v' w' ρ', (callFunc f l').run P w = .ok (.value v') w' ∧ VR ρ' v v' ∧ Tr ρ h w ρ' h' w' := by
    rintro ⟨v, e1, H⟩
    refine ⟨v, h, e1, Nat.le_refl _, fun ρ w l' hl G R _ => ?_⟩
    obtain ⟨v', h1, h2⟩ := H ρ w l' hl G R
    exact ⟨v', w, ρ, h1, h2, Tr.refl R⟩
  have hbn : fn.body.isNone = true := by rw [hb]; rfl
  have run : ∀ {en : Array Value → Sem Value} {n : String}, fn.name = n → (n == "runtime.NumGoroutine") = false → (∀ _ : String, ((Extern.allGenericRows.lookup n).map (· fn.targs fn.params fn.resultTypes) <|> (Extern.allTypedRows.lookup n).map (· fn.params fn.resultTypes) <|> Extern.allRows.lookup n) = some en) →
      ∀ (args : Array Value) (w w' : World) (v : Value), (en args).run P w = .ok v w' → (callFunc f args).run P w = .ok (.value v) w' := by
    intro en n hn hng hrow args w w' v hr
    rw [run_callFunc_extern hfn (by rw [hn]; exact hng) hbn hnx (find_of hn hrow) args w, hr]; rfl
  have idxByte : (∀ (args : Array Value) (w : World) (v : Value), (Extern.BytealgIndexByte.indexByte args).run P w = .ok v w → (callFunc f args).run P w = .ok (.value v) w) → xtC P fn .idxByte l h k = .ok r hF →
      ∃ v, k v h = .ok r hF ∧ ∀ ρ w (l' : Array Value), VRs ρ l l'.toList → Gl P ρ → Rel ρ h.look w → ∃ v', (callFunc f l').run P w = .ok (.value v') w ∧ VR ρ v v' := by
    intro hrun e
    obtain ⟨h2, e1⟩ := bc_ok (show bc (lenIs l 2) _ (.no 112) = .ok r hF from e)
    obtain ⟨s, hs, e2⟩ := nthK_ok e1
    obtain ⟨c, hc, e3⟩ := nthK_ok e2
    obtain ⟨m, hm, e4⟩ := lenK_len e3
    obtain ⟨cb, rfl, e5⟩ := asInt_u8 e4
    obtain ⟨bs, hbs, e6, H⟩ := bytes_arg (P := P) hm e5
    rw [← hbs, findB_eq] at e6
    refine ⟨_, e6, fun ρ w l' hl _ R => ⟨_, hrun l' w _ ?_, rfl⟩⟩
    obtain ⟨x, y, rfl, hx, hy⟩ := args_two hl (lenIs_ok _ _ h2) hs hc
    have hy : y = .int .u8 (Int.ofNat cb.toNat) := hy
    subst hy
    have hk := Lib.run_indexByteString (P := P) ⟨bs.toArray⟩ (Int.ofNat cb.toNat) w
    have hbx := H ρ w x hx R
    rw [indexByte_run (x2 := .string ⟨bs.toArray⟩) hbx rfl, hk]
    congr 2
    have : (Int.ofNat cb.toNat).toNat.toUInt8 = cb := by simp
    rw [this]
    split
    · rename_i h3; exact h3
    · simp
  have idx : (∀ (args : Array Value) (w : World) (v : Value), (Extern.BytealgIndex.index args).run P w = .ok v w → (callFunc f args).run P w = .ok (.value v) w) → xtC P fn .idx l h k = .ok r hF →
      ∃ v, k v h = .ok r hF ∧ ∀ ρ w (l' : Array Value), VRs ρ l l'.toList → Gl P ρ → Rel ρ h.look w → ∃ v', (callFunc f l').run P w = .ok (.value v') w ∧ VR ρ v v' := by
    intro hrun e
    unfold xtC at e
    cases hg : P.globals.findIdx? (·.name == nmS [105, 110, 116, 101, 114, 110, 97, 108, 47, 98, 121, 116, 101, 97, 108, 103, 46, 77, 97, 120, 76, 101, 110]) with
    | none => simp only [hg] at e; cases e
    | some g =>
      simp only [hg] at e
      obtain ⟨h2, e1⟩ := bc_ok (show bc (lenIs l 2) _ (.no 112) = .ok r hF from e)
      obtain ⟨s, hs, e2⟩ := nthK_ok e1
      obtain ⟨c, hc, e3⟩ := nthK_ok e2
      obtain ⟨m, hm, e4⟩ := lenK_len e3
      obtain ⟨j, hj, e5⟩ := lenK_len e4
      obtain ⟨bs, hbs, e6, H⟩ := bytes_arg (P := P) hm e5
      obtain ⟨cs, hcs, e7, H'⟩ := bytes_arg (P := P) hj e6
      obtain ⟨h3, e8⟩ := bc_ok e7
      obtain ⟨h4, e9⟩ := bc_ok e8
      obtain ⟨F, hF1, hep, e10⟩ := famK_ok e9
      rw [bodyK_eq] at e10
      obtain ⟨hmp, v, hv, e11⟩ := rdCell_ok e10
      obtain ⟨kd, mx, rfl, e12⟩ := asInt_ok e11
      obtain ⟨h5, e13⟩ := bc_ok e12
      have h5 := kEq_ok h5
      subst h5
      obtain ⟨h6, e14⟩ := bc_ok e13
      have h3 : 2 ≤ j := Nat.le_of_ble_eq_true h3
      have h4 : m ≤ 1000000000 := Nat.le_of_ble_eq_true h4
      have h6 : ((j : Nat) : Int) ≤ mx := of_decide_eq_true h6
      rw [← hbs, ← hcs, findS_eq cs (by omega)] at e14
      refine ⟨_, e14, fun ρ w l' hl Gl0 R => ⟨_, hrun l' w _ ?_, rfl⟩⟩
      obtain ⟨x, y, rfl, hx, hy⟩ := args_two hl (lenIs_ok _ _ h2) hs hc
      have hbx := H ρ w x hx R
      have hby := H' ρ w y hy R
      have hgl : g < P.globals.size := by
        have := Array.findIdx?_eq_some_iff_getElem.1 hg
        exact this.1
      obtain ⟨gcs, hgr⟩ := Gl0 g (Nat.le_of_lt hgl)
      obtain ⟨u, u1, u2, _⟩ := R.read hF1 hmp hgr hv (by
        have := (R.fam _ F hF1).le 0 _ hgr
        by_cases h0 : F.ep = 0
        · exact .inl h0.symm
        · rcases hep with h | h
          · exact absurd h.symm h0
          · exact .inr (by omega))
      have hu : u = .int .i64 mx := u2
      subst hu
      have hk := Lib.run_indexString (P := P) ⟨bs.toArray⟩ ⟨cs.toArray⟩ w g mx (by rw [← hg]; rfl) u1 (by show 2 ≤ cs.toArray.size; simp; omega) (by show ((cs.toArray.size : Nat) : Int) ≤ mx; simp; omega) (by show bs.toArray.size < _; simp; omega)
      rw [index_run (x2 := .string ⟨bs.toArray⟩) (y2 := .string ⟨cs.toArray⟩) hbx rfl hby rfl, hk]
      congr 2
      split
      · rename_i h7; exact h7
      · simp
  have noEsc : (∀ (args : Array Value) (w : World) (v : Value), (Extern.AbiNoEscape.same args).run P w = .ok v w → (callFunc f args).run P w = .ok (.value v) w) → xtC P fn .noEsc l h k = .ok r hF →
      ∃ v, k v h = .ok r hF ∧ ∀ ρ w (l' : Array Value), VRs ρ l l'.toList → Gl P ρ → Rel ρ h.look w → ∃ v', (callFunc f l').run P w = .ok (.value v') w ∧ VR ρ v v' := by
    intro hrun e
    obtain ⟨h1, e1⟩ := bc_ok (show bc (lenIs l 1) _ (.no 112) = .ok r hF from e)
    obtain ⟨s, hs, e2⟩ := nthK_ok e1
    refine ⟨_, e2, fun ρ w l' hl _ R => ?_⟩
    obtain ⟨x, rfl, hx⟩ := args_one hl (lenIs_ok _ _ h1) hs
    exact ⟨x, hrun _ w x rfl, hx⟩
  have cmp : (∀ (args : Array Value) (w : World) (v : Value), (Extern.BytealgCompare.compare args).run P w = .ok v w → (callFunc f args).run P w = .ok (.value v) w) → xtC P fn .cmp l h k = .ok r hF →
      ∃ v, k v h = .ok r hF ∧ ∀ ρ w (l' : Array Value), VRs ρ l l'.toList → Gl P ρ → Rel ρ h.look w → ∃ v', (callFunc f l').run P w = .ok (.value v') w ∧ VR ρ v v' := by
    intro hrun e
    obtain ⟨h2, e1⟩ := bc_ok (show bc (lenIs l 2) _ (.no 112) = .ok r hF from e)
    obtain ⟨s, hs, e2⟩ := nthK_ok e1
    obtain ⟨c, hc, e3⟩ := nthK_ok e2
    obtain ⟨n, m, rfl, e4⟩ := asStr_ok e3
    obtain ⟨n', m', rfl, e5⟩ := asStr_ok e4
    have e6 : k (.int .i64 (if strLt m' n m n' = true then -1 else if strLt m n' m' n = true then 1 else 0)) h = .ok r hF := by
      rw [bc_eq] at e5
      split at e5
      · rename_i h3; rw [if_pos h3]; exact e5
      · rename_i h3; rw [if_neg (by simpa using h3)]
        rw [bc_eq] at e5
        split at e5
        · rename_i h4; rw [if_pos h4]; exact e5
        · rename_i h4; rw [if_neg (by simpa using h4)]; exact e5
    refine ⟨_, e6, fun ρ w l' hl _ R => ⟨_, hrun l' w _ ?_, rfl⟩⟩
    obtain ⟨x, y, rfl, hx, hy⟩ := args_two hl (lenIs_ok _ _ h2) hs hc
    obtain ⟨a, rfl, rfl, rfl⟩ := hx
    obtain ⟨b, rfl, rfl, rfl⟩ := hy
    rw [strLt_eq, strLt_eq]
    have := Lib.run_compareString (P := P) a b w
    rw [compare_less] at this
    exact this
  have noZero : (∀ (args : Array Value) (w w' : World) (v : Value), (Extern.BytealgMakeNoZero.makeNoZero fn.params fn.resultTypes args).run P w = .ok v w' → (callFunc f args).run P w = .ok (.value v) w') → xtC P fn .noZero l h k = .ok r hF →
      ∃ v h', k v h' = .ok r hF ∧ h.nx.toNat ≤ h'.nx.toNat ∧ ∀ ρ w (l' : Array Value), VRs ρ l l'.toList → Gl P ρ → Rel ρ h.look w → Fresh ρ h h' → ∃ v' w' ρ', (callFunc f l').run P w = .ok (.value v') w' ∧ VR ρ' v v' ∧ Tr ρ h w ρ' h' w' := by
    intro hrun e
    unfold xtC at e
    cases ht : retElem P fn with
    | none => simp only [ht] at e; cases e
    | some el =>
      simp only [ht] at e
      obtain ⟨t, hts, hel⟩ : ∃ t, fn.resultTypes = #[t] ∧ elemT P t = some el := by
        unfold retElem at ht
        cases hl : fn.resultTypes.toList with
        | nil => rw [hl] at ht; cases ht
        | cons t ts =>
          cases ts with
          | nil => rw [hl] at ht; exact ⟨t, by apply Array.ext'; simpa using hl, ht⟩
          | cons _ _ => rw [hl] at ht; cases ht
      have hu := elemT_ok hel
      obtain ⟨h1, e1⟩ := bc_ok e
      obtain ⟨v, hv, e2⟩ := nthK_ok e1
      obtain ⟨kd, n, rfl, e3⟩ := asInt_ok e2
      obtain ⟨h2, e4⟩ := bc_ok e3
      have h2 := kEq_ok h2
      subst h2
      cases n with
      | negSucc n => cases e4
      | ofNat n =>
        obtain ⟨h3, e5⟩ := bc_ok e4
        have h3 : n ≤ 1000000000 := Nat.le_of_ble_eq_true h3
        have e6 := newFam_ok e5
        refine ⟨_, _, e6, (by show _ ≤ (Pth.succ h.nx).toNat; rw [Pth.toNat_succ]; omega), fun ρ w l' hl G R K => ?_⟩
        obtain ⟨x, rfl, hx⟩ := args_one hl (lenIs_ok _ _ h1) hv
        have hx : x = .int .i64 (Int.ofNat n) := hx
        subst hx
        obtain ⟨cs, r1, r2, _⟩ := Lib.run_makeNoZero (P := P) w fn.params t el hu n (by omega)
        have hr := hrun #[.int .i64 (Int.ofNat n)] w _ _ (by rw [hts]; exact r1)
        have hN : NewOk ρ (.cells cs el) cs.size (.byt 0 0) := ⟨Nat.one_pos, .inr ⟨rfl, cs, el, (0, 0), rfl, .inl rfl, rfl, fun i v hi => by simp [Body.cell?] at hi⟩⟩
        have hT := R.alloc (w0 := w.drew.drew) rfl rfl rfl rfl (el := el) K hN
        exact ⟨_, _, _, hr, ⟨w.heap.size, 0, cs.size, cs.size, upd1_same _ _ _ _, .inl ⟨rfl, r2, by omega⟩⟩, hT⟩
  have rvOf : (∀ (args : Array Value) (w w' : World) (v : Value), (Extern.ReflectliteValue.unpack (args.getD 0 (.tuple #[]))).run P w = .ok v w' → (callFunc f args).run P w = .ok (.value v) w') → xtC P fn .rvOf l h k = .ok r hF →
      ∃ v h', k v h' = .ok r hF ∧ h.nx.toNat ≤ h'.nx.toNat ∧ ∀ ρ w (l' : Array Value), VRs ρ l l'.toList → Gl P ρ → Rel ρ h.look w → Fresh ρ h h' → ∃ v' w' ρ', (callFunc f l').run P w = .ok (.value v') w' ∧ VR ρ' v v' ∧ Tr ρ h w ρ' h' w' := by
    intro hrun e
    unfold xtC at e
    simp only at e
    obtain ⟨h1, e1⟩ := bc_ok e
    obtain ⟨v, hv, e2⟩ := nthK_ok e1
    obtain ⟨t, x, rfl, e3⟩ := asIfc_ok e2
    obtain ⟨h2, e4⟩ := bc_ok e3
    obtain ⟨i, el, hi, hd, hpk⟩ := isSlc_ok h2
    obtain ⟨h3, e5⟩ := bc_ok e4
    have e6 := newFam_ok e5
    refine ⟨_, _, e6, (by show _ ≤ (Pth.succ h.nx).toNat; rw [Pth.toNat_succ]; omega), fun ρ w l' hl G R K => ?_⟩
    obtain ⟨y, rfl, hy⟩ := args_one hl (lenIs_ok _ _ h1) hv
    obtain ⟨z, rfl, hz⟩ := hy
    obtain ⟨p, n, c, rfl⟩ := isSl_val h3 hz
    have hr := hrun #[.iface t (.slice p n c)] w _ _ (Lib.run_valueOf_slice (P := P) t el i hi hd p n c w)
    have hN : NewOk ρ (.cells #[.slice p n c] t) 1 (.arr (.nd .lf (some [x]) .lf) 1 1 [.bad]) := by
      refine ⟨⟨rfl, fun q row hq => ?_⟩, .inr ⟨rfl, _, t, (0, 0), rfl, .inl rfl, rfl, fun j v hj => ?_⟩⟩
      · cases q with
        | e => cases hq; rfl
        | l q => have : (PT.lf : PT (List AV)).look q = some row := hq
                 rw [look_lf] at this; cases this
        | r q => have : (PT.lf : PT (List AV)).look q = some row := hq
                 rw [look_lf] at this; cases this
      · have hlt : j < 1 * 1 := by
          simp only [Body.cell?] at hj
          split at hj
          · assumption
          · cases hj
        have h0 : j = 0 := by omega
        subst h0
        have : v = x := by
          have hj' : (Body.arr (.nd .lf (some [x]) .lf) 1 1 [.bad]).cell? 0 = some x := rfl
          rw [hj'] at hj; cases hj; rfl
        subst this
        exact ⟨_, rfl, hz, rfl⟩
    have hT := R.alloc (w0 := w) rfl rfl rfl rfl (el := t) K hN
    obtain ⟨gcs, hg⟩ := G P.globals.size (Nat.le_refl _)
    refine ⟨_, _, _, hr, ⟨_, rfl, ⟨⟨P.globals.size, 0, gcs, hT.mono _ _ _ hg, ?_⟩, ⟨w.heap.size, 0, 1, upd1_same _ _ _ _, rfl⟩, rfl, trivial⟩, fun u hu => ?_⟩, hT⟩
    · simp [typeHandle]
    · simp [typeHandle] at hu
      rcases hu with rfl | rfl | rfl <;> rfl
  have rvLen : (∀ (args : Array Value) (w w' : World) (v : Value), (Extern.ReflectliteValue.method (Extern.ReflectliteValue.valueError "reflectlite.Value.Len" 0) Extern.ReflectliteValue.len args).run P w = .ok v w' → (callFunc f args).run P w = .ok (.value v) w') → xtC P fn .rvLen l h k = .ok r hF →
      ∃ v, k v h = .ok r hF ∧ ∀ ρ w (l' : Array Value), VRs ρ l l'.toList → Gl P ρ → Rel ρ h.look w → ∃ v', (callFunc f l').run P w = .ok (.value v') w ∧ VR ρ v v' := by
    intro hrun e
    unfold xtC at e
    simp only at e
    obtain ⟨h1, e1⟩ := bc_ok e
    obtain ⟨v, hv, e2⟩ := nthK_ok e1
    obtain ⟨m, rfl, e3⟩ := asAgg_ok e2
    obtain ⟨h2, e4⟩ := bc_ok e3
    obtain ⟨a, ha, e5⟩ := nthK_ok e4
    obtain ⟨b, hb1, e6⟩ := nthK_ok e5
    obtain ⟨c, hc, e7⟩ := nthK_ok e6
    obtain ⟨q, t, ep0, rfl, e8⟩ := asPtr_ok e7
    obtain ⟨h3, e9⟩ := bc_ok e8
    have h3 : q = Pth.ofNat P.globals.size ∧ ep0 = 0 := by
      cases hq : Pth.beq q (Pth.ofNat P.globals.size) with
      | false => rw [hq] at h3; cases h3
      | true => rw [hq] at h3; exact ⟨Pth.beq_ok hq, Nat.eq_of_beq_eq_true h3⟩
    obtain ⟨rfl, rfl⟩ := h3
    obtain ⟨h4, e10⟩ := bc_ok e9
    obtain ⟨i, el, hi, hd, hpk⟩ := isSlc_ok h4
    obtain ⟨f2, o2, ep2, rfl, e11⟩ := asPtr_ok e10
    obtain ⟨kd, n, rfl, e12⟩ := asInt_ok e11
    obtain ⟨h5, e13⟩ := bc_ok e12
    have h5 := kEq_ok h5
    subst h5
    obtain ⟨h6, e14⟩ := bc_ok e13
    have h6 : n = 151 := of_decide_eq_true h6
    subst h6
    obtain ⟨F, hF1, hep, e15⟩ := famK_ok e14
    rw [bodyK_eq] at e15
    obtain ⟨hmp, s, hs, e16⟩ := rdCell_ok e15
    have : ∃ sl, (∃ q o l' ep es, s = .slc q o l' ep es ∧ sl = l') ∨ (s = .nsl ∧ sl = 0) := by
      rcases lenS_ok e16 with ⟨q, o', l, p, es, hd, _⟩ | ⟨hd, _⟩
      · exact ⟨l, .inl ⟨q, o', l, p, es, hd, rfl⟩⟩
      · exact ⟨0, .inr ⟨hd, rfl⟩⟩
    have e17 : ∃ sl, ((∃ q o l' ep es, s = .slc q o l' ep es ∧ sl = l') ∨ (s = .nsl ∧ sl = 0)) ∧ k (.int .i64 (Int.ofNat sl)) h = .ok r hF := by
      rcases lenS_ok e16 with ⟨q, o', l, p, es, hd, e⟩ | ⟨hd, e⟩
      · exact ⟨l, .inl ⟨q, o', l, p, es, hd, rfl⟩, e⟩
      · exact ⟨0, .inr ⟨hd, rfl⟩, e⟩
    obtain ⟨sl, hsl, e18⟩ := e17
    refine ⟨_, e18, fun ρ w l' hl G R => ?_⟩
    obtain ⟨y, rfl, hy⟩ := args_one hl (lenIs_ok _ _ h1) hv
    obtain ⟨cs, rfl, hcs, _⟩ := hy
    have hml := lenIs_ok _ _ h2
    obtain ⟨cs⟩ := cs
    match m, hml, cs, hcs with
    | [a', b', c'], _, [x1, x2, x3], ⟨r1, r2, r3, _⟩ =>
      cases ha; cases hb1; cases hc
      obtain ⟨gcs, hg⟩ := G P.globals.size (Nat.le_refl _)
      obtain ⟨b1, ba1, cs1, hr1, rfl⟩ := r1
      rw [hg] at hr1; cases hr1
      obtain ⟨b2, ba2, cs2, hr2, rfl⟩ := r2
      have r3 : x3 = .int .u64 151 := r3
      subst r3
      obtain ⟨u, u1, u2, _⟩ := R.read hF1 hmp hr2 hs (hep.imp id fun h => by omega)
      obtain ⟨base, dc, rfl⟩ := slice_of hsl u2
      have := Lib.run_valueLen_slice (P := P) t el i hi hd hpk ⟨b2, ba2 + o2, none⟩ base sl dc w u1
      refine ⟨_, hrun _ w w _ ?_, rfl⟩
      simp only [typeHandle] at this
      rw [Nat.zero_add]
      exact this
  unfold xtOf at e
  split at e
  · rename_i hn; exact pure_ (idxByte (fun a w v => run (eq_of_beq hn) rfl (fun _ => by kernel_rfl) a w w v) e)
  split at e
  · rename_i hn; exact pure_ (idxByte (fun a w v => run (eq_of_beq hn) rfl (fun _ => by kernel_rfl) a w w v) e)
  split at e
  · rename_i hn; exact pure_ (idx (fun a w v => run (eq_of_beq hn) rfl (fun _ => by kernel_rfl) a w w v) e)
  split at e
  · rename_i hn; exact pure_ (idx (fun a w v => run (eq_of_beq hn) rfl (fun _ => by kernel_rfl) a w w v) e)
  split at e
  · rename_i hn; exact pure_ (noEsc (fun a w v => run (eq_of_beq hn) rfl (fun _ => by kernel_rfl) a w w v) e)
  split at e
  · rename_i hn; exact pure_ (cmp (fun a w v => run (eq_of_beq hn) rfl (fun _ => by kernel_rfl) a w w v) e)
  split at e
  · rename_i hn; exact noZero (run (eq_of_beq hn) rfl fun _ => by kernel_rfl) e
  split at e
  · rename_i hn; exact rvOf (run (eq_of_beq hn) rfl fun _ => by kernel_rfl) e
  split at e
  · rename_i hn; exact pure_ (rvLen (run (eq_of_beq hn) rfl fun _ => by kernel_rfl) e)
  · cases e
end
end Go.Am

namespace Go.Am
open Go

/-! ### Variables that are laid: flat data -/
def flatAll (g : Nat → DataW Unit → Option (List AV)) (P : Program) : List (Nat × Nat) → List (DataW Unit) → Nat → Nat → Option (List AV)
  | [], [], o, n => if o = n then some [] else none
  | (o', u) :: ps, d :: ds, o, n => if o' = o then (match g u d, flatAll g P ps ds (o + P.cellsOf u) n with | some l, some m => some (l ++ m) | _, _ => none) else none
  | _, _, _, _ => none
noncomputable def flatD (P : Program) : Nat → Nat → DataW Unit → Option (List AV)
  | 0, _, _ => none
  | f + 1, t, d => match P.underlying t, d with
    | some .bool, .lit (.bool b) => some [.bool b]
    | some (.int _), .lit (.int k n) => some [.int k n]
    | some .string, .lit (.string s) => some [.str (leNat s) s.length]
    | some (.pointer _), .nil => some [.nul]
    | some (.slice _), .nil => some [.nsl]
    | some (.map _ _), .nil => some [.nmp]
    | some (.struct fs), .agg ds => flatAll (flatD P f) P (fs.toList.map fun x => (x.offset, x.type)) ds 0 (P.cellsOf t)
    | some (.array n e), .agg ds => flatAll (flatD P f) P ((List.range n).map fun i => (i * P.cellsOf e, e)) ds 0 (P.cellsOf t)
    | _, _ => none
section
variable {P : Program} {w : World} {base : Nat} {sp : Nat → Bool} {held : Bool} {ρ : Rho}
theorem flatAll_ok {r : Nat → List Value → Option (DataW Unit × List MemPlace)} {g : Nat → DataW Unit → Option (List AV)} (H : ∀ u cs d p l, r u cs = some (d, p) → g u d = some l → CellsR ρ l cs) (cs : List Value) {n : Nat} (hn : cs.length = n) :
    ∀ (ps : List (Nat × Nat)) (xs : List (DataW Unit × List MemPlace)) (o : Nat) (l : List AV), (ps.mapM fun x => r x.2 ((cs.drop x.1).take (P.cellsOf x.2))) = some xs → flatAll g P ps (xs.map (·.1)) o n = some l → CellsR ρ l (cs.drop o) := by
  intro ps
  induction ps with
  | nil =>
    intro xs o l h1 h2
    simp at h1; subst h1
    simp only [List.map_nil, flatAll] at h2
    split at h2
    · cases h2
      rename_i ho
      rw [List.drop_of_length_le (by omega)]
      exact ⟨trivial, fun u hu => by simp at hu⟩
    · cases h2
  | cons x ps ih =>
    intro xs o l h1 h2
    rw [List.mapM_cons] at h1
    cases hr : r x.2 ((cs.drop x.1).take (P.cellsOf x.2)) with
    | none => rw [hr] at h1; cases h1
    | some y =>
      cases hm : (ps.mapM fun x => r x.2 ((cs.drop x.1).take (P.cellsOf x.2))) with
      | none => rw [hr, hm] at h1; cases h1
      | some ys =>
        rw [hr, hm] at h1
        cases h1
        simp only [List.map_cons, flatAll] at h2
        split at h2
        · rename_i ho
          cases hg : g x.2 y.1 with
          | none => rw [hg] at h2; cases h2
          | some l1 =>
            cases hf : flatAll g P ps (ys.map (·.1)) (o + P.cellsOf x.2) n with
            | none => rw [hg, hf] at h2; cases h2
            | some l2 =>
              rw [hg, hf] at h2
              cases h2
              rw [ho] at hr
              have h3 := ih ys _ l2 hm hf
              have h4 := H x.2 _ y.1 y.2 l1 hr hg
              have h6 : cs.drop o = (cs.drop o).take (P.cellsOf x.2) ++ cs.drop (o + P.cellsOf x.2) := by
                rw [← List.drop_drop]; exact (List.take_append_drop _ _).symm
              rw [h6]
              exact ⟨h4.1.append h3.1, fun u hu => (List.mem_append.1 hu).elim (h4.2 u) (h3.2 u)⟩
        · cases h2
theorem one_vr {a : AV} {v : Value} (h : VR ρ a v) (hf : flat a = true) : CellsR ρ [a] [v] := ⟨⟨h, trivial⟩, fun u hu => by simp at hu; subst hu; exact flat_of h hf⟩
theorem trod_array {H : Type} {enc : TypeId × Value → H} {fuel t n e : Nat} {cs : List Value} {x : DataW H × List MemPlace} (ht : P.underlying t = some (.array n e)) (h : DataW.trod enc P w base sp held fuel t cs = some x) :
    ∃ (xs : List (DataW H × List MemPlace)) (m : Nat), fuel = m + 1 ∧ x.1 = .agg (xs.map (·.1)) ∧ cs.length = P.cellsOf t ∧ ((List.range n).mapM fun i => DataW.trod enc P w base sp held m e ((cs.drop (i * P.cellsOf e)).take (P.cellsOf e))) = some xs := by
  cases fuel with
  | zero => simp [DataW.trod] at h
  | succ m =>
    unfold DataW.trod at h
    rw [ht] at h
    split at h <;> simp_all
    obtain ⟨hl, xs, hp, hd⟩ := h
    exact ⟨xs, by rw [← hd], hp⟩
theorem trod_struct' {H : Type} {enc : TypeId × Value → H} {fuel t : Nat} {fs : Array Field} {cs : List Value} {x : DataW H × List MemPlace} (ht : P.underlying t = some (.struct fs)) (h : DataW.trod enc P w base sp held fuel t cs = some x) :
    ∃ (xs : List (DataW H × List MemPlace)) (m : Nat), fuel = m + 1 ∧ x.1 = .agg (xs.map (·.1)) ∧ cs.length = P.cellsOf t ∧ (fs.toList.mapM fun f => DataW.trod enc P w base sp held m f.type ((cs.drop f.offset).take (P.cellsOf f.type))) = some xs := by
  cases fuel with
  | zero => simp [DataW.trod] at h
  | succ m =>
    unfold DataW.trod at h
    rw [ht] at h
    split at h <;> simp_all
    obtain ⟨hl, xs, hp, hd⟩ := h
    exact ⟨xs, by rw [← hd], hp⟩
theorem trod_map_nil {H : Type} {enc : TypeId × Value → H} {fuel t k e : Nat} {cs : List Value} {p : List MemPlace} (ht : P.underlying t = some (.map k e)) (h : DataW.trod enc P w base sp held fuel t cs = some (.nil, p)) : cs = [.map none] := by
  cases fuel with
  | zero => simp [DataW.trod] at h
  | succ m =>
    unfold DataW.trod at h
    rw [ht] at h
    split at h <;> simp_all
    split at h <;> simp_all
    obtain ⟨_, h⟩ := h
    simp only [Option.bind_eq_some_iff] at h
    obtain ⟨_, _, h⟩ := h
    split at h <;> simp_all
theorem mapM_map' {α β γ : Type} (g : α → β) (f : β → Option γ) : ∀ l : List α, (l.map g).mapM f = l.mapM fun x => f (g x) := by
  intro l
  induction l with
  | nil => rfl
  | cons a l ih => rw [List.map_cons, List.mapM_cons, List.mapM_cons, ih]
theorem flatD_ok {enc : TypeId × Value → Unit} : ∀ (f' f t : Nat) (cs : List Value) (d : DataW Unit) (p : List MemPlace) (l : List AV), DataW.trod enc P w base sp held f t cs = some (d, p) → flatD P f' t d = some l → CellsR ρ l cs := by
  intro f'
  induction f' with
  | zero => intro f t cs d p l _ h; cases h
  | succ f' ih =>
    intro f t cs d p l h1 h2
    simp only [flatD] at h2
    split at h2 <;> (try (cases h2; done))
    · rename_i hu; cases h2
      obtain ⟨b, rfl, hx⟩ := DataW.trod_bool hu h1
      cases hx; exact one_vr rfl rfl
    · rename_i hu; cases h2
      obtain ⟨n, rfl, hx, _⟩ := DataW.trod_int hu h1
      cases hx; exact one_vr rfl rfl
    · rename_i hu; cases h2
      obtain ⟨s, rfl, hx, _⟩ := DataW.trod_string hu h1
      cases hx; exact one_vr ⟨s, rfl, rfl, rfl⟩ rfl
    · rename_i hu; cases h2
      rcases DataW.trod_pointer hu h1 with ⟨rfl, _⟩ | ⟨_, _, _, _, _, _, hx, _⟩
      · exact one_vr rfl rfl
      · cases hx
    · rename_i hu; cases h2
      rcases DataW.trod_slice hu h1 with ⟨rfl, _⟩ | ⟨_, _, _, _, _, _, _, _, hx, _⟩
      · exact one_vr rfl rfl
      · cases hx
    · rename_i hu; cases h2
      have := trod_map_nil hu h1
      subst this
      exact one_vr rfl rfl
    · rename_i hu
      obtain ⟨xs, m, _, hx, hl, hm⟩ := trod_struct' hu h1
      simp only at hx
      cases hx
      have := flatAll_ok (ρ := ρ) (r := fun u cs => DataW.trod enc P w base sp held m u cs) (g := flatD P f') (fun u cs d p l a b => ih m u cs d p l a b) cs hl (_root_.List.map (fun (x : Field) => (x.offset, x.type)) _) xs 0 l (by rw [mapM_map']; exact hm) h2
      simpa using this
    · rename_i hu
      obtain ⟨xs, m, _, hx, hl, hm⟩ := trod_array hu h1
      simp only at hx
      cases hx
      have := flatAll_ok (ρ := ρ) (r := fun u cs => DataW.trod enc P w base sp held m u cs) (g := flatD P f') (fun u cs d p l a b => ih m u cs d p l a b) cs hl (_root_.List.map (fun i => (i * P.cellsOf _, _)) _) xs 0 l (by rw [mapM_map']; exact hm) h2
      simpa using this
end
noncomputable def laidFam (l : List AV) : Fam := ⟨0, 0, big + 1, .arr (rowsIn (l.map fun v => [v]) .lf 0) 1 l.length [.bad]⟩
noncomputable def lay1 (P : Program) (h : Hp) (x : String × DataW Unit) : Hp := match P.globalNamed x.1 with
  | some g => (match P.globals[g]? with
    | some gl => (match flatD P 30 gl.type x.2 with
      | some l => putFam h (Pth.ofNat g) (some (laidFam l))
      | none => h)
    | none => h)
  | none => h
noncomputable def hpL (P : Program) (L : List (String × DataW Unit)) : Hp := L.foldl (lay1 P) ⟨Pth.ofNat (P.globals.size + 1), .lf⟩
structure LaidAt (P : Program) (x : String × DataW Unit) (f : Pth) (F : Fam) : Prop where
  mk' :: (ex : ∃ g gl l, P.globalNamed x.1 = some g ∧ P.globals[g]? = some gl ∧ f = Pth.ofNat g ∧ flatD P 30 gl.type x.2 = some l ∧ F = laidFam l)
theorem lay_look {P : Program} : ∀ (L : List (String × DataW Unit)) (h : Hp) (f : Pth) (F : Fam), (L.foldl (lay1 P) h).look f = some F → h.look f = some F ∨ ∃ x ∈ L, LaidAt P x f F := by
  intro L
  induction L with
  | nil => intro h f F hF; exact .inl hF
  | cons x L ih =>
    intro h f F hF
    rw [List.foldl_cons] at hF
    rcases ih _ f F hF with h1 | ⟨y, hy, h1⟩
    · unfold lay1 at h1
      split at h1
      · rename_i g hg
        split at h1
        · rename_i gl hgl
          split at h1
          · rename_i l hl
            rw [look_put] at h1
            split at h1
            · rename_i hf
              cases h1
              exact .inr ⟨x, by simp, ⟨g, gl, l, hg, hgl, hf, hl, rfl⟩⟩
            · exact .inl h1
          · exact .inl h1
        · exact .inl h1
      · exact .inl h1
    · exact .inr ⟨y, by simp [hy], h1⟩
theorem lay_nx {P : Program} : ∀ (L : List (String × DataW Unit)) (h : Hp), (L.foldl (lay1 P) h).nx = h.nx := by
  intro L
  induction L with
  | nil => intro h; rfl
  | cons x L ih =>
    intro h
    rw [List.foldl_cons, ih]
    unfold lay1
    split
    · split
      · split
        · exact nx_put _ _ _
        · rfl
      · rfl
    · rfl
def sizeAt (w : World) (k : Nat) : Nat := match w.heap[k]? with
  | some (.cells c _ _) => c.size
  | _ => 0
def rhoW (G : Nat) (w : World) : Rho := fun f e => if e = 0 ∧ f.toNat ≤ G then some (f.toNat, 0, sizeAt w f.toNat) else none
theorem rhoW_some {G : Nat} {w : World} {f : Pth} {e : Nat} {x : Nat × Nat × Nat} (h : rhoW G w f e = some x) : e = 0 ∧ f.toNat ≤ G ∧ x = (f.toNat, 0, sizeAt w f.toNat) := by
  unfold rhoW at h
  split at h
  · rename_i hc; cases h; exact ⟨hc.1, hc.2, rfl⟩
  · cases h
theorem laid_vars {P : Program} {w : World} : ∀ {L : List (String × DataW Unit)} {ps : List MemPlace}, DataW.LaidVars P w L ps → ∀ x ∈ L, ∃ g t cs fuel p, P.globalNamed x.1 = some g ∧ (P.globals[g]?).map (·.type) = some t ∧ w.var? P x.1 = some cs ∧ DataW.trod (fun _ => ()) P w 0 (fun _ => true) false fuel t cs.toList = some (x.2, p) ∧ ∀ y ∈ MemPlace.row ⟨g, 0, none⟩ cs.size, y ∈ ps := by
  intro L
  induction L with
  | nil => intro ps _ x hx; simp at hx
  | cons y L ih =>
    intro ps h x hx
    obtain ⟨n, d⟩ := y
    obtain ⟨g, t, cs, fuel, p, q, h1, h2, h3, h4, h5, rfl⟩ := h
    rcases List.mem_cons.1 hx with rfl | hx
    · exact ⟨g, t, cs, fuel, p, h1, h2, h3, h4, fun y hy => by simp [hy]⟩
    · obtain ⟨g', t', cs', fuel', p', a1, a2, a3, a4, a5⟩ := ih h5 x hx
      exact ⟨g', t', cs', fuel', p', a1, a2, a3, a4, fun y hy => List.mem_append_right _ (a5 y hy)⟩
theorem laid_rel {P : Program} {w : World} {L : List (String × DataW Unit)} (hw : P.globals.size < w.heap.size) (hL : laidMet P L w) : Rel (rhoW P.globals.size w) (hpL P L).look w := by
  obtain ⟨ps, hv, _, hc⟩ := hL
  refine ⟨fun f F hF => ?_, fun f F e x f' F' e' x' _ _ h1 h2 h3 => ?_, fun f e x hx => ?_⟩
  · rcases lay_look L _ f F hF with h0 | ⟨x, hx, ⟨g, gl, l, h1, h2, rfl, h3, rfl⟩⟩
    · have : (PT.lf : PT Fam).look f = some F := h0
      rw [look_lf] at this; cases this
    obtain ⟨g', t, cs, fuel, p, a1, a2, a3, a4, a5⟩ := laid_vars hv x hx
    rw [h1] at a1; cases a1
    rw [h2] at a2; cases a2
    have hcells : CellsR (rhoW P.globals.size w) l cs.toList := flatD_ok 30 fuel gl.type cs.toList x.2 p l a4 h3
    have hg : g < P.globals.size := (Array.getElem?_eq_some_iff.1 h2).1
    obtain ⟨el, fz, hb⟩ : ∃ el fz, w.heap[g]? = some (.cells cs el fz) := by
      unfold World.var? at a3
      rw [h1] at a3
      simp only [Option.bind_some] at a3
      split at a3
      · cases a3; exact ⟨_, _, by assumption⟩
      · cases a3
    have hsz : sizeAt w g = cs.size := by unfold sizeAt; rw [hb]
    have hlen : l.length = cs.size := by have := hcells.1.length; simpa using this
    have hrows : ∀ row ∈ (l.map fun v => [v]), row.length = 1 := by intro row hr; obtain ⟨v, _, rfl⟩ := List.mem_map.1 hr; rfl
    refine ⟨rowsIn_ok _ _ 0 ⟨rfl, fun p row hp => by rw [look_lf] at hp; cases hp⟩ hrows, ⟨_, by unfold rhoW; rw [toNat_ofNat, if_pos ⟨rfl, Nat.le_of_lt hg⟩]⟩, fun e y hy => by rw [(rhoW_some hy).1]; exact Nat.le_refl _, fun m hm => (by cases hm), fun _ e y hy => ?_⟩
    obtain ⟨rfl, _, rfl⟩ := rhoW_some hy
    rw [toNat_ofNat, hsz]
    refine ⟨⟨cs, el, fz, hb, rfl, ?_⟩, fun i v hi _ => ?_⟩
    · by_cases h0 : cs.size = 0
      · right; rw [h0]; exact Nat.zero_le _
      · have hm : MemPlace.cell g 0 ∈ ps := a5 _ (by
          unfold MemPlace.row
          exact List.mem_map.2 ⟨0, by simp; omega, rfl⟩)
        obtain ⟨⟨c, t, h9⟩, _⟩ := hc g 0 hm
        rw [hb] at h9; cases h9
        exact .inl rfl
    · show CellR _ w g (0 + i) v
      rw [Nat.zero_add]
      have hi' : (Body.arr (rowsIn (l.map fun v => [v]) .lf 0) 1 l.length [.bad]).cell? i = some v := hi
      have hlt : i < 1 * l.length := by
        simp only [Body.cell?] at hi'
        split at hi'
        · assumption
        · cases hi'
      have hlt2 : i < l.length := by omega
      rw [cell_arr_row hlt, Nat.div_one, rowsIn_look, if_pos ⟨Nat.zero_le _, by rw [List.length_map, Nat.zero_add]; exact hlt2⟩, Nat.sub_zero, List.getElem?_map, List.getElem?_eq_getElem hlt2, Nat.mod_one] at hi'
      have hv' : l[i]? = some v := by
        rw [List.getElem?_eq_getElem hlt2]; exact hi'
      obtain ⟨u, b1, b2⟩ := hcells.1.get hv'
      refine ⟨u, ?_, b2, hcells.2 u (List.mem_of_getElem? b1)⟩
      rw [cell_cells hb]; simpa using b1
  · obtain ⟨_, _, rfl⟩ := rhoW_some h1
    obtain ⟨_, _, rfl⟩ := rhoW_some h2
    exact ⟨Pth.toNat_inj h3, rfl⟩
  · obtain ⟨_, h2, rfl⟩ := rhoW_some hx
    show f.toNat < _; omega
theorem laid_ro {P : Program} {L : List (String × DataW Unit)} {f : Pth} {F : Fam} (h : (hpL P L).look f = some F) : big < F.old := by
  rcases lay_look L _ f F h with h0 | ⟨x, hx, ⟨g, gl, l, h1, h2, rfl, h3, rfl⟩⟩
  · have : (PT.lf : PT Fam).look f = some F := h0
    rw [look_lf] at this; cases this
  · exact Nat.lt_succ_self _
end Go.Am

namespace Go.Am
open Go Go.RowKit

/-! ### A closed call -/
theorem all_ops {P : Program} (N T : Nat) (o : Oper) : OpG P N T o := (spec o).toG
theorem calls_ok {P : Program} (hm : P.follows .mixedOrders = true) (nm : Nat → Nat) (n d : Nat) : CallOk P (call P nm n d) :=
  call_ok (fun _ _ o => all_ops _ _ o) (fun _ _ ops => draw_ok hm (fun o => spec o) ops) xt_ok nm n d
noncomputable def run0 (P : Program) (nm : Nat → Nat) (n d f : Nat) (l : List AV) (L : List (String × DataW Unit)) : Out := call P nm n d f l (hpL P L) fun v h => .ok v h
/-- .. in a world that grew from the laid one -/
theorem closed_trG {P : Program} (hm : P.follows .mixedOrders = true) {nm : Nat → Nat} {n d f : Nat} {l : List AV} {L : List (String × DataW Unit)} {v : AV} {h' : Hp} (e : run0 P nm n d f l L = .ok v h') {fn : Func} (hfn : P.funcs[f]? = some fn) (hb : (fn.body.isSome && !(fn.name == "runtime.NumGoroutine")) = true)
    (w w1 : World) (hw : P.globals.size < w.heap.size) (hL : laidMet P L w) (hg : Below w.heap.size w w1) (l' : Array Value) (hl : VRs (rhoW P.globals.size w) l l'.toList) : Calls P f l' w1 fun e w' => ∃ ρ v', e = .returned v' ∧ VR ρ v v' ∧ Below w1.heap.size w1 w' := by
  obtain ⟨v1, h1, e1, n1, H⟩ := calls_ok hm nm n d e
  cases e1
  have hnx : (hpL P L).nx.toNat = P.globals.size + 1 := by unfold hpL; rw [lay_nx]; exact toNat_ofNat (P.globals.size + 1)
  have R0 := laid_rel hw hL
  have R : Rel (rhoW P.globals.size w) (hpL P L).look w1 :=
    ⟨fun f F hF => (R0.fam f F hF).mono (Le.refl _) (fun _ _ h => h) (fun e x hx => hg.block _ (R0.lt f e x hx)), R0.sep, fun f e x hx => Nat.lt_of_lt_of_le (R0.lt f e x hx) hg.size⟩
  have hgl : Gl P (rhoW P.globals.size w) := fun g hg => ⟨_, by unfold rhoW; rw [toNat_ofNat, if_pos ⟨rfl, by omega⟩]⟩
  have hfr : Fresh (rhoW P.globals.size w) (hpL P L) h' := by
    intro f e a b
    cases hx : rhoW P.globals.size w f e with
    | none => rfl
    | some x => obtain ⟨_, h2, _⟩ := rhoW_some hx; omega
  rcases H (rhoW P.globals.size w) w1 l' hl hgl R hfr with ⟨v', w', ρ', h2, _, _⟩ | ⟨_, h2⟩
  · exfalso
    cases hbd : fn.body with
    | none => rw [hbd] at hb; simp at hb
    | some c =>
      have hname : (fn.name == "runtime.NumGoroutine") = false := by
        cases hq : (fn.name == "runtime.NumGoroutine") with
        | false => rfl
        | true => rw [hq] at hb; simp at hb
      simp only [callFunc, Sem.run_bind, program, Sem.run, hfn, Result.andThen_ok, hname, hbd] at h2
      cases h2
  · refine h2.mono fun en w' hr => ?_
    cases en with
    | returned v' =>
      obtain ⟨ρ', a1, a2⟩ := hr
      refine ⟨ρ', v', rfl, a1, a2.os, a2.tape, a2.output, a2.size, fun k hk => a2.frame k hk fun f F e x hF hF2 => ?_⟩
      have := laid_ro hF; omega
    | panicked _ => exact hr.elim
    | outgrown => exact hr.elim
theorem closed_tr {P : Program} (hm : P.follows .mixedOrders = true) {nm : Nat → Nat} {n d f : Nat} {l : List AV} {L : List (String × DataW Unit)} {v : AV} {h' : Hp} (e : run0 P nm n d f l L = .ok v h') {fn : Func} (hfn : P.funcs[f]? = some fn) (hb : (fn.body.isSome && !(fn.name == "runtime.NumGoroutine")) = true)
    (w : World) (hw : P.globals.size < w.heap.size) (hL : laidMet P L w) (l' : Array Value) (hl : VRs (rhoW P.globals.size w) l l'.toList) : Calls P f l' w fun e w' => ∃ ρ v', e = .returned v' ∧ VR ρ v v' ∧ Below w.heap.size w w' :=
  closed_trG hm e hfn hb w w hw hL (Below.refl _ _) l' hl
end Go.Am

namespace Go.Am
open Go Go.RowKit Go.WideShapes Go.ChangeShapes

noncomputable def isTrue : Out → Bool
  | .ok (.bool true) _ => true
  | _ => false
theorem isTrue_ok {o : Out} (h : isTrue o = true) : ∃ h', o = .ok (.bool true) h' := by
  unfold isTrue at h
  split at h
  · exact ⟨_, rfl⟩
  · cases h
/-- a call without arguments that answers true, over variables that are laid -/
theorem closed_true {P : Program} (hm : P.follows .mixedOrders = true) {nm : Nat → Nat} {n d f : Nat} {L : List (String × DataW Unit)} (e : isTrue (run0 P nm n d f [] L) = true) {fn : Func} (hfn : P.funcs[f]? = some fn) (hb : (fn.body.isSome && !(fn.name == "runtime.NumGoroutine")) = true)
    (w : World) (hw : P.globals.size < w.heap.size) (hL : laidMet P L w) : Calls P f #[] w fun e w' => e = .returned (.bool true) ∧ Below w.heap.size w w' := by
  obtain ⟨h', e⟩ := isTrue_ok e
  refine (closed_tr hm e hfn hb w hw hL #[] trivial).mono fun en w' hr => ?_
  obtain ⟨ρ, v', h1, h2, h3⟩ := hr
  have h2 : v' = .bool true := h2
  subst h2
  exact ⟨h1, h3⟩
/-- .. in a world that grew from the laid one -/
theorem closed_trueG {P : Program} (hm : P.follows .mixedOrders = true) {nm : Nat → Nat} {n d f : Nat} {L : List (String × DataW Unit)} (e : isTrue (run0 P nm n d f [] L) = true) {fn : Func} (hfn : P.funcs[f]? = some fn) (hb : (fn.body.isSome && !(fn.name == "runtime.NumGoroutine")) = true)
    (w w1 : World) (hw : P.globals.size < w.heap.size) (hL : laidMet P L w) (hg : Below w.heap.size w w1) : Calls P f #[] w1 fun e w' => e = .returned (.bool true) ∧ Below w1.heap.size w1 w' := by
  obtain ⟨h', e⟩ := isTrue_ok e
  refine (closed_trG hm e hfn hb w w1 hw hL hg #[] trivial).mono fun en w' hr => ?_
  obtain ⟨ρ, v', h1, h2, h3⟩ := hr
  have h2 : v' = .bool true := h2
  subst h2
  exact ⟨h1, h3⟩
theorem laid_none {P : Program} {w : World} : laidMet P [] w := ⟨[], rfl, List.nodup_nil, fun _ _ h => by simp at h⟩
/-- the row of a law: it answers true, and leaves what was there alone -/
theorem law_post {H : Type} {enc : TypeId × Value → H} {P : Program} {f : Func} {s : ChangeSpec} {apart fresh handsOn : Bool} {W W' : World} {args : Array Value} {ds : List (DataW H)} {before : List MemPlace} {t : TypeId}
    (hW : DataW.Whole enc P f.params.toList s.vars apart W args.toList ds [] before) (hv : s.vars = []) (hs : s.fn H (ds ++ []) = { results := [.lit (.bool true)], args := ds }) (ht : f.resultTypes = #[t]) (hb : P.underlying t = some .bool)
    (hargs : DataW.TrodAll enc P W' 0 (fun b => decide (b < W.heap.size)) true f.params.toList args.toList ds before) (hk : Below W.heap.size W W') : s.post enc P f apart fresh handsOn false W args (.bool true) W' := by
  refine ⟨ds, [], before, [], before, [], hW, ?_, ?_, ?_, World.keptBut_mono (fun p hp => ⟨hp, .inr (.inl hp)⟩) (hk.frame (· ∈ before)), fun h => by cases h⟩
  · rw [hs, ht]; exact trodAll_mk1 (shut_bool hb true)
  · rw [hs]; exact hargs
  · rw [hs, hv]; rfl
/-- the package-level variables, and the block behind them, lie in memory -/
theorem globals_lie {P : Program} {w : World} (hsh : w.ShapedOpen P) (hl : Nat.ble (P.globals.size + 1) (begin P (fun _ _ => 0) default).world.heap.size = true) : P.globals.size < w.heap.size := by
  obtain ⟨o, _, h1, _⟩ := hsh.2 P.globals.size (Nat.le_refl _) (Nat.le_of_ble_eq_true hl)
  exact (Array.getElem?_eq_some_iff.1 h1).1
/-- a law without arguments, over variables that are laid -/
theorem law_closed {C : Checked} {os : Os} (started : os.Started) {H : Type} {enc : TypeId × Value → H} {f : FuncId} {fn : Func} {s : ChangeSpec} {laid : List (String × DataW Unit)} {t : TypeId}
    (own : ownKnob C.prog.godebug = none) (noInit : C.prog.inits.idxOf? f = none) (hfn : C.prog.funcs[f]? = some fn) (hp : fn.params = #[]) (hv : s.vars = []) (hs : s.fn H ([] ++ []) = { results := [.lit (.bool true)], args := [] }) (ht : fn.resultTypes = #[t]) (hb : C.prog.underlying t = some .bool)
    (hl : Nat.ble (C.prog.globals.size + 1) (begin C.prog (fun _ _ => 0) default).world.heap.size = true)
    (witness : ∃ (w : World) (tape : Tape) (i : Input), w.os = os ∧ (w.forCall tape i).Shaped C.prog ∧ i.vars = [] ∧ Input.okWide C.prog (w.forCall tape i) .any w.heap.size f i ∧
      ((s.pre enc C.prog fn [] false (w.forCall tape i).memory i.args ∧ laidMetH C.prog laid (w.forCall tape i).memory) ∧ sizedMet enc C.prog fn (OpenSpec.ofChange s) false (w.forCall tape i).memory i.args) ∧ ({} : Assume).holds C.prog (lone (Frame.enter C.prog f i.args .normal) [] (w.forCall tape i)))
    (run : ∀ W : World, C.prog.globals.size < W.heap.size → laidMetH C.prog laid W → Calls C.prog f #[] W fun e W' => e = .returned (.bool true) ∧ Below W.heap.size W W') :
    ReturnsInHanded {} C os f .any (fun w args => (s.pre enc C.prog fn [] false w args ∧ laidMetH C.prog laid w) ∧ sizedMet enc C.prog fn (OpenSpec.ofChange s) false w args) (s.post enc C.prog fn false true false false) := by
  refine returnsInHanded_of_calls own started noInit witness ?_
  intro w tape i _ hsh _ _ hpre _
  obtain ⟨⟨⟨ds, gs, before, hw, _⟩, hL⟩, _⟩ := hpre
  have hw' := DataW.Whole.of_heap (w' := w.forCall tape i) (by rfl) hw
  have hL' : laidMetH C.prog laid (w.forCall tape i) := laidMetH.of_heap (w := (w.forCall tape i).memory) (w' := w.forCall tape i) rfl hL
  have hg := globals_lie hsh hl
  generalize w.forCall tape i = W at *
  have hW := hw'
  obtain ⟨p, q, hA0, hV, rfl, hfz, hnd⟩ := hw'
  rw [hp] at hA0
  obtain ⟨ha, rfl, rfl⟩ := trodAll_none hA0
  rw [hv] at hV
  obtain ⟨rfl, rfl⟩ := trodVars_none hV
  rw [ha] at hW ⊢
  refine (run W hg hL').mono fun e W' ⟨he, hk⟩ => ?_
  subst he
  exact ChangeSpec.post_blind (law_post hW hv hs ht hb (by rw [hp]; exact trodAll_mk0) hk)
/-- what is read stays as it was read -/
theorem trod_all_below {H : Type} {enc : TypeId × Value → H} {P : Program} (lo : laidOutB P = true) {W W' : World} (hb : Below W.heap.size W W') :
    ∀ {ts : List TypeId} {vs : List Value} {ds : List (DataW H)} {ps : List MemPlace}, (ts.all fun t => P.readableRec t && decide (t < P.types.size)) = true → DataW.TrodAll enc P W 0 (fun _ => true) true ts vs ds ps → (∀ x ∈ ps, x.block < W.heap.size) →
      DataW.TrodAll enc P W' 0 (fun b => decide (b < W.heap.size)) true ts vs ds ps := by
  intro ts
  induction ts with
  | nil =>
    intro vs ds ps _ h _
    obtain ⟨rfl, rfl, rfl⟩ := trodAll_nil h
    exact trodAll_mk0
  | cons t ts ih =>
    intro vs ds ps hr h hlt
    rw [List.all_cons, Bool.and_eq_true] at hr
    obtain ⟨v, vs', d, ds', p, q, rfl, rfl, rfl, h1, h2⟩ := trodAll_cons h
    simp only [Bool.and_eq_true, decide_eq_true_eq] at hr
    exact trodAll_cons_mk (Below.trod lo hr.1.1 hr.1.2 h1 hb fun x hx => hlt x (List.mem_append_left _ hx)) (ih (by simpa using hr.2) h2 fun x hx => hlt x (List.mem_append_right _ hx))
/-- the heart of a law's row -/
theorem law_core {C : Checked} {H : Type} {enc : TypeId × Value → H} {f : FuncId} {fn : Func} {s : ChangeSpec} {t : TypeId}
    (hfn : C.prog.funcs[f]? = some fn) (hv : s.vars = []) (hs : ∀ ds : List (DataW H), ds.length = fn.params.size → s.fn H (ds ++ []) = { results := [.lit (.bool true)], args := ds }) (ht : fn.resultTypes = #[t]) (hb : C.prog.underlying t = some .bool)
    (hl : Nat.ble (C.prog.globals.size + 1) (begin C.prog (fun _ _ => 0) default).world.heap.size = true) (lo : laidOutB C.prog = true) (hr : (fn.params.toList.all fun t => C.prog.readableRec t && decide (t < C.prog.types.size)) = true)
    {w : World} {tape : Tape} {i : Input} (hsh : (w.forCall tape i).ShapedOpen C.prog) (hok : Input.okWide C.prog (w.forCall tape i) .any w.heap.size f i) (hpre : s.pre enc C.prog fn [] false (w.forCall tape i).memory i.args)
    (run : ∀ (W : World) (base : Nat) (ds : List (DataW H)) (before : List MemPlace), W = w.forCall tape i → C.prog.globals.size < W.heap.size → (∀ (j : Nat) t v, fn.params[j]? = some t → i.args[j]? = some v → Value.okWide C.prog W .any base t v) →
      DataW.TrodAll enc C.prog W 0 (fun _ => true) true fn.params.toList i.args.toList ds before → Calls C.prog f i.args W fun e W' => e = .returned (.bool true) ∧ Below W.heap.size W W') :
    Calls C.prog f i.args (w.forCall tape i) fun
        | .returned v, w' => s.post enc C.prog fn false true false false (w.forCall tape i).blind i.args v w'.blind
        | _, _ => False := by
  obtain ⟨_, _, _, fn', hfn', _, _, _, _, hval⟩ := hok
  have e : fn' = fn := Option.some.inj (hfn'.symm.trans hfn)
  subst e
  obtain ⟨ds, gs, before, hw, _⟩ := hpre
  have hw' := DataW.Whole.of_heap (w' := w.forCall tape i) (by rfl) hw
  have hg := globals_lie hsh hl
  generalize hWW : w.forCall tape i = W at *
  have hW := hw'
  have hlt : ∀ x ∈ before, x.block < W.heap.size := fun x hx => hW.lt x hx
  obtain ⟨p, q, hA0, hV, rfl, hfz, hnd⟩ := hw'
  rw [hv] at hV
  obtain ⟨rfl, rfl⟩ := trodVars_none hV
  have hlen : ds.length = fn'.params.size := by
    have : ∀ {ts : List TypeId} {vs : List Value} {ds : List (DataW H)} {ps : List MemPlace}, DataW.TrodAll enc C.prog W 0 (fun _ => true) true ts vs ds ps → ds.length = ts.length := by
      intro ts
      induction ts with
      | nil => intro vs ds ps h; obtain ⟨_, rfl, _⟩ := trodAll_nil h; rfl
      | cons t ts ih => intro vs ds ps h; obtain ⟨v, vs', d, ds', p, q, rfl, rfl, rfl, _, h2⟩ := trodAll_cons h; simp [ih h2]
    have := this hA0
    simpa using this
  simp only [List.append_nil] at hlt hW
  refine (run W _ ds p rfl hg hval hA0).mono fun e W' ⟨he, hk⟩ => ?_
  subst he
  exact ChangeSpec.post_blind (law_post hW hv (hs ds hlen) ht hb (trod_all_below lo hk hr hA0 hlt) hk)
/-- a law, over variables that are laid -/
theorem law_any {C : Checked} {os : Os} (started : os.Started) {H : Type} {enc : TypeId × Value → H} {f : FuncId} {fn : Func} {s : ChangeSpec} {laid : List (String × DataW Unit)} {t : TypeId}
    (own : ownKnob C.prog.godebug = none) (noInit : C.prog.inits.idxOf? f = none) (hfn : C.prog.funcs[f]? = some fn) (hv : s.vars = []) (hs : ∀ ds : List (DataW H), ds.length = fn.params.size → s.fn H (ds ++ []) = { results := [.lit (.bool true)], args := ds }) (ht : fn.resultTypes = #[t]) (hb : C.prog.underlying t = some .bool)
    (hl : Nat.ble (C.prog.globals.size + 1) (begin C.prog (fun _ _ => 0) default).world.heap.size = true) (lo : laidOutB C.prog = true) (hr : (fn.params.toList.all fun t => C.prog.readableRec t && decide (t < C.prog.types.size)) = true)
    (witness : ∃ (w : World) (tape : Tape) (i : Input), w.os = os ∧ (w.forCall tape i).Shaped C.prog ∧ i.vars = [] ∧ Input.okWide C.prog (w.forCall tape i) .any w.heap.size f i ∧
      ((s.pre enc C.prog fn [] false (w.forCall tape i).memory i.args ∧ laidMetH C.prog laid (w.forCall tape i).memory) ∧ sizedMet enc C.prog fn (OpenSpec.ofChange s) false (w.forCall tape i).memory i.args) ∧ ({} : Assume).holds C.prog (lone (Frame.enter C.prog f i.args .normal) [] (w.forCall tape i)))
    (run : ∀ (W : World) (base : Nat) (args : Array Value) (ds : List (DataW H)) (before : List MemPlace), C.prog.globals.size < W.heap.size → laidMetH C.prog laid W → (∀ (j : Nat) t v, fn.params[j]? = some t → args[j]? = some v → Value.okWide C.prog W .any base t v) →
      DataW.TrodAll enc C.prog W 0 (fun _ => true) true fn.params.toList args.toList ds before → Calls C.prog f args W fun e W' => e = .returned (.bool true) ∧ Below W.heap.size W W') :
    ReturnsInHanded {} C os f .any (fun w args => (s.pre enc C.prog fn [] false w args ∧ laidMetH C.prog laid w) ∧ sizedMet enc C.prog fn (OpenSpec.ofChange s) false w args) (s.post enc C.prog fn false true false false) := by
  refine returnsInHanded_of_calls own started noInit witness ?_
  intro w tape i _ hsh _ hok hpre _
  have hL' : laidMetH C.prog laid (w.forCall tape i) := laidMetH.of_heap (w := (w.forCall tape i).memory) (w' := w.forCall tape i) rfl hpre.1.2
  exact law_core hfn hv hs ht hb hl lo hr hsh hok hpre.1.1 fun W base ds before hWW hg hval hA => run W base i.args ds before hg (hWW ▸ hL') hval hA
/-- a law, over no variable -/
theorem law_plain {C : Checked} {os : Os} (started : os.Started) {H : Type} {enc : TypeId × Value → H} {f : FuncId} {fn : Func} {s : ChangeSpec} {t : TypeId}
    (own : ownKnob C.prog.godebug = none) (noInit : C.prog.inits.idxOf? f = none) (hfn : C.prog.funcs[f]? = some fn) (hv : s.vars = []) (hs : ∀ ds : List (DataW H), ds.length = fn.params.size → s.fn H (ds ++ []) = { results := [.lit (.bool true)], args := ds }) (ht : fn.resultTypes = #[t]) (hb : C.prog.underlying t = some .bool)
    (hl : Nat.ble (C.prog.globals.size + 1) (begin C.prog (fun _ _ => 0) default).world.heap.size = true) (lo : laidOutB C.prog = true) (hr : (fn.params.toList.all fun t => C.prog.readableRec t && decide (t < C.prog.types.size)) = true)
    (witness : ∃ (w : World) (tape : Tape) (i : Input), w.os = os ∧ (w.forCall tape i).Shaped C.prog ∧ i.vars = [] ∧ Input.okWide C.prog (w.forCall tape i) .any w.heap.size f i ∧
      s.pre6 enc C.prog fn [] false (w.forCall tape i).memory i.args ∧ ({} : Assume).holds C.prog (lone (Frame.enter C.prog f i.args .normal) [] (w.forCall tape i)))
    (run : ∀ (W : World) (base : Nat) (args : Array Value) (ds : List (DataW H)) (before : List MemPlace), C.prog.globals.size < W.heap.size → (∀ (j : Nat) t v, fn.params[j]? = some t → args[j]? = some v → Value.okWide C.prog W .any base t v) →
      DataW.TrodAll enc C.prog W 0 (fun _ => true) true fn.params.toList args.toList ds before → Calls C.prog f args W fun e W' => e = .returned (.bool true) ∧ Below W.heap.size W W') :
    ReturnsInHanded {} C os f .any (s.pre6 enc C.prog fn [] false) (s.post enc C.prog fn false true false false) := by
  refine returnsInHanded_of_calls own started noInit witness ?_
  intro w tape i _ hsh _ hok hpre _
  exact law_core hfn hv hs ht hb hl lo hr hsh hok hpre.1 fun W base ds before _ hg hval hA => run W base i.args ds before hg hval hA
end Go.Am

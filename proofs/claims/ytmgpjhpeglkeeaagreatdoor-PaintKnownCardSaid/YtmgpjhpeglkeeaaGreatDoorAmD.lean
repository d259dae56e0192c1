/- An abstract machine for closed calls, and its soundness over the given model: part D. No condition. -/
import Derived.Test.YtmgpjhpeglkeeaaGreatDoorAmC
import Derived.Test.YtmgpjhpeglkeeaaGreatDoorAmB
import Derived.Lib.BytesEntry
import Derived.Lib.IndexEntry
import Derived.Laws.Externs
import Derived.Lib.MakeNoZero
import Derived.KernelRfl
import Derived.Lib.ReflectliteSlice
import Derived.ChangeArms
import GoSem.ClaimJoined
import Derived.Below
import Derived.ChangeSame
import Derived.HandedShaped
import Derived.Lay
import Derived.MakeChecks
import Derived.Stop.Joined
import Derived.Carry
import Derived.ChangeCalls
import Derived.OpenShut
import Derived.Lib.Repeat
import Derived.Deep.DeepHandedRow
import Derived.LaidLaws
set_option linter.unusedSimpArgs false
set_option linter.unusedVariables false
namespace Go.Am
open Go

theorem cell_of_heap {w w' : World} {b i : Nat} (h : w'.heap[b]? = w.heap[b]?) : w'.cell? ⟨b, i, none⟩ = w.cell? ⟨b, i, none⟩ := by unfold World.cell?; rw [h]
theorem cell_cells {w : World} {b i : Nat} {c : Array Value} {el : Nat} {fz : Nat × Nat} (h : w.heap[b]? = some (.cells c el fz)) : w.cell? ⟨b, i, none⟩ = c[i]? := by unfold World.cell?; rw [h]; simp
theorem keepE_ok {e t k : Nat} (h : keepE e t = k + 1) : e = k + 1 ∧ t = k := by
  unfold keepE at h
  cases hb : Nat.beq e (Nat.succ t) with
  | false => rw [hb] at h; cases h
  | true =>
    rw [hb] at h
    have h1 : e = t + 1 := Nat.eq_of_beq_eq_true hb
    have h2 : e = k + 1 := h
    exact ⟨h2, by omega⟩
/-- append in its own place -/
theorem Rel.appRoom {ρ : Rho} {h : Hp} {w : World} (R : Rel ρ h.look w) {q : Pth} {F : Fam} (hq : h.look q = some F) (hwr : F.old ≤ big) (hm : F.body.isMap = false) {ep : Nat} {x : Nat × Nat × Nat} (hx : ρ q ep = some x)
    {off el : Nat} {l : List AV} {b' : Body} (S : AppSpec F.body off l b') (ho : ep = F.ep ∨ off ≤ F.old) {vs : List Value} (hv : CellsR ρ l vs) (hfit : x.2.1 + off + vs.length ≤ x.2.2) (hel : ∀ k, el = k + 1 → F.elem = k + 1) :
    (∀ P : Program, (storeCells ⟨x.1, x.2.1 + off, none⟩ vs).run P w = .ok () (w.setCells x.1 (x.2.1 + off) vs)) ∧
    Tr ρ h w (upd1 ρ q (F.ep + 1) x) (putFam h q (some ⟨el, F.ep + 1, min F.old off, b'⟩)) (w.setCells x.1 (x.2.1 + off) vs) := by
  have FR := R.fam q F hq
  have hblk := (FR.arr hm _ _ hx).1
  obtain ⟨c, elt, fz, c1, c2, c3⟩ := hblk
  have hsome : ∀ j, j < vs.length → (w.cell? ⟨x.1, x.2.1 + off + j, none⟩).isSome = true := by
    intro j hj
    rw [cell_cells c1, Array.getElem?_eq_getElem (by omega)]; rfl
  have hfro : ∀ j, j < vs.length → w.frozen? ⟨x.1, x.2.1 + off + j, none⟩ = false := by
    intro j hj
    obtain ⟨u, hu⟩ := Option.isSome_iff_exists.1 (hsome j hj)
    exact (frozen_blk ⟨c, elt, fz, c1, c2, c3⟩ hu).1
  have hrest := setCells_rest x.1 vs (x.2.1 + off) w
  refine ⟨fun P => run_storeCells_cells (P := P) x.1 (x.2.1 + off) vs 0 w hsome hfro hv.2, ?_⟩
  refine R.epoch hq hwr S.ok S.map (fun i v hi => ?_) (blk_setCells _ _ _ ⟨c, elt, fz, c1, c2, c3⟩) (fun e y hy => ⟨blk_setCells _ _ _ (FR.arr hm e y hy).1, fun i v hi hio => ?_⟩)
    (fun k hk => ⟨fun e y hy => by obtain ⟨h1, h2⟩ := FR.el k (hel k hk) hwr e y hy; exact ⟨h1, el_setCells _ _ _ h2⟩, by obtain ⟨h1, h2⟩ := FR.el k (hel k hk) hwr ep x hx; exact ⟨h1, el_setCells _ _ _ h2⟩⟩)
    (fun k _ hk => heap_setCells_other _ _ _ _ _ hk) (.inr ⟨ep, x, hx, rfl, rfl⟩) (by rw [setCells_size]; exact Nat.le_refl _) hrest.1 hrest.2.1 hrest.2.2
  · rcases S.cell i v hi with ⟨h1, h2⟩ | ⟨h1, h2⟩
    · obtain ⟨u, a1, a2, a3⟩ := R.read hq hm hx h2 (ho.imp id fun h => by omega)
      refine ⟨u, ?_, a2, a3⟩
      rw [World.cell?_setCells_out, a1]
      intro _ _
      left; show x.2.1 + i < x.2.1 + off; omega
    · obtain ⟨u, a1, a2⟩ := hv.1.get h2
      have hj : i - off < vs.length := (List.getElem?_eq_some_iff.1 a1).1
      refine ⟨u, ?_, a2, hv.2 u (List.mem_of_getElem? a1)⟩
      have := World.cell?_setCells_in x.1 vs (x.2.1 + off) w hsome (i - off) hj
      rw [show x.2.1 + i = x.2.1 + off + (i - off) by omega, this, ← a1, List.getElem?_eq_getElem hj]
  · rcases S.cell i v hi with ⟨h1, h2⟩ | ⟨h1, h2⟩
    · obtain ⟨u, a1, a2, a3⟩ := R.read hq hm hy h2 (.inr (by omega))
      refine ⟨u, ?_, a2, a3⟩
      rw [World.cell?_setCells_out, a1]
      intro hb _
      have := (R.sep q F e y q F ep x hq hq hy hx hb).2
      left; show y.2.1 + i < x.2.1 + off; omega
    · omega
/-- append in a new place -/
theorem Rel.appGrow {ρ : Rho} {h : Hp} {w w0 : World} (R : Rel ρ h.look w) {q : Pth} {F : Fam} (hq : h.look q = some F) (hwr : F.old ≤ big) (hm : F.body.isMap = false)
    {off el elt : Nat} {l : List AV} {b' : Body} (S : AppSpec F.body off l b') {lo : List AV} (hlo : lo.length = off) (hlc : ∀ (i : Nat) v, i < off → F.body.cell? i = some v → lo[i]? = some v) {olds news : List Value} (hov : CellsR ρ lo olds) (hv : CellsR ρ l news) {zs : Array Value}
    (hw : w0.heap = w.heap) (hos : w0.os = w.os) (ht : w0.tape = w.tape) (hout : w0.output = w.output) (hel : ∀ k, el = k + 1 → F.elem = k + 1 ∧ elt = k) :
    Tr ρ h w (upd1 ρ q (F.ep + 1) (w.heap.size, 0, (olds.toArray ++ news.toArray ++ zs).size)) (putFam h q (some ⟨el, F.ep + 1, min F.old off, b'⟩)) (w0.alloc (.cells (olds.toArray ++ news.toArray ++ zs) elt)) := by
  have FR := R.fam q F hq
  have hsz : w0.heap.size = w.heap.size := by rw [hw]
  have hnew : (w0.alloc (.cells (olds.toArray ++ news.toArray ++ zs) elt)).heap[w.heap.size]? = some (.cells (olds.toArray ++ news.toArray ++ zs) elt) := by rw [← hsz]; exact alloc_new w0 _
  have hold : ∀ k, k < w.heap.size → (w0.alloc (.cells (olds.toArray ++ news.toArray ++ zs) elt)).heap[k]? = w.heap[k]? := fun k hk => by rw [alloc_old w0 _ k (by omega), hw]
  have hol : olds.length = off := by have := hov.1.length; omega
  refine R.epoch hq hwr (x := (w.heap.size, 0, (olds.toArray ++ news.toArray ++ zs).size)) S.ok S.map (fun i v hi => ?_) ⟨_, _, _, hnew, rfl, .inl rfl⟩ (fun e y hy => ?_)
    (fun k hk => ⟨fun e y hy => by obtain ⟨h1, c, fz, h2⟩ := FR.el k (hel k hk).1 hwr e y hy; exact ⟨h1, c, fz, (hold _ (R.lt q e y hy)).trans h2⟩, rfl, by obtain ⟨_, h2⟩ := hel k hk; subst h2; exact ⟨_, _, hnew⟩⟩) (fun k hk _ => hold k hk)
    (.inl ⟨Nat.le_refl _, by rw [World.size_alloc]; show w.heap.size < _; omega⟩) (by rw [World.size_alloc]; omega) hos ht hout
  · show CellR ρ _ w.heap.size (0 + i) v
    rw [Nat.zero_add]
    rcases S.cell i v hi with ⟨h1, h2⟩ | ⟨h1, h2⟩
    · obtain ⟨u, a1, a2⟩ := hov.1.get (hlc i v h1 h2)
      refine ⟨u, ?_, a2, hov.2 u (List.mem_of_getElem? a1)⟩
      have hi2 : i < olds.length := by omega
      rw [cell_cells hnew, Array.getElem?_append_left (by simp; omega), Array.getElem?_append_left (by simpa using hi2), List.getElem?_toArray]; exact a1
    · obtain ⟨u, a1, a2⟩ := hv.1.get h2
      have hj : i - off < news.length := (List.getElem?_eq_some_iff.1 a1).1
      refine ⟨u, ?_, a2, hv.2 u (List.mem_of_getElem? a1)⟩
      rw [cell_cells hnew, Array.getElem?_append_left (by simp; omega), Array.getElem?_append_right (by simp; omega), List.getElem?_toArray, List.size_toArray, hol]; exact a1
  · have hlt := R.lt q e y hy
    obtain ⟨a1, a2⟩ := FR.arr hm e y hy
    refine ⟨a1.mono (hold _ hlt), fun i v hi hio => ?_⟩
    rcases S.cell i v hi with ⟨h1, h2⟩ | ⟨h1, h2⟩
    · exact (a2 i v h2 (.inr (by omega))).mono (Le.refl ρ) (hold _ hlt)
    · omega
section
variable {P : Program} {N T : Nat} {o : Oper} {f : Call_ → Env → Fr → Hp → (AV → Hp → Out) → Out} {call : Call_} {env : Env} {fr : Fr} {h : Hp} {k : AV → Hp → Out} {r : AV} {hF : Hp}
theorem drew_facts (w : World) : w.drew.heap = w.heap ∧ w.drew.os = w.os ∧ w.drew.tape = w.tape ∧ w.drew.output = w.output := ⟨rfl, rfl, rfl, rfl⟩
/-- what is asked of the new elements -/
structure NewR (P : Program) (h : Hp) (byte : Bool) (es : Nat) (s x : AV) (m n : Nat) (rows : List (List AV)) (xs : List UInt8) : Prop where
  src : SrcOk P h x es m (if byte then xs.map fun x => AV.int .u8 (Int.ofNat x.toNat) else rows.flatten)
  n : byte = true → n = leNat xs ∧ xs.length = m
  rows : byte = false → ∀ ρ w x', VR ρ x x' → Rel ρ h.look w → rows.length = m ∧ ∀ row ∈ rows, row.length = es
  len : lenAV x = some m
theorem ok_append {t u : Nat} {ts : List Nat} {x y : Operand} {c : Call} (ho : o.op = .call c) (hc : c.callee = .builtin .append) (ha : c.args.toList = [x, y]) (ht : c.argTypes.toList = t :: u :: ts) (hf : opC P N o.op = .mk f) (e : f call env fr h k = .ok r hF) : GreatR P N T o env fr h k r hF := by
  rw [ho] at hf
  have hf1 : callC P N c = .mk f := hf
  unfold callC at hf1
  rw [hc] at hf1
  simp only [ha, ht] at hf1
  have hty : c.argTypes[0]? = some t := by rw [← Array.getElem?_toList, ht]; rfl
  have htu : c.argTypes[1]? = some u := by rw [← Array.getElem?_toList, ht]; rfl
  cases hel : elemT P t with
  | none => simp only [hel] at hf1; cases hf1; cases e
  | some el =>
    simp only [hel] at hf1
    obtain ⟨U, hU⟩ : ∃ U, P.underlying u = U := ⟨_, rfl⟩
    have : ∃ D, U = some D ∧ (∀ k, D ≠ .int k) ∧ op2 (opdC P N x) (opdC P N y) (appC P el) = .mk f := by
      rw [hU] at hf1
      cases U with
      | none => cases hf1; cases e
      | some D =>
        cases D with
        | int kk => cases hf1; cases e
        | _ => exact ⟨_, rfl, fun k => by simp, hf1⟩
    obtain ⟨D, rfl, hDi, hf2⟩ := this
    obtain ⟨s, v, e1, hsv⟩ := op2_ok hf2 e
    have hu := elemT_ok hel
    have hrun : ∀ (a : Act) (w w' : World) (z : Value) (s' : Value), a.eval x = s' → (Builtin.append_ c.argTypes o.type #[s', a.eval y]).run P w = .ok z w' → (execOp a.eval o).run P w = .ok (.value z) w' := by
      intro a w w' z s' hx hr
      obtain ⟨cs, he⟩ := exec_builtin (P := P) a ho hc w
      rw [he, args2 ha, hx]
      simp only [builtin, Sem.run_bind, hr, Result.andThen_ok, Sem.run_pure]
    unfold appC at e1
    cases hlo : lenOk P el with
    | false => simp only [hlo] at e1; cases e1
    | true =>
      obtain ⟨i, z, hi, hz, hcs, hzl, hpos, hcz, hby⟩ := len_ok hlo
      have hzs : z.cells.size = P.cellsOf el := by have := (hcz (fun _ _ => none)).1.length; simp at this; omega
      have hbt : bytesT P el = i.bytes := by unfold bytesT; rw [hi]
      -- nothing to append
      have none_ : ∀ sl, ((∃ q o l' ep es, s = .slc q o l' ep es ∧ sl = l') ∨ (s = .nsl ∧ sl = 0)) → lenAV v = some 0 → k s h = .ok r hF → GreatR P N T o env fr h k r hF := by
        intro sl hd hs e2
        refine ⟨_, _, e2, Nat.le_refl _, Runs1.toG fun ρ a w cx R => ?_⟩
        obtain ⟨h1, h2⟩ := hsv ρ a cx
        obtain ⟨base, sc, hxe⟩ := slice_of hd h1
        have hle : sl ≤ sc := by
          rcases hd with ⟨q, o', l', ep, es, rfl, rfl⟩ | ⟨rfl, rfl⟩
          · obtain ⟨b, ba, cs, cap, _, ⟨hh, h5, _⟩ | ⟨h0, _, hh⟩⟩ := h1
            · rw [hxe] at hh; cases hh; exact h5
            · omega
          · exact Nat.zero_le _
        have hcr := app_room (P := P) (ats := c.argTypes) (ty := o.type) hty htu hu hU hDi hi (base := base) (sl := sl) (sc := sc) (n := 0) (x := a.eval y) (w := w) (w' := w) (vs := []) (lenOf_run hs h2 w) hle (first_none hs h2 _ w) (by cases base <;> rfl)
        rw [Nat.add_zero] at hcr
        exact ⟨a.eval x, h1, hrun a w w _ _ rfl (by rw [hxe]; exact hcr)⟩
      -- something
      have some_ : ∀ (byte : Bool) (es m n sl : Nat) (rows : List (List AV)) (xs : List UInt8) (zl : List AV), es = P.cellsOf el → zl = zeroL P el → (byte = true → es = 1) → NewR P h byte es s v m n rows xs → 0 < m → (∀ l, lenAV s = some l → l = sl) →
          (sl + m) * i.bytes ≤ 140737488355328 → sl + m ≤ 1099511627776 → appK byte el es zl s m n rows h k = .ok r hF → GreatR P N T o env fr h k r hF := by
        intro byte es m n sl rows xs zl hes hzle hb1 hN hm0 hsl hfit h40 e2
        have hes1 : 1 ≤ es := by omega
        cases s with
        | slc q off sl' ep es' =>
          have hsl' : sl' = sl := hsl _ rfl
          subst hsl'
          obtain ⟨hee, e3⟩ := bc_ok (show bc (Nat.beq es es') (famK h q ep off (Nat.mul sl' es) fun fam => Nat.rec (motive := fun _ => Bool → Fam → Pth → Nat → Nat → Nat → Nat → Nat → List (List AV) → Hp → (AV → Hp → Out) → Out)
             (fun byte fam f slen t es m n rows h k => Fam.rec (motive := fun _ => Nat → Bool → Pth → Nat → Nat → Nat → Nat → List (List AV) → Hp → (AV → Hp → Out) → Out) (fun e ep old b t byte f slen es m n rows h k => bc (Nat.ble old big) (appBody byte es b slen m n rows old fun b old => natK (Nat.succ ep) fun ep => natK (Nat.add slen m) fun l => natK (keepE e t) fun e => k (.slc f 0 l ep es) (putFam h f (some (.mk e ep old b)))) (.no 116)) fam t byte f slen es m n rows h k)
             (fun _ _ _ _ _ _ _ _ _ _ _ _ _ => .no 71) off byte fam q sl' el es m n rows h k) (.no 72) = .ok r hF from e2)
          have hee := Nat.eq_of_beq_eq_true hee
          subst hee
          obtain ⟨F, hq, hep, e4⟩ := famK_ok e3
          cases off with
          | succ off => cases e4
          | zero =>
            obtain ⟨fe, fep, fold_, fb⟩ := F
            obtain ⟨hwr, e4⟩ := bc_ok (show bc (Nat.ble fold_ big) (appBody byte es fb sl' m n rows fold_ (fun b old => natK (Nat.succ fep) fun ep => natK (Nat.add sl' m) fun l => natK (keepE fe el) fun fe => k (.slc q 0 l ep es) (putFam h q (some (.mk fe ep old b))))) (.no 116) = .ok r hF from e4)
            have hwr : fold_ ≤ big := Nat.le_of_ble_eq_true hwr
            obtain ⟨hmap, b', e5, S⟩ := appBody_ok (xs := xs) hes1 hb1 e4 hN.n
            rw [natK_eq, natK_eq, natK_eq] at e5
            refine ⟨_, _, e5, by rw [nx_put]; exact Nat.le_refl _, fun {ro} ρ a w next Q har R _ hn => ?_⟩
            obtain ⟨h1, h2⟩ := hsv ρ a har.cx
            have hbok := (R.fam q _ hq).bok
            have S := S hbok fun hb => hN.rows hb ρ w _ h2 R
            obtain ⟨vs, v1, v2, v3⟩ := hN.src ρ w _ h2 R
            have hl0 := lenOf_run (P := P) hN.len h2 w
            obtain ⟨b, ba, cs, cap, hr, hxe⟩ := h1
            -- the new place
            have growing : ∀ base cap, a.eval x = .slice base sl' cap → (∃ olds lo, CellsR ρ lo olds ∧ lo.length = sl' * es ∧ (∀ (i : Nat) v, i < sl' * es → fb.cell? i = some v → lo[i]? = some v) ∧ (Builtin.firstCells (P.cellsOf el) sl' (.slice base sl' cap)).run P w.drew = .ok olds.toArray w.drew) → cap < sl' + m → o.wpIn (wideR ro) 0 P a w next Q := by
              intro base cap hxe ⟨olds, lo, o1, o2, o3, o4⟩ hg
              obtain ⟨d1, d2, d3, d4⟩ := drew_facts w
              obtain ⟨vs2, v1, v2, v3⟩ := hN.src ρ w.drew _ h2 (R.world d1)
              have hcr := app_grow (P := P) (ats := c.argTypes) (ty := o.type) hty htu hu hU hDi hi hz (base := base) (sl := sl') (sc := cap) (n := m) (x := a.eval y) (w := w) (olds := olds) (news := vs2) hl0 hg (by omega) hfit o4 (by rw [← hes]; exact v3)
              have hT := R.appGrow hq hwr hmap (el := keepE fe el) (elt := el) S o2 o3 o1 v1 (w0 := w.drew) (zs := Builtin.zeroCells z.cells (grownCap w (sl' + m) cap el - (sl' + m))) d1 d2 d3 d4 (fun k hk => keepE_ok hk)
              refine value_wp (hrun a w _ _ _ hxe hcr) (hn _ _ _ ?_ hT)
              refine ⟨w.heap.size, 0, _, grownCap w (sl' + m) cap el, upd1_same _ _ _ _, .inl ⟨rfl, grownCap_ge _ _ _ _, ?_⟩⟩
              have hge := grownCap_ge w (sl' + m) cap el
              have hol : olds.length = sl' * es := by have := o1.1.length; omega
              simp only [Array.size_append, List.size_toArray, size_zeroCells, hzs, hol, v2, ← hes]
              have : grownCap w (sl' + m) cap el = sl' + m + (grownCap w (sl' + m) cap el - (sl' + m)) := by omega
              rw [Nat.zero_add]
              show grownCap w (sl' + m) cap el * es ≤ _
              conv => lhs; rw [this, Nat.add_mul, Nat.add_mul]
              exact Nat.le_refl _
            rcases hxe with ⟨hxe, hlc, hcc⟩ | ⟨h0, ad, hxe⟩
            · by_cases hroom : sl' + m ≤ cap
              · have hvl : vs.length = m * es := v2
                have hin : ba + sl' * es + vs.length ≤ cs := by
                  rw [hvl]
                  have h4 := Nat.mul_le_mul_right es hroom
                  rw [Nat.add_mul] at h4
                  omega
                obtain ⟨s1, s2⟩ := R.appRoom hq hwr hmap hr (el := keepE fe el) S (hep.imp id fun h => by simpa using h) v1 hin (fun k hk => (keepE_ok hk).1)
                have hcr := app_room (P := P) (ats := c.argTypes) (ty := o.type) hty htu hu hU hDi hi (base := some ⟨b, ba + 0, none⟩) (sl := sl') (sc := cap) (n := m) (x := a.eval y) (w := w) (w' := w.setCells b (ba + sl' * es) vs) (vs := vs) hl0 hroom (by rw [← hes]; exact v3)
                  (by simp only; rw [add_addr, Nat.add_zero, ← hes]; exact s1 P)
                refine value_wp (hrun a w _ _ _ hxe hcr) (hn _ _ _ ?_ s2)
                exact ⟨b, ba, cs, cap, upd1_same _ _ _ _, .inl ⟨rfl, hroom, hcc⟩⟩
              · refine growing _ _ hxe ?_ (by omega)
                have hRow : RowAt fb (sl' * es) 0 ((List.range (sl' * es)).map fun i => (fb.cell? i).getD .bad) := by
                  refine ⟨by simp, .inr hmap, fun j v hj => ?_⟩
                  rw [List.getElem?_map] at hj
                  by_cases hjl : j < sl' * es
                  · rw [List.getElem?_range hjl] at hj
                    obtain ⟨u', hu'⟩ := Option.isSome_iff_exists.1 (S.has j hjl)
                    rw [Nat.zero_add]; rw [Option.map_some, hu'] at hj; cases hj; exact hu'
                  · rw [List.getElem?_eq_none (by simp; omega)] at hj; cases hj
                obtain ⟨olds, c1, c2, c3⟩ := (R.world (drew_facts w).1).cells (w := w.drew) hq hr hRow hep
                have hol : olds.length = sl' * es := by have := c1.length; simp at this; omega
                refine ⟨olds, _, ⟨c1, c2⟩, by simp, fun j v hj hv => ?_, ?_⟩
                · rw [List.getElem?_map, List.getElem?_range hj, Option.map_some, hv]; rfl
                · refine run_firstCells_some (P := P) w.drew (P.cellsOf el) sl' _ sl' cap olds (by rw [← hes]; exact hol) fun j v hj => by rw [add_addr]; exact c3 j v hj
            · refine growing (some ad) 0 (by rw [hxe, h0]) ?_ (by omega)
              exact ⟨[], [], ⟨trivial, fun u hu => by simp at hu⟩, by rw [h0]; simp, fun i v hi => by rw [h0] at hi; simp at hi, by rw [h0]; exact first_zero⟩
        | nsl =>
          have h0 : 0 = sl := hsl _ rfl
          subst h0
          have e3 := newFam_ok (show newFam h (Nat.succ el) (mkBody byte es zl m n rows) (fun f h => k (.slc f 0 m 0 es) h) = .ok r hF from e2)
          refine ⟨_, _, e3, (by show _ ≤ (Pth.succ h.nx).toNat; rw [Pth.toNat_succ]; omega), fun ρ a w next Q har R K hn => ?_⟩
          obtain ⟨h1, h2⟩ := hsv ρ a har.cx
          have h1 : a.eval x = .slice none 0 0 := h1
          obtain ⟨d1, d2, d3, d4⟩ := drew_facts w
          obtain ⟨vs, v1, v2, v3⟩ := hN.src ρ w.drew _ h2 (R.world d1)
          have hl0 := lenOf_run (P := P) hN.len h2 w
          have hcr := app_grow (P := P) (ats := c.argTypes) (ty := o.type) hty htu hu hU hDi hi hz (base := none) (sl := 0) (sc := 0) (n := m) (x := a.eval y) (w := w) (olds := []) (news := vs) hl0 (by omega) (by omega) hfit (run_firstCells_none (P := P) w.drew (P.cellsOf el) 0 0 0) (by rw [← hes]; exact v3)
          have hS : ∃ b0, AppSpec b0 0 (if byte then xs.map fun x => AV.int .u8 (Int.ofNat x.toNat) else rows.flatten) (mkBody byte es zl m n rows) := by
            cases byte with
            | true =>
              obtain ⟨rfl, rfl⟩ := hN.n rfl
              have := app_byt [] xs (slen := 0) (Nat.zero_le _)
              rw [Nat.zero_add] at this
              exact ⟨_, this⟩
            | false =>
              obtain ⟨r1, r2⟩ := hN.rows rfl ρ w _ h2 R
              have := app_arr (t := .lf) (es := es) (len := 0) (z := zl) ⟨by rw [hzle, hzl, ← hcs, hes], fun p row hp => by rw [look_lf] at hp; cases hp⟩ hes1 (slen := 0) (Nat.le_refl _) r1 r2
              rw [Nat.zero_add, Nat.zero_mul] at this
              exact ⟨_, this⟩
          obtain ⟨b0, S⟩ := hS
          have hN2 : NewOk ρ (.cells (([] : List Value).toArray ++ vs.toArray ++ Builtin.zeroCells z.cells (grownCap w (0 + m) 0 el - (0 + m))) el) (([] : List Value).toArray ++ vs.toArray ++ Builtin.zeroCells z.cells (grownCap w (0 + m) 0 el - (0 + m))).size (el + 1) (mkBody byte es zl m n rows) := by
            refine ⟨S.ok, .inr ⟨S.map, _, _, _, rfl, .inl rfl, rfl, fun i v hi => ?_⟩, fun k hk => by cases hk; exact ⟨_, _, rfl⟩⟩
            rcases S.cell i v hi with ⟨a1, _⟩ | ⟨_, a2⟩
            · omega
            · rw [Nat.sub_zero] at a2
              obtain ⟨u, b1, b2⟩ := v1.1.get a2
              have hj : i < vs.length := (List.getElem?_eq_some_iff.1 b1).1
              refine ⟨u, ?_, b2, v1.2 u (List.mem_of_getElem? b1)⟩
              rw [Array.getElem?_append_left (by simp; omega), Array.getElem?_append_right (by simp)]
              simpa using b1
          have hT := R.alloc (w0 := w.drew) d1 d2 d3 d4 (el := el + 1) K hN2
          refine value_wp (hrun a w _ _ _ h1 hcr) (hn _ _ _ ?_ hT)
          refine ⟨w.heap.size, 0, _, grownCap w (0 + m) 0 el, upd1_same _ _ _ _, .inl ⟨by rw [Nat.zero_add], by have := grownCap_ge w (0 + m) 0 el; omega, ?_⟩⟩
          have hge := grownCap_ge w (0 + m) 0 el
          simp only [Array.size_append, List.size_toArray, size_zeroCells, hzs, v2, ← hes]
          have : grownCap w (0 + m) 0 el = m + (grownCap w (0 + m) 0 el - (0 + m)) := by omega
          rw [Nat.zero_add]
          show grownCap w (0 + m) 0 el * es ≤ _
          conv => lhs; rw [this, Nat.add_mul]
          simp
        | _ => cases e2
      have two : ∀ {B : Nat → Nat → Out}, (s.lenS fun sl => v.lenK fun m => bc (Bool.rec false (Nat.ble (Nat.mul (Nat.add sl m) (bytesT P el)) 140737488355328) (Nat.ble (Nat.add sl m) 1099511627776)) (B sl m) (.no 120)) = .ok r hF →
          (∀ sl, B sl 0 = .ok r hF → k s h = .ok r hF) → (∀ sl m, (∀ l, lenAV s = some l → l = sl) → lenAV v = some m → 0 < m → (sl + m) * i.bytes ≤ 140737488355328 → sl + m ≤ 1099511627776 → B sl m = .ok r hF → GreatR P N T o env fr h k r hF) → GreatR P N T o env fr h k r hF := by
        intro B e2 B0 H
        have : ∃ sl, ((∃ q o l' ep es, s = .slc q o l' ep es ∧ sl = l') ∨ (s = .nsl ∧ sl = 0)) ∧ (v.lenK fun m => bc (Bool.rec false (Nat.ble (Nat.mul (Nat.add sl m) (bytesT P el)) 140737488355328) (Nat.ble (Nat.add sl m) 1099511627776)) (B sl m) (.no 120)) = .ok r hF := by
          rcases lenS_ok e2 with ⟨q, o', l, p, es, hd, e3⟩ | ⟨hd, e3⟩
          · exact ⟨l, .inl ⟨q, o', l, p, es, hd, rfl⟩, e3⟩
          · exact ⟨0, .inr ⟨hd, rfl⟩, e3⟩
        obtain ⟨sl, hd, e3⟩ := this
        obtain ⟨m, hs, e4⟩ := lenK_len e3
        obtain ⟨hb, e5⟩ := bc_ok e4
        cases hb1 : Nat.ble (Nat.add sl m) 1099511627776 with
        | false => rw [hb1] at hb; cases hb
        | true =>
          rw [hb1] at hb
          have hb : Nat.ble (Nat.mul (Nat.add sl m) (bytesT P el)) 140737488355328 = true := hb
          rw [hbt] at hb
          cases m with
          | zero => exact none_ sl hd hs (B0 sl e5)
          | succ m =>
            refine H sl (m + 1) (fun l hl => ?_) hs (by omega) (Nat.le_of_ble_eq_true hb) (Nat.le_of_ble_eq_true hb1) e5
            rcases hd with ⟨_, _, _, _, _, rfl, rfl⟩ | ⟨rfl, rfl⟩ <;> (cases hl; rfl)
      cases hb : isByte P el with
      | true =>
        simp only [hlo, hb] at e1
        have hs1 : P.cellsOf el = 1 := by rw [hcs, ← hzl, hby hb]; rfl
        refine two e1 (fun sl e => e) fun sl m hsl hs hmp h47 h40 e2 => ?_
        obtain ⟨m, rfl⟩ : ∃ n, m = n + 1 := ⟨m - 1, by omega⟩
        have e2 : (srcBytes h v (m + 1) fun n => appK true el 1 (zeroL P el) s (m + 1) n [] h k) = .ok r hF := e2
        generalize m + 1 = m at *
        obtain ⟨bs, hbl, e3, hsrc⟩ := srcBytes_src (P := P) (atMost_of hs (Nat.le_refl _)) e2
        exact some_ true 1 m _ sl [] bs _ hs1.symm rfl (fun _ => rfl) ⟨hsrc, fun _ => ⟨rfl, hbl⟩, (fun hh => by cases hh), hs⟩ hmp hsl h47 h40 e3
      | false =>
        simp only [hlo, hb] at e1
        refine two e1 (fun sl e => e) fun sl m hsl hs hmp h47 h40 e2 => ?_
        obtain ⟨m, rfl⟩ : ∃ n, m = n + 1 := ⟨m - 1, by omega⟩
        have e2 : (srcRows (P.cellsOf el) h v (m + 1) fun rows => appK false el (P.cellsOf el) (zeroL P el) s (m + 1) 0 rows h k) = .ok r hF := e2
        generalize m + 1 = m at *
        obtain ⟨rows, e3, hrl, hsrc⟩ := srcRows_src (P := P) (by omega) (atMost_of hs (Nat.le_refl _)) e2
        exact some_ false _ m _ sl rows [] _ rfl rfl (fun hh => by cases hh) ⟨hsrc, (fun hh => by cases hh), fun _ => hrl, hs⟩ hmp hsl h47 h40 e3
end
end Go.Am

namespace Go.Am
open Go
section
variable {P : Program} {N T : Nat} {o : Oper}
theorem spec_make (hcl : clsOp P o.op = 2) {g : Call_ → Env → Fr → Hp → (AV → Hp → Out) → Out} (hg : opC P N o.op = .mk g) {call : Call_} {env : Env} {fr : Fr} {h : Hp} {k : AV → Hp → Out} {r : AV} {hF : Hp} (e : g call env fr h k = .ok r hF) : MadeR P N o env fr h k r hF := by
  cases hop : o.op with
  | alloc el => exact ok_alloc hop hg e
  | box el x => exact ok_box hop hg e
  | buildSlice t n ps => exact ok_buildSlice hop hg e
  | makeMap t x => exact ok_makeMap hop hg e
  | makeSlice t x y => exact ok_makeSlice hop hg e
  | convert s d x => exact ok_conv2 hop hcl hg e
  | slice t x lo hi mx =>
    rw [hop] at hcl
    exfalso
    have hcl : (match P.underlying t with | some (.array _ _) => 1 | _ => 0) = 2 := hcl
    split at hcl <;> cases hcl
  | call c =>
    exfalso
    rw [hop] at hcl
    have hcl : clsCall P c = 2 := hcl
    unfold clsCall at hcl
    split at hcl
    · split at hcl
      · split at hcl <;> cases hcl
      · cases hcl
    · cases hcl
    · cases hcl
    · cases hcl
  | _ => rw [hop] at hcl; cases hcl
theorem spec_read (hcl : clsOp P o.op = 1) {g : Call_ → Env → Fr → Hp → (AV → Hp → Out) → Out} (hg : opC P N o.op = .mk g) {call : Call_} {env : Env} {fr : Fr} {h : Hp} {k : AV → Hp → Out} {r : AV} {hF : Hp} (e : g call env fr h k = .ok r hF) : ∃ v, k v h = .ok r hF ∧ Runs1 P o N env fr h v := by
  cases hop : o.op with
  | load t x => exact ok_load hop hg e
  | lookup t x y c => exact ok_lookup hop hg e
  | convert s d x => exact ok_conv1 hop hcl hg e
  | slice t x lo hi mx =>
    have := ok_slice hop hg e
    first | exact this | (obtain ⟨v, h1, h2, h3⟩ := this; exact ⟨v, h1, h2⟩) | (obtain ⟨v, h1, h2⟩ := this; exact ⟨v, h1, h2.1⟩)
  | call c =>
    rw [hop] at hcl
    have hcl : clsCall P c = 1 := hcl
    unfold clsCall at hcl
    split at hcl
    · rename_i hb
      split at hcl
      · rename_i t ts hts
        have hno : (∀ x, c.args.toList ≠ [x]) → False := by
          intro hn
          rw [hop] at hg
          have hg1 : callC P N c = .mk g := hg
          unfold callC at hg1
          rw [hb] at hg1
          simp only [hts] at hg1
          split at hg1 <;> first | contradiction | exact hn _ (by assumption) | (cases hg1; cases e)
        by_cases hx : ∃ x, c.args.toList = [x]
        · obtain ⟨x, hx⟩ := hx
          obtain ⟨v, h1, h2, _⟩ := ok_len hop hb hx hts hg e
          exact ⟨v, h1, h2⟩
        · exact (hno fun x h => hx ⟨x, h⟩).elim
      · cases hcl
    · cases hcl
    · cases hcl
    · cases hcl
  | _ => rw [hop] at hcl; cases hcl
theorem spec_pure (hcl : clsOp P o.op = 0) {g : Call_ → Env → Fr → Hp → (AV → Hp → Out) → Out} (hg : opC P N o.op = .mk g) {call : Call_} {env : Env} {fr : Fr} {h : Hp} {k : AV → Hp → Out} {r : AV} {hF : Hp} (e : g call env fr h k = .ok r hF) : ∃ v, k v h = .ok r hF ∧ Runs0 P o N env fr v := by
  cases hop : o.op with
  | move x => exact ok_move (.inl hop) hg e
  | assign x => exact ok_move (.inr hop) hg e
  | pick c x y => exact ok_pick hop hg e
  | build t ps => exact ok_build hop hg e
  | nilCheck x => exact ok_nil hop hg e
  | unOp op t x => exact ok_un hop hg e
  | makeInterface t x => exact ok_iface hop hg e
  | makeFunc fn xs ys =>
    cases fn with
    | func q => exact ok_func hop hg e
    | _ => rw [hop] at hg; cases hg; cases e
  | fieldAddr s x i => exact ok_fieldAddr hop hg e
  | field s x i => exact ok_field hop hg e
  | indexAddr t x y => exact ok_idxAddr hop hg e
  | index t x y => exact ok_idx hop hg e
  | sliceToArrayPointer t x => exact ok_arrayAt hop hg e
  | extract x i => exact ok_extract hop hg e
  | binOp op t x y b => exact ok_bin hop hg e
  | convert s d x => exact ok_conv0 hop hcl hg e
  | slice t x lo hi mx =>
    obtain ⟨v, h1, _, h3⟩ := ok_slice hop hg e
    refine ⟨v, h1, h3 fun n el hu => ?_⟩
    rw [hop] at hcl
    have hcl : (match P.underlying t with | some (.array _ _) => 1 | _ => 0) = 0 := hcl
    rw [hu] at hcl; cases hcl
  | call c =>
    rw [hop] at hcl
    have hcl : clsCall P c = 0 := hcl
    have hg0 := hg
    rw [hop] at hg
    have hg1 : callC P N c = .mk g := hg
    unfold callC at hg1
    unfold clsCall at hcl
    split at hcl
    · rename_i hb
      split at hcl
      · rename_i t ts hts
        rw [hb] at hg1
        simp only [hts] at hg1
        by_cases hx : ∃ x, c.args.toList = [x]
        · obtain ⟨x, hx⟩ := hx
          obtain ⟨v, h1, _, h3⟩ := ok_len hop hb hx hts hg0 e
          refine ⟨v, h1, h3 fun a b hu => ?_⟩
          rw [hu] at hcl; cases hcl
        · exfalso
          split at hg1 <;> first | contradiction | exact hx ⟨_, by assumption⟩ | (cases hg1; cases e)
      · cases hcl
    · rename_i hb
      by_cases hx : ∃ x y t ts, c.args.toList = [x, y] ∧ c.argTypes.toList = t :: ts
      · obtain ⟨x, y, t, ts, hx, hts⟩ := hx
        exact ok_minmax (mx := false) hop hb hx hts hg0 e
      · by_cases hx3 : ∃ x y z t ts, c.args.toList = [x, y, z] ∧ c.argTypes.toList = t :: ts
        · obtain ⟨x, y, z, t, ts, hx3, hts⟩ := hx3
          exact ok_minmax3 (mx := false) hop hb hx3 hts hg0 e
        · exfalso
          rw [hb] at hg1
          simp only at hg1
          split at hg1 <;> first | contradiction | exact hx ⟨_, _, _, _, by assumption, by assumption⟩ | exact hx3 ⟨_, _, _, _, _, by assumption, by assumption⟩ | (cases hg1; cases e)
    · rename_i hb
      by_cases hx : ∃ x y t ts, c.args.toList = [x, y] ∧ c.argTypes.toList = t :: ts
      · obtain ⟨x, y, t, ts, hx, hts⟩ := hx
        exact ok_minmax (mx := true) hop hb hx hts hg0 e
      · by_cases hx3 : ∃ x y z t ts, c.args.toList = [x, y, z] ∧ c.argTypes.toList = t :: ts
        · obtain ⟨x, y, z, t, ts, hx3, hts⟩ := hx3
          exact ok_minmax3 (mx := true) hop hb hx3 hts hg0 e
        · exfalso
          rw [hb] at hg1
          simp only at hg1
          split at hg1 <;> first | contradiction | exact hx ⟨_, _, _, _, by assumption, by assumption⟩ | exact hx3 ⟨_, _, _, _, _, by assumption, by assumption⟩ | (cases hg1; cases e)
    · cases hcl
  | _ => rw [hop] at hcl; cases hcl
end
end Go.Am

namespace Go.Am
open Go
section
variable {P : Program} {N T : Nat} {o : Oper}
theorem no_slice {t : Nat} (h : 3 ≤ (match P.underlying t with | some (.array _ _) => 1 | _ => 0)) : False := by
  split at h <;> omega
theorem spec_great (hcl : 3 ≤ clsOp P o.op) : OpG P N T o := by
  intro g hg call env fr h k r hF hc e
  cases hop : o.op with
  | store t x y => exact ok_store hop hg e
  | mapUpdate t x y z => exact ok_update (.inl hop) hg e
  | insert t x y z => exact ok_update (.inr hop) hg e
  | convert s d x => exact ok_conv3 hop hcl hg e
  | slice t x lo hi mx => rw [hop] at hcl; exact (no_slice hcl).elim
  | range t x => exact ok_range hop hg e
  | next x s =>
    cases s with
    | true => rw [hop] at hg; cases hg; cases e
    | false => exact ok_next hop hg e
  | call c =>
    rw [hop] at hcl
    have hcl : 3 ≤ clsCall P c := hcl
    have hg0 := hg
    rw [hop] at hg
    have hg1 : callC P N c = .mk g := hg
    unfold callC at hg1
    cases hcal : c.callee with
    | value x => exact ok_call hop hcal hg0 hc e
    | invoke a b => rw [hcal] at hg1; cases hg1; cases e
    | builtin b =>
      rw [hcal] at hg1
      simp only at hg1
      cases b with
      | append =>
        by_cases hx : ∃ x y t u ts, c.args.toList = [x, y] ∧ c.argTypes.toList = t :: u :: ts
        · obtain ⟨x, y, t, u, ts, hx, hts⟩ := hx
          exact ok_append hop hcal hx hts hg0 e
        · exfalso
          split at hg1 <;> first | contradiction | exact hx ⟨_, _, _, _, _, by assumption, by assumption⟩ | (cases hg1; cases e)
      | copy =>
        by_cases hx : ∃ x y t ts, c.args.toList = [x, y] ∧ c.argTypes.toList = t :: ts
        · obtain ⟨x, y, t, ts, hx, hts⟩ := hx
          exact ok_copy hop hcal hx hts hg0 e
        · exfalso
          split at hg1 <;> first | contradiction | exact hx ⟨_, _, _, _, by assumption, by assumption⟩ | (cases hg1; cases e)
      | len =>
        exfalso
        unfold clsCall at hcl
        rw [hcal] at hcl
        simp only at hcl
        split at hcl
        · split at hcl <;> omega
        · rename_i hts
          split at hg1 <;> first | contradiction | exact hts _ _ (by assumption) | (cases hg1; cases e)
      | cap =>
        by_cases hx : ∃ x t ts, c.args.toList = [x] ∧ c.argTypes.toList = t :: ts
        · obtain ⟨x, t, ts, hx, hts⟩ := hx
          exact ok_cap hop hcal hx hts hg0 e
        · exfalso
          split at hg1 <;> first | contradiction | exact hx ⟨_, _, _, by assumption, by assumption⟩ | (cases hg1; cases e)
      | unsafeSliceData =>
        by_cases hx : ∃ x, c.args.toList = [x]
        · obtain ⟨x, hx⟩ := hx
          exact ok_sdata hop hcal hx hg0 e
        · exfalso
          split at hg1 <;> first | contradiction | exact hx ⟨_, by assumption⟩ | (cases hg1; cases e)
      | unsafeString =>
        by_cases hx : ∃ x y t u, c.args.toList = [x, y] ∧ c.argTypes.toList = [t, u]
        · obtain ⟨x, y, t, u, hx, hts⟩ := hx
          exact ok_ustr hop hcal hx hts hg0 e
        · exfalso
          split at hg1 <;> first | contradiction | exact hx ⟨_, _, _, _, by assumption, by assumption⟩ | (cases hg1; cases e)
      | min => exfalso; unfold clsCall at hcl; rw [hcal] at hcl; simp only at hcl; omega
      | max => exfalso; unfold clsCall at hcl; rw [hcal] at hcl; simp only at hcl; omega
      | _ =>
        exfalso
        split at hg1 <;> first | contradiction | (cases hg1; cases e)
  | move _ => rw [hop] at hcl; simp [clsOp] at hcl
  | assign _ => rw [hop] at hcl; simp [clsOp] at hcl
  | pick _ _ _ => rw [hop] at hcl; simp [clsOp] at hcl
  | build _ _ => rw [hop] at hcl; simp [clsOp] at hcl
  | nilCheck _ => rw [hop] at hcl; simp [clsOp] at hcl
  | unOp _ _ _ => rw [hop] at hcl; simp [clsOp] at hcl
  | makeInterface _ _ => rw [hop] at hcl; simp [clsOp] at hcl
  | makeFunc _ _ _ => rw [hop] at hcl; simp [clsOp] at hcl
  | fieldAddr _ _ _ => rw [hop] at hcl; simp [clsOp] at hcl
  | field _ _ _ => rw [hop] at hcl; simp [clsOp] at hcl
  | indexAddr _ _ _ => rw [hop] at hcl; simp [clsOp] at hcl
  | index _ _ _ => rw [hop] at hcl; simp [clsOp] at hcl
  | extract _ _ => rw [hop] at hcl; simp [clsOp] at hcl
  | sliceToArrayPointer _ _ => rw [hop] at hcl; simp [clsOp] at hcl
  | binOp _ _ _ _ _ => rw [hop] at hcl; simp [clsOp] at hcl
  | load _ _ => rw [hop] at hcl; simp [clsOp] at hcl
  | lookup _ _ _ _ => rw [hop] at hcl; simp [clsOp] at hcl
  | alloc _ => rw [hop] at hcl; simp [clsOp] at hcl
  | box _ _ => rw [hop] at hcl; simp [clsOp] at hcl
  | buildSlice _ _ _ => rw [hop] at hcl; simp [clsOp] at hcl
  | makeMap _ _ => rw [hop] at hcl; simp [clsOp] at hcl
  | makeSlice _ _ _ => rw [hop] at hcl; simp [clsOp] at hcl
  | _ => exfalso; rw [hop] at hg; cases hg; cases e
theorem spec (o : Oper) : Spec P N T o :=
  ⟨fun h => fun hg => fun e => spec_pure h hg e, fun h => fun hg => fun e => spec_read h hg e, fun h => fun hg => fun e => spec_make h hg e, spec_great⟩
end
end Go.Am

namespace Go.Am
open Go

/-! ### Functions without a body -/
section
variable {P : Program} {h : Hp} {r : AV} {hF : Hp}
theorem lenIs_ok : ∀ (l : List AV) (n : Nat), lenIs l n = true → l.length = n := by
  intro l
  induction l with
  | nil => intro n h; exact (Nat.eq_of_beq_eq_true (show Nat.beq n 0 = true from h)).symm
  | cons a l ih =>
    intro n h
    cases n with
    | zero => cases h
    | succ n => simp [ih n h]
theorem bytesOf_back (bs : List UInt8) : Lib.bytesOf (bs.map fun b => (b.toNat : Int)) = bs := by
  unfold Lib.bytesOf
  rw [List.map_map]
  conv => rhs; rw [← List.map_id bs]
  apply List.map_congr_left
  intro x _
  simp
/-- an argument's bytes -/
theorem bytes_arg {x : AV} {m : Nat} {K : Nat → Out} (hm : lenAV x = some m) (e : srcBytes h x m K = .ok r hF) : ∃ bs : List UInt8, bs.length = m ∧ K (leNat bs) = .ok r hF ∧
    ∀ ρ w x', VR ρ x x' → Rel ρ h.look w → (Extern.Bytes.bytesOf x').run P w = .ok ⟨bs.toArray⟩ w := by
  rcases srcBytes_ok e with ⟨n, l, rfl, e1⟩ | ⟨q, off, l, ep, es, F, bs, rfl, h1, h2, h3, h4, h5, e1⟩ | ⟨rfl, e1⟩
  · have hml : l = m := by simpa [lenAV] using hm
    subst hml
    refine ⟨bytesLE n l, bytesLE_length _ _, by rw [leNat_bytesLE]; exact e1, fun ρ w x' hx _ => ?_⟩
    obtain ⟨s, rfl, hn, hl⟩ := hx
    have hbs : bytesLE n l = s.data.toList := by
      apply leNat_inj
      · rw [bytesLE_length, hl]
      · rw [leNat_bytesLE, hn, hl, Nat.mod_eq_of_lt (leNat_lt _)]
    rw [hbs]; rfl
  · have hml : l = m := by simpa [lenAV] using hm
    subst hml
    refine ⟨bs, h3, e1, fun ρ w x' hx R => ?_⟩
    obtain ⟨b, ba, cs, cap, hr, hx⟩ := hx
    rcases hx with ⟨rfl, _, _⟩ | ⟨h0, ad, rfl⟩
    · have := Lib.run_loadBytesX (P := P) w (bs.map fun b => (b.toNat : Int)) ⟨b, ba + off, none⟩ .empty (fun j x hj => by
        rw [List.getElem?_map] at hj
        have hjl : j < bs.length := by
          rcases Nat.lt_or_ge j bs.length with h | h
          · exact h
          · rw [List.getElem?_eq_none h] at hj; cases hj
        rw [List.getElem?_eq_getElem hjl] at hj
        cases hj
        exact R.bytes h1 hr (by rw [h3]; exact h2) (by rw [h3]; exact h4) h5 j hjl)
      rw [List.length_map, h3, bytesOf_back] at this
      show (Extern.Bytes.loadBytes ⟨b, ba + off, none⟩ l .empty).run P w = _
      rw [this]
      congr 1
      apply ByteArray.ext
      show (#[] : Array UInt8) ++ bs.toArray = bs.toArray
      simp
    · have : bs = [] := by simpa using h3.trans h0
      subst this
      subst h0
      rfl
  · have hml : 0 = m := by simpa [lenAV] using hm
    subst hml
    exact ⟨[], rfl, e1, fun ρ w x' hx _ => by have hx : x' = .slice none 0 0 := hx; subst hx; rfl⟩
theorem findB_eq (c : UInt8) : ∀ (bs : List UInt8) (i : Nat) (k : Int → Out), findB c.toNat bs.length (leNat bs) i k = k (if Lib.indexByte bs c = -1 then -1 else Lib.indexByte bs c + i) := by
  intro bs
  induction bs with
  | nil => intro i k; rfl
  | cons b bs ih =>
    intro i k
    have hb := b.toNat_lt
    have e : findB c.toNat (b :: bs).length (leNat (b :: bs)) i k = Bool.rec (motive := fun _ => (Nat → Nat → Nat → (Int → Out) → Out) → Nat → Nat → Nat → (Int → Out) → Out) (fun ih c n i k => natK (Nat.shiftRight n 8) fun n => ih c n (Nat.succ i) k) (fun _ _ _ i k => natK i fun i => k (Int.ofNat i)) (Nat.beq (Nat.mod (leNat (b :: bs)) 256) c.toNat) (fun c n i k => findB c bs.length n i k) c.toNat (leNat (b :: bs)) i k := rfl
    rw [e]
    have hm : Nat.mod (leNat (b :: bs)) 256 = b.toNat := by show leNat (b :: bs) % 256 = _; rw [leNat_cons]; omega
    have hs : Nat.shiftRight (leNat (b :: bs)) 8 = leNat bs := by
      show leNat (b :: bs) >>> 8 = _; rw [Nat.shiftRight_eq_div_pow, leNat_cons]; omega
    rw [hm]
    have hge := Lib.indexByte_ge bs c
    by_cases hc : b = c
    · subst hc
      have h1 : Nat.beq b.toNat b.toNat = true := Nat.beq_refl _
      rw [h1]
      show natK i (fun i => k (Int.ofNat i)) = _
      rw [natK_eq]
      simp [Lib.indexByte]
    · have h1 : Nat.beq b.toNat c.toNat = false := by
        cases h : Nat.beq b.toNat c.toNat with
        | false => rfl
        | true => exact absurd (UInt8.toNat_inj.1 (Nat.eq_of_beq_eq_true h)) hc
      rw [h1]
      show natK (Nat.shiftRight (leNat (b :: bs)) 8) (fun n => findB c.toNat bs.length n (Nat.succ i) k) = _
      rw [natK_eq, hs, ih]
      have hc' : (b == c) = false := by simpa using hc
      simp only [Lib.indexByte, hc', Bool.false_eq_true, if_false]
      by_cases h2 : Lib.indexByte bs c = -1
      · simp [h2]
      · have h3 : (Lib.indexByte bs c == -1) = false := by simpa using h2
        simp only [h3, Bool.false_eq_true, if_false]
        rw [if_neg h2, if_neg (by omega)]
        congr 1
        simp; omega
theorem asInt_u8 {v : AV} {K : Nat → Out} (e : v.asInt (fun kd c => bc (kEq kd .u8) (Int.rec (motive := fun _ => Out) (fun c => bc (Nat.blt c 256) (K c) (.no 112)) (fun _ => .no 112) c) (.no 112)) = .ok r hF) : ∃ c : UInt8, v = .int .u8 (Int.ofNat c.toNat) ∧ K c.toNat = .ok r hF := by
  obtain ⟨kd, c, rfl, e1⟩ := asInt_ok e
  obtain ⟨h1, e2⟩ := bc_ok e1
  have h1 := kEq_ok h1
  subst h1
  cases c with
  | negSucc c => cases e2
  | ofNat c =>
    obtain ⟨h2, e3⟩ := bc_ok e2
    have h2 : c < 256 := by simpa [Nat.blt_eq] using h2
    have h3 : (UInt8.ofNat c).toNat = c := byteNat c h2
    exact ⟨UInt8.ofNat c, by rw [h3], by rw [h3]; exact e3⟩
theorem args_two {ρ : Rho} {l : List AV} {l' : Array Value} (hl : VRs ρ l l'.toList) {a b : AV} (h2 : l.length = 2) (ha : l[0]? = some a) (hb : l[1]? = some b) : ∃ x y, l' = #[x, y] ∧ VR ρ a x ∧ VR ρ b y := by
  match l, h2 with
  | [a', b'], _ =>
    cases ha; cases hb
    obtain ⟨l'⟩ := l'
    match l', hl with
    | [x, y], ⟨h1, h3, _⟩ => exact ⟨x, y, rfl, h1, h3⟩
theorem args_one {ρ : Rho} {l : List AV} {l' : Array Value} (hl : VRs ρ l l'.toList) {a : AV} (h1 : l.length = 1) (ha : l[0]? = some a) : ∃ x, l' = #[x] ∧ VR ρ a x := by
  match l, h1 with
  | [a'], _ =>
    cases ha
    obtain ⟨l'⟩ := l'
    match l', hl with
    | [x], ⟨h1, _⟩ => exact ⟨x, rfl, h1⟩
theorem find_of {fn : Func} {e : Array Value → Sem Value} {n : String} (hn : fn.name = n) (h : ∀ o : String, ((Extern.allGenericRows.lookup n).map (· fn.targs fn.params fn.resultTypes) <|> (Extern.allTypedRows.lookup n).map (· fn.params fn.resultTypes) <|> Extern.allRows.lookup n) = some e) : Extern.find fn = some e := by
  unfold Extern.find
  simp only [hn]
  rw [h ""]; rfl
theorem compare_less : ∀ (a b : List UInt8), Lib.compareBytes a b = if Op.bytesLess a b = true then -1 else if Op.bytesLess b a = true then 1 else 0 := by
  intro a
  induction a with
  | nil => intro b; cases b <;> rfl
  | cons x a ih =>
    intro b
    cases b with
    | nil => rfl
    | cons y b =>
      simp only [Lib.compareBytes, Op.bytesLess]
      by_cases h1 : x < y
      · simp [h1]
      · by_cases h2 : y < x
        · have : ¬ x == y := by intro h; have := eq_of_beq h; subst this; exact h1 h2
          simp [h1, h2, this]
        · have hxy : x = y := by
            apply UInt8.toNat_inj.1
            simp only [UInt8.lt_iff_toNat_lt] at h1 h2
            omega
          subst hxy
          simp [h1, ih]
theorem index_short : ∀ (s sub : List UInt8), s.length < sub.length → Lib.index s sub = -1 := by
  intro s
  induction s with
  | nil => intro sub h; cases sub <;> simp [Lib.index] at h ⊢
  | cons b s ih =>
    intro sub h
    have h1 := ih sub (by simp at h; omega)
    have h2 : sub.isPrefixOf (b :: s) = false := by
      cases hp : sub.isPrefixOf (b :: s) with
      | false => rfl
      | true => have := (List.isPrefixOf_iff_prefix.1 hp).length_le; omega
    simp [Lib.index, h1, h2]
theorem prefix_nat (s sub : List UInt8) (h : sub.length ≤ s.length) : Nat.beq (Nat.mod (leNat s) (Nat.shiftLeft 1 (Nat.mul 8 sub.length))) (leNat sub) = sub.isPrefixOf s := by
  rw [shl8, Nat.one_mul]
  show Nat.beq (leNat s % 256 ^ sub.length) (leNat sub) = _
  rw [leNat_take]
  have hl : (s.take sub.length).length = sub.length := by simp; omega
  cases hp : sub.isPrefixOf s with
  | true =>
    have := List.isPrefixOf_iff_prefix.1 hp
    rw [← List.prefix_iff_eq_take.1 this]; exact Nat.beq_refl _
  | false =>
    cases hb : Nat.beq (leNat (s.take sub.length)) (leNat sub) with
    | false => rfl
    | true =>
      have := leNat_inj _ _ hl (Nat.eq_of_beq_eq_true hb)
      have : sub.isPrefixOf s = true := List.isPrefixOf_iff_prefix.2 (List.prefix_iff_eq_take.2 this.symm)
      rw [this] at hp; cases hp
theorem findS_eq (sub : List UInt8) (h2 : 1 ≤ sub.length) : ∀ (s : List UInt8) (i : Nat) (k : Int → Out), findS sub.length (leNat sub) (Nat.sub (Nat.succ s.length) sub.length) (leNat s) i k = k (if Lib.index s sub = -1 then -1 else Lib.index s sub + i) := by
  intro s
  induction s with
  | nil =>
    intro i k
    have : Nat.sub (Nat.succ ([] : List UInt8).length) sub.length = 0 := by show (0 + 1) - sub.length = 0; omega
    rw [this, index_short [] sub (by simp; omega)]; rfl
  | cons b s ih =>
    intro i k
    by_cases hlt : (b :: s).length < sub.length
    · have : Nat.sub (Nat.succ (b :: s).length) sub.length = 0 := by show ((b :: s).length + 1) - sub.length = 0; omega
      rw [this, index_short _ sub hlt]; rfl
    · obtain ⟨c, hc⟩ : ∃ c, Nat.sub (Nat.succ (b :: s).length) sub.length = c + 1 := ⟨(b :: s).length - sub.length, by show ((b :: s).length + 1) - sub.length = _; omega⟩
      have hc' : Nat.sub (Nat.succ s.length) sub.length = c := by
        have h3 : (b :: s).length + 1 - sub.length = c + 1 := hc
        show s.length + 1 - sub.length = c
        simp at h3; omega
      rw [hc]
      have e : findS sub.length (leNat sub) (c + 1) (leNat (b :: s)) i k = Bool.rec (motive := fun _ => (Nat → Nat → Nat → Nat → (Int → Out) → Out) → Nat → Nat → Nat → Nat → (Int → Out) → Out) (fun ih m b n i k => natK (Nat.shiftRight n 8) fun n => ih m b n (Nat.succ i) k) (fun _ _ _ _ i k => natK i fun i => k (Int.ofNat i)) (Nat.beq (Nat.mod (leNat (b :: s)) (Nat.shiftLeft 1 (Nat.mul 8 sub.length))) (leNat sub)) (fun m b n i k => findS m b c n i k) sub.length (leNat sub) (leNat (b :: s)) i k := rfl
      rw [e, prefix_nat _ _ (by omega)]
      have hb := b.toNat_lt
      have hs : Nat.shiftRight (leNat (b :: s)) 8 = leNat s := by
        show leNat (b :: s) >>> 8 = _; rw [Nat.shiftRight_eq_div_pow, leNat_cons]; omega
      have hge := Lib.index_ge s sub
      cases hp : sub.isPrefixOf (b :: s) with
      | true =>
        show natK i (fun i => k (Int.ofNat i)) = _
        rw [natK_eq]
        simp [Lib.index, hp]
      | false =>
        show natK (Nat.shiftRight (leNat (b :: s)) 8) (fun n => findS sub.length (leNat sub) c n (Nat.succ i) k) = _
        rw [natK_eq, hs, ← hc', ih]
        simp only [Lib.index, hp, Bool.false_eq_true, if_false]
        by_cases h3 : Lib.index s sub = -1
        · simp [h3]
        · have h4 : (Lib.index s sub == -1) = false := by simpa using h3
          simp only [h4, Bool.false_eq_true, if_false]
          rw [if_neg h3, if_neg (by omega)]
          congr 1
          simp; omega
theorem indexByte_run {x x2 y : Value} {ba : ByteArray} {w : World} (h1 : (Extern.Bytes.bytesOf x).run P w = .ok ba w) (h2 : (Extern.Bytes.bytesOf x2).run P w = .ok ba w) : (Extern.BytealgIndexByte.indexByte #[x, y]).run P w = (Extern.BytealgIndexByte.indexByte #[x2, y]).run P w := by
  change Sem.run P (Extern.Bytes.bytesOf x >>= fun b => _) w = Sem.run P (Extern.Bytes.bytesOf x2 >>= fun b => _) w
  rw [Sem.run_bind, Sem.run_bind, h1, h2]; rfl
theorem index_run {x x2 y y2 : Value} {ba bb : ByteArray} {w : World} (h1 : (Extern.Bytes.bytesOf x).run P w = .ok ba w) (h2 : (Extern.Bytes.bytesOf x2).run P w = .ok ba w) (h3 : (Extern.Bytes.bytesOf y).run P w = .ok bb w) (h4 : (Extern.Bytes.bytesOf y2).run P w = .ok bb w) :
    (Extern.BytealgIndex.index #[x, y]).run P w = (Extern.BytealgIndex.index #[x2, y2]).run P w := by
  change Sem.run P (Extern.Bytes.bytesOf x >>= fun a => Extern.Bytes.bytesOf y >>= fun b => _) w = Sem.run P (Extern.Bytes.bytesOf x2 >>= fun a => Extern.Bytes.bytesOf y2 >>= fun b => _) w
  rw [Sem.run_bind, Sem.run_bind, h1, h2, Result.andThen_ok, Result.andThen_ok, Sem.run_bind, Sem.run_bind, h3, h4]
theorem isSlc_ok {t : Nat} (h : isSlc P t = true) : ∃ i e, P.info? t = some i ∧ i.desc = .slice e ∧ P.packed t = false := by
  unfold isSlc at h
  split at h
  · rename_i i hi
    split at h
    · rename_i e he
      exact ⟨i, e, hi, he, by simpa using h⟩
    · cases h
  · cases h
theorem isSl_ok {v : AV} (h : isSl v = true) : (∃ q o l ep es, v = .slc q o l ep es) ∨ v = .nsl := by
  cases v <;> first | exact .inl ⟨_, _, _, _, _, rfl⟩ | exact .inr rfl | cases h
theorem isSl_val {v : AV} (h : isSl v = true) {ρ : Rho} {x : Value} (hx : VR ρ v x) : ∃ p n c, x = .slice p n c := by
  rcases isSl_ok h with ⟨q, o, l, ep, es, rfl⟩ | rfl
  · obtain ⟨_, _, _, _, _, ⟨rfl, _⟩ | ⟨_, _, rfl⟩⟩ := hx <;> exact ⟨_, _, _, rfl⟩
  · exact ⟨_, _, _, hx⟩
theorem mxK_ok {v : AV} {K : Int → Out} {r : AV} {hF : Hp} (e : mxK v K = .ok r hF) : ∃ m, K m = .ok r hF ∧ ∀ ρ u, VR ρ v u → ∃ n, m ≤ n ∧ u = .int .i64 n := by
  unfold mxK at e
  rcases asIntT_ok e with ⟨k, b, rfl, e2⟩ | ⟨t', x, rfl, e2⟩
  · obtain ⟨hk, e3⟩ := bc_ok (show bc (kEq k .i64) (K b) (.no 112) = .ok r hF from e2)
    have := kEq_ok hk
    subst this
    exact ⟨b, e3, fun ρ u h => ⟨b, Int.le_refl _, h⟩⟩
  · obtain ⟨k', lo, hi, e3, hv⟩ := ivl_vr (show ivlK x _ = .ok r hF from e2)
    obtain ⟨hk, e4⟩ := bc_ok e3
    have := kEq_ok hk
    subst this
    refine ⟨lo, e4, fun ρ u h => ?_⟩
    obtain ⟨n, h1, _, h3⟩ := hv ρ _ _ h
    exact ⟨n, h1, h3⟩
theorem xt_ok : XtOk P := by
  intro f fn hfn hb hnx l h k r hF e
  have pure_ : (∃ v, k v h = .ok r hF ∧ ∀ ρ w (l' : Array Value), VRs ρ l l'.toList → Gl P ρ → Rel ρ h.look w → ∃ v', (callFunc f l').run P w = .ok (.value v') w ∧ VR ρ v v') → ∃ v h', k v h' = .ok r hF ∧ h.nx.toNat ≤ h'.nx.toNat ∧ ∀ ρ w (l' : Array Value), VRs ρ l l'.toList → Gl P ρ → Rel ρ h.look w → Fresh ρ h h' → ∃ v' w' ρ', (callFunc f l').run P w = .ok (.value v') w' ∧ VR ρ' v v' ∧ Tr ρ h w ρ' h' w' := by
    rintro ⟨v, e1, H⟩
    refine ⟨v, h, e1, Nat.le_refl _, fun ρ w l' hl G R _ => ?_⟩
    obtain ⟨v', h1, h2⟩ := H ρ w l' hl G R
    exact ⟨v', w, ρ, h1, h2, Tr.refl R⟩
  have hbn : fn.body.isNone = true := by rw [hb]; rfl
  have run : ∀ {en : Array Value → Sem Value} {n : String}, fn.name = n → (n == "runtime.NumGoroutine") = false → (∀ _ : String, ((Extern.allGenericRows.lookup n).map (· fn.targs fn.params fn.resultTypes) <|> (Extern.allTypedRows.lookup n).map (· fn.params fn.resultTypes) <|> Extern.allRows.lookup n) = some en) →
      ∀ (args : Array Value) (w w' : World) (v : Value), (en args).run P w = .ok v w' → (callFunc f args).run P w = .ok (.value v) w' := by
    intro en n hn hng hrow args w w' v hr
    rw [run_callFunc_extern hfn (by rw [hn]; exact hng) hbn hnx (find_of hn hrow) args w, hr]; rfl
  have idxByte : (∀ (args : Array Value) (w : World) (v : Value), (Extern.BytealgIndexByte.indexByte args).run P w = .ok v w → (callFunc f args).run P w = .ok (.value v) w) → xtC P fn .idxByte l h k = .ok r hF →
      ∃ v, k v h = .ok r hF ∧ ∀ ρ w (l' : Array Value), VRs ρ l l'.toList → Gl P ρ → Rel ρ h.look w → ∃ v', (callFunc f l').run P w = .ok (.value v') w ∧ VR ρ v v' := by
    intro hrun e
    obtain ⟨h2, e1⟩ := bc_ok (show bc (lenIs l 2) _ (.no 112) = .ok r hF from e)
    obtain ⟨s, hs, e2⟩ := nthK_ok e1
    obtain ⟨c, hc, e3⟩ := nthK_ok e2
    obtain ⟨m, hm, e4⟩ := lenK_len e3
    obtain ⟨cb, rfl, e5⟩ := asInt_u8 e4
    obtain ⟨bs, hbs, e6, H⟩ := bytes_arg (P := P) hm e5
    rw [← hbs, findB_eq] at e6
    refine ⟨_, e6, fun ρ w l' hl _ R => ⟨_, hrun l' w _ ?_, rfl⟩⟩
    obtain ⟨x, y, rfl, hx, hy⟩ := args_two hl (lenIs_ok _ _ h2) hs hc
    have hy : y = .int .u8 (Int.ofNat cb.toNat) := hy
    subst hy
    have hk := Lib.run_indexByteString (P := P) ⟨bs.toArray⟩ (Int.ofNat cb.toNat) w
    have hbx := H ρ w x hx R
    rw [indexByte_run (x2 := .string ⟨bs.toArray⟩) hbx rfl, hk]
    congr 2
    have : (Int.ofNat cb.toNat).toNat.toUInt8 = cb := by simp
    rw [this]
    split
    · rename_i h3; exact h3
    · simp
  have idx : (∀ (args : Array Value) (w : World) (v : Value), (Extern.BytealgIndex.index args).run P w = .ok v w → (callFunc f args).run P w = .ok (.value v) w) → xtC P fn .idx l h k = .ok r hF →
      ∃ v, k v h = .ok r hF ∧ ∀ ρ w (l' : Array Value), VRs ρ l l'.toList → Gl P ρ → Rel ρ h.look w → ∃ v', (callFunc f l').run P w = .ok (.value v') w ∧ VR ρ v v' := by
    intro hrun e
    unfold xtC at e
    cases hg : P.globals.findIdx? (·.name == nmS [105, 110, 116, 101, 114, 110, 97, 108, 47, 98, 121, 116, 101, 97, 108, 103, 46, 77, 97, 120, 76, 101, 110]) with
    | none => simp only [hg] at e; cases e
    | some g =>
      simp only [hg] at e
      obtain ⟨h2, e1⟩ := bc_ok (show bc (lenIs l 2) _ (.no 112) = .ok r hF from e)
      obtain ⟨s, hs, e2⟩ := nthK_ok e1
      obtain ⟨c, hc, e3⟩ := nthK_ok e2
      obtain ⟨m, hm, e4⟩ := lenK_len e3
      obtain ⟨j, hj, e5⟩ := lenK_len e4
      obtain ⟨bs, hbs, e6, H⟩ := bytes_arg (P := P) hm e5
      obtain ⟨cs, hcs, e7, H'⟩ := bytes_arg (P := P) hj e6
      obtain ⟨h3, e8⟩ := bc_ok e7
      obtain ⟨h4, e9⟩ := bc_ok e8
      obtain ⟨F, hF1, hep, e10⟩ := famK_ok e9
      rw [bodyK_eq] at e10
      obtain ⟨hmp, v, hv, e11⟩ := rdCell_ok e10
      obtain ⟨mx, e13, hmx⟩ := mxK_ok e11
      obtain ⟨h6, e14⟩ := bc_ok e13
      have h3 : 2 ≤ j := Nat.le_of_ble_eq_true h3
      have h4 : m ≤ 1000000000 := Nat.le_of_ble_eq_true h4
      have h6 : ((j : Nat) : Int) ≤ mx := of_decide_eq_true h6
      rw [← hbs, ← hcs, findS_eq cs (by omega)] at e14
      refine ⟨_, e14, fun ρ w l' hl Gl0 R => ⟨_, hrun l' w _ ?_, rfl⟩⟩
      obtain ⟨x, y, rfl, hx, hy⟩ := args_two hl (lenIs_ok _ _ h2) hs hc
      have hbx := H ρ w x hx R
      have hby := H' ρ w y hy R
      have hgl : g < P.globals.size := by
        have := Array.findIdx?_eq_some_iff_getElem.1 hg
        exact this.1
      obtain ⟨gcs, hgr⟩ := Gl0 g (Nat.le_of_lt hgl)
      obtain ⟨u, u1, u2, _⟩ := R.read hF1 hmp hgr hv (by
        have := (R.fam _ F hF1).le 0 _ hgr
        by_cases h0 : F.ep = 0
        · exact .inl h0.symm
        · rcases hep with h | h
          · exact absurd h.symm h0
          · exact .inr (by omega))
      obtain ⟨mz, hmz, hu⟩ := hmx ρ u u2
      subst hu
      have h6 : ((j : Nat) : Int) ≤ mz := Int.le_trans h6 hmz
      have hk := Lib.run_indexString (P := P) ⟨bs.toArray⟩ ⟨cs.toArray⟩ w g mz (by rw [← hg]; rfl) u1 (by show 2 ≤ cs.toArray.size; simp; omega) (by show ((cs.toArray.size : Nat) : Int) ≤ mz; simp; omega) (by show bs.toArray.size < _; simp; omega)
      rw [index_run (x2 := .string ⟨bs.toArray⟩) (y2 := .string ⟨cs.toArray⟩) hbx rfl hby rfl, hk]
      congr 2
      split
      · rename_i h7; exact h7
      · simp
  have noEsc : (∀ (args : Array Value) (w : World) (v : Value), (Extern.AbiNoEscape.same args).run P w = .ok v w → (callFunc f args).run P w = .ok (.value v) w) → xtC P fn .noEsc l h k = .ok r hF →
      ∃ v, k v h = .ok r hF ∧ ∀ ρ w (l' : Array Value), VRs ρ l l'.toList → Gl P ρ → Rel ρ h.look w → ∃ v', (callFunc f l').run P w = .ok (.value v') w ∧ VR ρ v v' := by
    intro hrun e
    obtain ⟨h1, e1⟩ := bc_ok (show bc (lenIs l 1) _ (.no 112) = .ok r hF from e)
    obtain ⟨s, hs, e2⟩ := nthK_ok e1
    refine ⟨_, e2, fun ρ w l' hl _ R => ?_⟩
    obtain ⟨x, rfl, hx⟩ := args_one hl (lenIs_ok _ _ h1) hs
    exact ⟨x, hrun _ w x rfl, hx⟩
  have cmp : (∀ (args : Array Value) (w : World) (v : Value), (Extern.BytealgCompare.compare args).run P w = .ok v w → (callFunc f args).run P w = .ok (.value v) w) → xtC P fn .cmp l h k = .ok r hF →
      ∃ v, k v h = .ok r hF ∧ ∀ ρ w (l' : Array Value), VRs ρ l l'.toList → Gl P ρ → Rel ρ h.look w → ∃ v', (callFunc f l').run P w = .ok (.value v') w ∧ VR ρ v v' := by
    intro hrun e
    obtain ⟨h2, e1⟩ := bc_ok (show bc (lenIs l 2) _ (.no 112) = .ok r hF from e)
    obtain ⟨s, hs, e2⟩ := nthK_ok e1
    obtain ⟨c, hc, e3⟩ := nthK_ok e2
    obtain ⟨n, m, rfl, e4⟩ := asStr_ok e3
    obtain ⟨n', m', rfl, e5⟩ := asStr_ok e4
    have e6 : k (.int .i64 (if strLt m' n m n' = true then -1 else if strLt m n' m' n = true then 1 else 0)) h = .ok r hF := by
      rw [bc_eq] at e5
      split at e5
      · rename_i h3; rw [if_pos h3]; exact e5
      · rename_i h3; rw [if_neg (by simpa using h3)]
        rw [bc_eq] at e5
        split at e5
        · rename_i h4; rw [if_pos h4]; exact e5
        · rename_i h4; rw [if_neg (by simpa using h4)]; exact e5
    refine ⟨_, e6, fun ρ w l' hl _ R => ⟨_, hrun l' w _ ?_, rfl⟩⟩
    obtain ⟨x, y, rfl, hx, hy⟩ := args_two hl (lenIs_ok _ _ h2) hs hc
    obtain ⟨a, rfl, rfl, rfl⟩ := hx
    obtain ⟨b, rfl, rfl, rfl⟩ := hy
    rw [strLt_eq, strLt_eq]
    have := Lib.run_compareString (P := P) a b w
    rw [compare_less] at this
    exact this
  have noZero : (∀ (args : Array Value) (w w' : World) (v : Value), (Extern.BytealgMakeNoZero.makeNoZero fn.params fn.resultTypes args).run P w = .ok v w' → (callFunc f args).run P w = .ok (.value v) w') → xtC P fn .noZero l h k = .ok r hF →
      ∃ v h', k v h' = .ok r hF ∧ h.nx.toNat ≤ h'.nx.toNat ∧ ∀ ρ w (l' : Array Value), VRs ρ l l'.toList → Gl P ρ → Rel ρ h.look w → Fresh ρ h h' → ∃ v' w' ρ', (callFunc f l').run P w = .ok (.value v') w' ∧ VR ρ' v v' ∧ Tr ρ h w ρ' h' w' := by
    intro hrun e
    unfold xtC at e
    cases ht : retElem P fn with
    | none => simp only [ht] at e; cases e
    | some el =>
      simp only [ht] at e
      obtain ⟨t, hts, hel⟩ : ∃ t, fn.resultTypes = #[t] ∧ elemT P t = some el := by
        unfold retElem at ht
        cases hl : fn.resultTypes.toList with
        | nil => rw [hl] at ht; cases ht
        | cons t ts =>
          cases ts with
          | nil => rw [hl] at ht; exact ⟨t, by apply Array.ext'; simpa using hl, ht⟩
          | cons _ _ => rw [hl] at ht; cases ht
      have hu := elemT_ok hel
      obtain ⟨h1, e1⟩ := bc_ok e
      obtain ⟨v, hv, e2⟩ := nthK_ok e1
      obtain ⟨kd, n, rfl, e3⟩ := asInt_ok e2
      obtain ⟨h2, e4⟩ := bc_ok e3
      have h2 := kEq_ok h2
      subst h2
      cases n with
      | negSucc n => cases e4
      | ofNat n =>
        obtain ⟨h3, e5⟩ := bc_ok e4
        have h3 : n ≤ 1000000000 := Nat.le_of_ble_eq_true h3
        have e6 := newFam_ok e5
        refine ⟨_, _, e6, (by show _ ≤ (Pth.succ h.nx).toNat; rw [Pth.toNat_succ]; omega), fun ρ w l' hl G R K => ?_⟩
        obtain ⟨x, rfl, hx⟩ := args_one hl (lenIs_ok _ _ h1) hv
        have hx : x = .int .i64 (Int.ofNat n) := hx
        subst hx
        obtain ⟨cs, r1, r2, _⟩ := Lib.run_makeNoZero (P := P) w fn.params t el hu n (by omega)
        have hr := hrun #[.int .i64 (Int.ofNat n)] w _ _ (by rw [hts]; exact r1)
        have hN : NewOk ρ (.cells cs el) cs.size (el + 1) (.byt 0 0) := ⟨Nat.one_pos, .inr ⟨rfl, cs, el, (0, 0), rfl, .inl rfl, rfl, fun i v hi => by simp [Body.cell?] at hi⟩, fun k hk => by cases hk; exact ⟨_, _, rfl⟩⟩
        have hT := R.alloc (w0 := w.drew.drew) rfl rfl rfl rfl (el := el + 1) K hN
        exact ⟨_, _, _, hr, ⟨w.heap.size, 0, cs.size, cs.size, upd1_same _ _ _ _, .inl ⟨rfl, r2, by omega⟩⟩, hT⟩
  have rvOf : (∀ (args : Array Value) (w w' : World) (v : Value), (Extern.ReflectliteValue.unpack (args.getD 0 (.tuple #[]))).run P w = .ok v w' → (callFunc f args).run P w = .ok (.value v) w') → xtC P fn .rvOf l h k = .ok r hF →
      ∃ v h', k v h' = .ok r hF ∧ h.nx.toNat ≤ h'.nx.toNat ∧ ∀ ρ w (l' : Array Value), VRs ρ l l'.toList → Gl P ρ → Rel ρ h.look w → Fresh ρ h h' → ∃ v' w' ρ', (callFunc f l').run P w = .ok (.value v') w' ∧ VR ρ' v v' ∧ Tr ρ h w ρ' h' w' := by
    intro hrun e
    unfold xtC at e
    simp only at e
    obtain ⟨h1, e1⟩ := bc_ok e
    obtain ⟨v, hv, e2⟩ := nthK_ok e1
    obtain ⟨t, x, rfl, e3⟩ := asIfc_ok e2
    obtain ⟨h2, e4⟩ := bc_ok e3
    obtain ⟨i, el, hi, hd, hpk⟩ := isSlc_ok h2
    obtain ⟨h3, e5⟩ := bc_ok e4
    have e6 := newFam_ok e5
    refine ⟨_, _, e6, (by show _ ≤ (Pth.succ h.nx).toNat; rw [Pth.toNat_succ]; omega), fun ρ w l' hl G R K => ?_⟩
    obtain ⟨y, rfl, hy⟩ := args_one hl (lenIs_ok _ _ h1) hv
    obtain ⟨z, rfl, hz⟩ : ∃ z, y = .iface t z ∧ VR ρ x z := by
      rcases hy with h | ⟨_, _, _, _, rfl, _⟩
      · exact h
      · cases h3
    obtain ⟨p, n, c, rfl⟩ := isSl_val h3 hz
    have hr := hrun #[.iface t (.slice p n c)] w _ _ (Lib.run_valueOf_slice (P := P) t el i hi hd p n c w)
    have hN : NewOk ρ (.cells #[.slice p n c] t) 1 (t + 1) (.arr (.nd .lf (some [x]) .lf) 1 1 [.bad]) := by
      refine ⟨⟨rfl, fun q row hq => ?_⟩, .inr ⟨rfl, _, t, (0, 0), rfl, .inl rfl, rfl, fun j v hj => ?_⟩, fun k hk => by cases hk; exact ⟨_, _, rfl⟩⟩
      · cases q with
        | e => cases hq; rfl
        | l q => have : (PT.lf : PT (List AV)).look q = some row := hq
                 rw [look_lf] at this; cases this
        | r q => have : (PT.lf : PT (List AV)).look q = some row := hq
                 rw [look_lf] at this; cases this
      · have hlt : j < 1 * 1 := by
          simp only [Body.cell?] at hj
          split at hj
          · assumption
          · cases hj
        have h0 : j = 0 := by omega
        subst h0
        have : v = x := by
          have hj' : (Body.arr (.nd .lf (some [x]) .lf) 1 1 [.bad]).cell? 0 = some x := rfl
          rw [hj'] at hj; cases hj; rfl
        subst this
        exact ⟨_, rfl, hz, rfl⟩
    have hT := R.alloc (w0 := w) rfl rfl rfl rfl (el := t + 1) K hN
    obtain ⟨gcs, hg⟩ := G P.globals.size (Nat.le_refl _)
    refine ⟨_, _, _, hr, ⟨_, rfl, ⟨⟨P.globals.size, 0, gcs, hT.mono _ _ _ hg, ?_⟩, ⟨w.heap.size, 0, 1, upd1_same _ _ _ _, rfl⟩, rfl, trivial⟩, fun u hu => ?_⟩, hT⟩
    · simp [typeHandle]
    · simp [typeHandle] at hu
      rcases hu with rfl | rfl | rfl <;> rfl
  have rvLen : (∀ (args : Array Value) (w w' : World) (v : Value), (Extern.ReflectliteValue.method (Extern.ReflectliteValue.valueError "reflectlite.Value.Len" 0) Extern.ReflectliteValue.len args).run P w = .ok v w' → (callFunc f args).run P w = .ok (.value v) w') → xtC P fn .rvLen l h k = .ok r hF →
      ∃ v, k v h = .ok r hF ∧ ∀ ρ w (l' : Array Value), VRs ρ l l'.toList → Gl P ρ → Rel ρ h.look w → ∃ v', (callFunc f l').run P w = .ok (.value v') w ∧ VR ρ v v' := by
    intro hrun e
    unfold xtC at e
    simp only at e
    obtain ⟨h1, e1⟩ := bc_ok e
    obtain ⟨v, hv, e2⟩ := nthK_ok e1
    obtain ⟨m, rfl, e3⟩ := asAgg_ok e2
    obtain ⟨h2, e4⟩ := bc_ok e3
    obtain ⟨a, ha, e5⟩ := nthK_ok e4
    obtain ⟨b, hb1, e6⟩ := nthK_ok e5
    obtain ⟨c, hc, e7⟩ := nthK_ok e6
    obtain ⟨q, t, ep0, rfl, e8⟩ := asPtr_ok e7
    obtain ⟨h3, e9⟩ := bc_ok e8
    have h3 : q = Pth.ofNat P.globals.size ∧ ep0 = 0 := by
      cases hq : Pth.beq q (Pth.ofNat P.globals.size) with
      | false => rw [hq] at h3; cases h3
      | true => rw [hq] at h3; exact ⟨Pth.beq_ok hq, Nat.eq_of_beq_eq_true h3⟩
    obtain ⟨rfl, rfl⟩ := h3
    obtain ⟨h4, e10⟩ := bc_ok e9
    obtain ⟨i, el, hi, hd, hpk⟩ := isSlc_ok h4
    obtain ⟨f2, o2, ep2, rfl, e11⟩ := asPtr_ok e10
    obtain ⟨kd, n, rfl, e12⟩ := asInt_ok e11
    obtain ⟨h5, e13⟩ := bc_ok e12
    have h5 := kEq_ok h5
    subst h5
    obtain ⟨h6, e14⟩ := bc_ok e13
    have h6 : n = 151 := of_decide_eq_true h6
    subst h6
    obtain ⟨F, hF1, hep, e15⟩ := famK_ok e14
    rw [bodyK_eq] at e15
    obtain ⟨hmp, s, hs, e16⟩ := rdCell_ok e15
    have : ∃ sl, (∃ q o l' ep es, s = .slc q o l' ep es ∧ sl = l') ∨ (s = .nsl ∧ sl = 0) := by
      rcases lenS_ok e16 with ⟨q, o', l, p, es, hd, _⟩ | ⟨hd, _⟩
      · exact ⟨l, .inl ⟨q, o', l, p, es, hd, rfl⟩⟩
      · exact ⟨0, .inr ⟨hd, rfl⟩⟩
    have e17 : ∃ sl, ((∃ q o l' ep es, s = .slc q o l' ep es ∧ sl = l') ∨ (s = .nsl ∧ sl = 0)) ∧ k (.int .i64 (Int.ofNat sl)) h = .ok r hF := by
      rcases lenS_ok e16 with ⟨q, o', l, p, es, hd, e⟩ | ⟨hd, e⟩
      · exact ⟨l, .inl ⟨q, o', l, p, es, hd, rfl⟩, e⟩
      · exact ⟨0, .inr ⟨hd, rfl⟩, e⟩
    obtain ⟨sl, hsl, e18⟩ := e17
    refine ⟨_, e18, fun ρ w l' hl G R => ?_⟩
    obtain ⟨y, rfl, hy⟩ := args_one hl (lenIs_ok _ _ h1) hv
    obtain ⟨cs, rfl, hcs, _⟩ := hy
    have hml := lenIs_ok _ _ h2
    obtain ⟨cs⟩ := cs
    match m, hml, cs, hcs with
    | [a', b', c'], _, [x1, x2, x3], ⟨r1, r2, r3, _⟩ =>
      cases ha; cases hb1; cases hc
      obtain ⟨gcs, hg⟩ := G P.globals.size (Nat.le_refl _)
      obtain ⟨b1, ba1, cs1, hr1, rfl⟩ := r1
      rw [hg] at hr1; cases hr1
      obtain ⟨b2, ba2, cs2, hr2, rfl⟩ := r2
      have r3 : x3 = .int .u64 151 := r3
      subst r3
      obtain ⟨u, u1, u2, _⟩ := R.read hF1 hmp hr2 hs (hep.imp id fun h => by omega)
      obtain ⟨base, dc, rfl⟩ := slice_of hsl u2
      have := Lib.run_valueLen_slice (P := P) t el i hi hd hpk ⟨b2, ba2 + o2, none⟩ base sl dc w u1
      refine ⟨_, hrun _ w w _ ?_, rfl⟩
      simp only [typeHandle] at this
      rw [Nat.zero_add]
      exact this
  unfold xtOf at e
  split at e
  · rename_i hn; exact pure_ (idxByte (fun a w v => run (eq_of_beq hn) rfl (fun _ => by kernel_rfl) a w w v) e)
  split at e
  · rename_i hn; exact pure_ (idxByte (fun a w v => run (eq_of_beq hn) rfl (fun _ => by kernel_rfl) a w w v) e)
  split at e
  · rename_i hn; exact pure_ (idx (fun a w v => run (eq_of_beq hn) rfl (fun _ => by kernel_rfl) a w w v) e)
  split at e
  · rename_i hn; exact pure_ (idx (fun a w v => run (eq_of_beq hn) rfl (fun _ => by kernel_rfl) a w w v) e)
  split at e
  · rename_i hn; exact pure_ (noEsc (fun a w v => run (eq_of_beq hn) rfl (fun _ => by kernel_rfl) a w w v) e)
  split at e
  · rename_i hn; exact pure_ (cmp (fun a w v => run (eq_of_beq hn) rfl (fun _ => by kernel_rfl) a w w v) e)
  split at e
  · rename_i hn; exact noZero (run (eq_of_beq hn) rfl fun _ => by kernel_rfl) e
  split at e
  · rename_i hn; exact rvOf (run (eq_of_beq hn) rfl fun _ => by kernel_rfl) e
  split at e
  · rename_i hn; exact pure_ (rvLen (run (eq_of_beq hn) rfl fun _ => by kernel_rfl) e)
  · cases e
end
end Go.Am

namespace Go.Am
open Go

/-! ### Variables that are laid: flat data -/
def flatAll (g : Nat → DataW Unit → Option (List AV)) (P : Program) : List (Nat × Nat) → List (DataW Unit) → Nat → Nat → Option (List AV)
  | [], [], o, n => if o = n then some [] else none
  | (o', u) :: ps, d :: ds, o, n => if o' = o then (match g u d, flatAll g P ps ds (o + P.cellsOf u) n with | some l, some m => some (l ++ m) | _, _ => none) else none
  | _, _, _, _ => none
noncomputable def flatD (P : Program) : Nat → Nat → DataW Unit → Option (List AV)
  | 0, _, _ => none
  | f + 1, t, d => match P.underlying t, d with
    | some .bool, .lit (.bool b) => some [.bool b]
    | some (.int _), .lit (.int k n) => some [.int k n]
    | some .string, .lit (.string s) => some [.str (leNat s) s.length]
    | some (.pointer _), .nil => some [.nul]
    | some (.slice _), .nil => some [.nsl]
    | some (.map _ _), .nil => some [.nmp]
    | some (.struct fs), .agg ds => flatAll (flatD P f) P (fs.toList.map fun x => (x.offset, x.type)) ds 0 (P.cellsOf t)
    | some (.array n e), .agg ds => flatAll (flatD P f) P ((List.range n).map fun i => (i * P.cellsOf e, e)) ds 0 (P.cellsOf t)
    | _, _ => none
section
variable {P : Program} {w : World} {base : Nat} {sp : Nat → Bool} {held : Bool} {ρ : Rho}
theorem flatAll_ok {r : Nat → List Value → Option (DataW Unit × List MemPlace)} {g : Nat → DataW Unit → Option (List AV)} (H : ∀ u cs d p l, r u cs = some (d, p) → g u d = some l → CellsR ρ l cs) (cs : List Value) {n : Nat} (hn : cs.length = n) :
    ∀ (ps : List (Nat × Nat)) (xs : List (DataW Unit × List MemPlace)) (o : Nat) (l : List AV), (ps.mapM fun x => r x.2 ((cs.drop x.1).take (P.cellsOf x.2))) = some xs → flatAll g P ps (xs.map (·.1)) o n = some l → CellsR ρ l (cs.drop o) := by
  intro ps
  induction ps with
  | nil =>
    intro xs o l h1 h2
    simp at h1; subst h1
    simp only [List.map_nil, flatAll] at h2
    split at h2
    · cases h2
      rename_i ho
      rw [List.drop_of_length_le (by omega)]
      exact ⟨trivial, fun u hu => by simp at hu⟩
    · cases h2
  | cons x ps ih =>
    intro xs o l h1 h2
    rw [List.mapM_cons] at h1
    cases hr : r x.2 ((cs.drop x.1).take (P.cellsOf x.2)) with
    | none => rw [hr] at h1; cases h1
    | some y =>
      cases hm : (ps.mapM fun x => r x.2 ((cs.drop x.1).take (P.cellsOf x.2))) with
      | none => rw [hr, hm] at h1; cases h1
      | some ys =>
        rw [hr, hm] at h1
        cases h1
        simp only [List.map_cons, flatAll] at h2
        split at h2
        · rename_i ho
          cases hg : g x.2 y.1 with
          | none => rw [hg] at h2; cases h2
          | some l1 =>
            cases hf : flatAll g P ps (ys.map (·.1)) (o + P.cellsOf x.2) n with
            | none => rw [hg, hf] at h2; cases h2
            | some l2 =>
              rw [hg, hf] at h2
              cases h2
              rw [ho] at hr
              have h3 := ih ys _ l2 hm hf
              have h4 := H x.2 _ y.1 y.2 l1 hr hg
              have h6 : cs.drop o = (cs.drop o).take (P.cellsOf x.2) ++ cs.drop (o + P.cellsOf x.2) := by
                rw [← List.drop_drop]; exact (List.take_append_drop _ _).symm
              rw [h6]
              exact ⟨h4.1.append h3.1, fun u hu => (List.mem_append.1 hu).elim (h4.2 u) (h3.2 u)⟩
        · cases h2
theorem one_vr {a : AV} {v : Value} (h : VR ρ a v) (hf : flat a = true) : CellsR ρ [a] [v] := ⟨⟨h, trivial⟩, fun u hu => by simp at hu; subst hu; exact flat_of h hf⟩
theorem trod_array {H : Type} {enc : TypeId × Value → H} {fuel t n e : Nat} {cs : List Value} {x : DataW H × List MemPlace} (ht : P.underlying t = some (.array n e)) (h : DataW.trod enc P w base sp held fuel t cs = some x) :
    ∃ (xs : List (DataW H × List MemPlace)) (m : Nat), fuel = m + 1 ∧ x.1 = .agg (xs.map (·.1)) ∧ cs.length = P.cellsOf t ∧ ((List.range n).mapM fun i => DataW.trod enc P w base sp held m e ((cs.drop (i * P.cellsOf e)).take (P.cellsOf e))) = some xs := by
  cases fuel with
  | zero => simp [DataW.trod] at h
  | succ m =>
    unfold DataW.trod at h
    rw [ht] at h
    split at h <;> simp_all
    obtain ⟨hl, xs, hp, hd⟩ := h
    exact ⟨xs, by rw [← hd], hp⟩
theorem trod_struct' {H : Type} {enc : TypeId × Value → H} {fuel t : Nat} {fs : Array Field} {cs : List Value} {x : DataW H × List MemPlace} (ht : P.underlying t = some (.struct fs)) (h : DataW.trod enc P w base sp held fuel t cs = some x) :
    ∃ (xs : List (DataW H × List MemPlace)) (m : Nat), fuel = m + 1 ∧ x.1 = .agg (xs.map (·.1)) ∧ cs.length = P.cellsOf t ∧ (fs.toList.mapM fun f => DataW.trod enc P w base sp held m f.type ((cs.drop f.offset).take (P.cellsOf f.type))) = some xs := by
  cases fuel with
  | zero => simp [DataW.trod] at h
  | succ m =>
    unfold DataW.trod at h
    rw [ht] at h
    split at h <;> simp_all
    obtain ⟨hl, xs, hp, hd⟩ := h
    exact ⟨xs, by rw [← hd], hp⟩
theorem trod_map_nil {H : Type} {enc : TypeId × Value → H} {fuel t k e : Nat} {cs : List Value} {p : List MemPlace} (ht : P.underlying t = some (.map k e)) (h : DataW.trod enc P w base sp held fuel t cs = some (.nil, p)) : cs = [.map none] := by
  cases fuel with
  | zero => simp [DataW.trod] at h
  | succ m =>
    unfold DataW.trod at h
    rw [ht] at h
    split at h <;> simp_all
    split at h <;> simp_all
    obtain ⟨_, h⟩ := h
    simp only [Option.bind_eq_some_iff] at h
    obtain ⟨_, _, h⟩ := h
    split at h <;> simp_all
theorem mapM_map' {α β γ : Type} (g : α → β) (f : β → Option γ) : ∀ l : List α, (l.map g).mapM f = l.mapM fun x => f (g x) := by
  intro l
  induction l with
  | nil => rfl
  | cons a l ih => rw [List.map_cons, List.mapM_cons, List.mapM_cons, ih]
theorem flatD_ok {enc : TypeId × Value → Unit} : ∀ (f' f t : Nat) (cs : List Value) (d : DataW Unit) (p : List MemPlace) (l : List AV), DataW.trod enc P w base sp held f t cs = some (d, p) → flatD P f' t d = some l → CellsR ρ l cs := by
  intro f'
  induction f' with
  | zero => intro f t cs d p l _ h; cases h
  | succ f' ih =>
    intro f t cs d p l h1 h2
    simp only [flatD] at h2
    split at h2 <;> (try (cases h2; done))
    · rename_i hu; cases h2
      obtain ⟨b, rfl, hx⟩ := DataW.trod_bool hu h1
      cases hx; exact one_vr rfl rfl
    · rename_i hu; cases h2
      obtain ⟨n, rfl, hx, _⟩ := DataW.trod_int hu h1
      cases hx; exact one_vr rfl rfl
    · rename_i hu; cases h2
      obtain ⟨s, rfl, hx, _⟩ := DataW.trod_string hu h1
      cases hx; exact one_vr ⟨s, rfl, rfl, rfl⟩ rfl
    · rename_i hu; cases h2
      rcases DataW.trod_pointer hu h1 with ⟨rfl, _⟩ | ⟨_, _, _, _, _, _, hx, _⟩
      · exact one_vr rfl rfl
      · cases hx
    · rename_i hu; cases h2
      rcases DataW.trod_slice hu h1 with ⟨rfl, _⟩ | ⟨_, _, _, _, _, _, _, _, hx, _⟩
      · exact one_vr rfl rfl
      · cases hx
    · rename_i hu; cases h2
      have := trod_map_nil hu h1
      subst this
      exact one_vr rfl rfl
    · rename_i hu
      obtain ⟨xs, m, _, hx, hl, hm⟩ := trod_struct' hu h1
      simp only at hx
      cases hx
      have := flatAll_ok (ρ := ρ) (r := fun u cs => DataW.trod enc P w base sp held m u cs) (g := flatD P f') (fun u cs d p l a b => ih m u cs d p l a b) cs hl (_root_.List.map (fun (x : Field) => (x.offset, x.type)) _) xs 0 l (by rw [mapM_map']; exact hm) h2
      simpa using this
    · rename_i hu
      obtain ⟨xs, m, _, hx, hl, hm⟩ := trod_array hu h1
      simp only at hx
      cases hx
      have := flatAll_ok (ρ := ρ) (r := fun u cs => DataW.trod enc P w base sp held m u cs) (g := flatD P f') (fun u cs d p l a b => ih m u cs d p l a b) cs hl (_root_.List.map (fun i => (i * P.cellsOf _, _)) _) xs 0 l (by rw [mapM_map']; exact hm) h2
      simpa using this
end
noncomputable def laidFam (l : List AV) : Fam := ⟨0, 0, big + 1, .arr (rowsIn (l.map fun v => [v]) .lf 0) 1 l.length [.bad]⟩
noncomputable def lay1 (P : Program) (h : Hp) (x : String × DataW Unit) : Hp := match P.globalNamed x.1 with
  | some g => (match P.globals[g]? with
    | some gl => (match flatD P 30 gl.type x.2 with
      | some l => putFam h (Pth.ofNat g) (some (laidFam l))
      | none => h)
    | none => h)
  | none => h
noncomputable def hpL (P : Program) (L : List (String × DataW Unit)) : Hp := L.foldl (lay1 P) ⟨Pth.ofNat (P.globals.size + 1), .lf⟩
structure LaidAt (P : Program) (x : String × DataW Unit) (f : Pth) (F : Fam) : Prop where
  mk' :: (ex : ∃ g gl l, P.globalNamed x.1 = some g ∧ P.globals[g]? = some gl ∧ f = Pth.ofNat g ∧ flatD P 30 gl.type x.2 = some l ∧ F = laidFam l)
theorem lay_look {P : Program} : ∀ (L : List (String × DataW Unit)) (h : Hp) (f : Pth) (F : Fam), (L.foldl (lay1 P) h).look f = some F → h.look f = some F ∨ ∃ x ∈ L, LaidAt P x f F := by
  intro L
  induction L with
  | nil => intro h f F hF; exact .inl hF
  | cons x L ih =>
    intro h f F hF
    rw [List.foldl_cons] at hF
    rcases ih _ f F hF with h1 | ⟨y, hy, h1⟩
    · unfold lay1 at h1
      split at h1
      · rename_i g hg
        split at h1
        · rename_i gl hgl
          split at h1
          · rename_i l hl
            rw [look_put] at h1
            split at h1
            · rename_i hf
              cases h1
              exact .inr ⟨x, by simp, ⟨g, gl, l, hg, hgl, hf, hl, rfl⟩⟩
            · exact .inl h1
          · exact .inl h1
        · exact .inl h1
      · exact .inl h1
    · exact .inr ⟨y, by simp [hy], h1⟩
theorem lay_nx {P : Program} : ∀ (L : List (String × DataW Unit)) (h : Hp), (L.foldl (lay1 P) h).nx = h.nx := by
  intro L
  induction L with
  | nil => intro h; rfl
  | cons x L ih =>
    intro h
    rw [List.foldl_cons, ih]
    unfold lay1
    split
    · split
      · split
        · exact nx_put _ _ _
        · rfl
      · rfl
    · rfl
def sizeAt (w : World) (k : Nat) : Nat := match w.heap[k]? with
  | some (.cells c _ _) => c.size
  | _ => 0
def rhoW (G : Nat) (w : World) : Rho := fun f e => if e = 0 ∧ f.toNat ≤ G then some (f.toNat, 0, sizeAt w f.toNat) else none
theorem rhoW_some {G : Nat} {w : World} {f : Pth} {e : Nat} {x : Nat × Nat × Nat} (h : rhoW G w f e = some x) : e = 0 ∧ f.toNat ≤ G ∧ x = (f.toNat, 0, sizeAt w f.toNat) := by
  unfold rhoW at h
  split at h
  · rename_i hc; cases h; exact ⟨hc.1, hc.2, rfl⟩
  · cases h
theorem laid_vars {P : Program} {w : World} : ∀ {L : List (String × DataW Unit)} {ps : List MemPlace}, DataW.LaidVars P w L ps → ∀ x ∈ L, ∃ g t cs fuel p, P.globalNamed x.1 = some g ∧ (P.globals[g]?).map (·.type) = some t ∧ w.var? P x.1 = some cs ∧ DataW.trod (fun _ => ()) P w 0 (fun _ => true) false fuel t cs.toList = some (x.2, p) ∧ ∀ y ∈ MemPlace.row ⟨g, 0, none⟩ cs.size, y ∈ ps := by
  intro L
  induction L with
  | nil => intro ps _ x hx; simp at hx
  | cons y L ih =>
    intro ps h x hx
    obtain ⟨n, d⟩ := y
    obtain ⟨g, t, cs, fuel, p, q, h1, h2, h3, h4, h5, rfl⟩ := h
    rcases List.mem_cons.1 hx with rfl | hx
    · exact ⟨g, t, cs, fuel, p, h1, h2, h3, h4, fun y hy => by simp [hy]⟩
    · obtain ⟨g', t', cs', fuel', p', a1, a2, a3, a4, a5⟩ := ih h5 x hx
      exact ⟨g', t', cs', fuel', p', a1, a2, a3, a4, fun y hy => List.mem_append_right _ (a5 y hy)⟩
theorem laid_rel {P : Program} {w : World} {L : List (String × DataW Unit)} (hw : P.globals.size < w.heap.size) (hL : laidMet P L w) : Rel (rhoW P.globals.size w) (hpL P L).look w := by
  obtain ⟨ps, hv, _, hc⟩ := hL
  refine ⟨fun f F hF => ?_, fun f F e x f' F' e' x' _ _ h1 h2 h3 => ?_, fun f e x hx => ?_⟩
  · rcases lay_look L _ f F hF with h0 | ⟨x, hx, ⟨g, gl, l, h1, h2, rfl, h3, rfl⟩⟩
    · have : (PT.lf : PT Fam).look f = some F := h0
      rw [look_lf] at this; cases this
    obtain ⟨g', t, cs, fuel, p, a1, a2, a3, a4, a5⟩ := laid_vars hv x hx
    rw [h1] at a1; cases a1
    rw [h2] at a2; cases a2
    have hcells : CellsR (rhoW P.globals.size w) l cs.toList := flatD_ok 30 fuel gl.type cs.toList x.2 p l a4 h3
    have hg : g < P.globals.size := (Array.getElem?_eq_some_iff.1 h2).1
    obtain ⟨el, fz, hb⟩ : ∃ el fz, w.heap[g]? = some (.cells cs el fz) := by
      unfold World.var? at a3
      rw [h1] at a3
      simp only [Option.bind_some] at a3
      split at a3
      · cases a3; exact ⟨_, _, by assumption⟩
      · cases a3
    have hsz : sizeAt w g = cs.size := by unfold sizeAt; rw [hb]
    have hlen : l.length = cs.size := by have := hcells.1.length; simpa using this
    have hrows : ∀ row ∈ (l.map fun v => [v]), row.length = 1 := by intro row hr; obtain ⟨v, _, rfl⟩ := List.mem_map.1 hr; rfl
    refine ⟨rowsIn_ok _ _ 0 ⟨rfl, fun p row hp => by rw [look_lf] at hp; cases hp⟩ hrows, ⟨_, by unfold rhoW; rw [toNat_ofNat, if_pos ⟨rfl, Nat.le_of_lt hg⟩]⟩, fun e y hy => by rw [(rhoW_some hy).1]; exact Nat.le_refl _, fun m hm => (by cases hm), (fun _ e y hy => ?_), (fun _ _ _ hm => by cases hm), (fun k hk hb => absurd (show big + 1 ≤ big from hb) (by omega)), fun _ hm => by cases hm⟩
    obtain ⟨rfl, _, rfl⟩ := rhoW_some hy
    rw [toNat_ofNat, hsz]
    refine ⟨⟨cs, el, fz, hb, rfl, ?_⟩, fun i v hi _ => ?_⟩
    · by_cases h0 : cs.size = 0
      · right; rw [h0]; exact Nat.zero_le _
      · have hm : MemPlace.cell g 0 ∈ ps := a5 _ (by
          unfold MemPlace.row
          exact List.mem_map.2 ⟨0, by simp; omega, rfl⟩)
        obtain ⟨⟨c, t, h9⟩, _⟩ := hc g 0 hm
        rw [hb] at h9; cases h9
        exact .inl rfl
    · show CellR _ w g (0 + i) v
      rw [Nat.zero_add]
      have hi' : (Body.arr (rowsIn (l.map fun v => [v]) .lf 0) 1 l.length [.bad]).cell? i = some v := hi
      have hlt : i < 1 * l.length := by
        simp only [Body.cell?] at hi'
        split at hi'
        · assumption
        · cases hi'
      have hlt2 : i < l.length := by omega
      rw [cell_arr_row hlt, Nat.div_one, rowsIn_look, if_pos ⟨Nat.zero_le _, by rw [List.length_map, Nat.zero_add]; exact hlt2⟩, Nat.sub_zero, List.getElem?_map, List.getElem?_eq_getElem hlt2, Nat.mod_one] at hi'
      have hv' : l[i]? = some v := by
        rw [List.getElem?_eq_getElem hlt2]; exact hi'
      obtain ⟨u, b1, b2⟩ := hcells.1.get hv'
      refine ⟨u, ?_, b2, hcells.2 u (List.mem_of_getElem? b1)⟩
      rw [cell_cells hb]; simpa using b1
  · obtain ⟨_, _, rfl⟩ := rhoW_some h1
    obtain ⟨_, _, rfl⟩ := rhoW_some h2
    exact ⟨Pth.toNat_inj h3, rfl⟩
  · obtain ⟨_, h2, rfl⟩ := rhoW_some hx
    show f.toNat < _; omega
theorem laid_ro {P : Program} {L : List (String × DataW Unit)} {f : Pth} {F : Fam} (h : (hpL P L).look f = some F) : big < F.old := by
  rcases lay_look L _ f F h with h0 | ⟨x, hx, ⟨g, gl, l, h1, h2, rfl, h3, rfl⟩⟩
  · have : (PT.lf : PT Fam).look f = some F := h0
    rw [look_lf] at this; cases this
  · exact Nat.lt_succ_self _
end Go.Am

namespace Go.Am
open Go Go.RowKit

/-! ### A closed call -/
theorem all_ops {P : Program} (N T : Nat) (o : Oper) : OpG P N T o := (spec o).toG
theorem calls_ok {P : Program} (hm : P.follows .mixedOrders = true) (nm : Nat → Nat) (n d : Nat) : CallOk P (call P nm n d) :=
  call_ok (fun _ _ o => all_ops _ _ o) (fun _ _ ops => draw_ok hm (fun o => spec o) ops) xt_ok nm n d
noncomputable def run0 (P : Program) (nm : Nat → Nat) (n d f : Nat) (l : List AV) (L : List (String × DataW Unit)) : Out := call P nm n d f l (hpL P L) fun v h => .ok v h
/-- .. in a world that grew from the laid one -/
theorem closed_trG {P : Program} (hm : P.follows .mixedOrders = true) {nm : Nat → Nat} {n d f : Nat} {l : List AV} {L : List (String × DataW Unit)} {v : AV} {h' : Hp} (e : run0 P nm n d f l L = .ok v h') {fn : Func} (hfn : P.funcs[f]? = some fn) (hb : (fn.body.isSome && !(fn.name == "runtime.NumGoroutine")) = true)
    (w w1 : World) (hw : P.globals.size < w.heap.size) (hL : laidMet P L w) (hg : Below w.heap.size w w1) (l' : Array Value) (hl : VRs (rhoW P.globals.size w) l l'.toList) : Calls P f l' w1 fun e w' => ∃ ρ v', e = .returned v' ∧ VR ρ v v' ∧ Below w1.heap.size w1 w' := by
  obtain ⟨v1, h1, e1, n1, H⟩ := (calls_ok hm nm n d).fn e
  cases e1
  have hnx : (hpL P L).nx.toNat = P.globals.size + 1 := by unfold hpL; rw [lay_nx]; exact toNat_ofNat (P.globals.size + 1)
  have R0 := laid_rel hw hL
  have R : Rel (rhoW P.globals.size w) (hpL P L).look w1 :=
    ⟨fun f F hF => (R0.fam f F hF).mono (Le.refl _) (fun _ _ h => h) (fun e x hx => hg.block _ (R0.lt f e x hx)), R0.sep, fun f e x hx => Nat.lt_of_lt_of_le (R0.lt f e x hx) hg.size⟩
  have hgl : Gl P (rhoW P.globals.size w) := fun g hg => ⟨_, by unfold rhoW; rw [toNat_ofNat, if_pos ⟨rfl, by omega⟩]⟩
  have hfr : Fresh (rhoW P.globals.size w) (hpL P L) h' := by
    intro f e a b
    cases hx : rhoW P.globals.size w f e with
    | none => rfl
    | some x => obtain ⟨_, h2, _⟩ := rhoW_some hx; omega
  rcases H (rhoW P.globals.size w) w1 l' hl hgl R hfr with ⟨v', w', ρ', h2, _, _⟩ | ⟨_, h2⟩
  · exfalso
    cases hbd : fn.body with
    | none => rw [hbd] at hb; simp at hb
    | some c =>
      have hname : (fn.name == "runtime.NumGoroutine") = false := by
        cases hq : (fn.name == "runtime.NumGoroutine") with
        | false => rfl
        | true => rw [hq] at hb; simp at hb
      simp only [callFunc, Sem.run_bind, program, Sem.run, hfn, Result.andThen_ok, hname, hbd] at h2
      cases h2
  · refine h2.mono fun en w' hr => ?_
    cases en with
    | returned v' =>
      obtain ⟨ρ', a1, a2⟩ := hr
      refine ⟨ρ', v', rfl, a1, a2.os, a2.tape, a2.output, a2.size, fun k hk => a2.frame k hk fun f F e x hF hF2 => ?_⟩
      have := laid_ro hF; omega
    | panicked _ => exact hr.elim
    | outgrown => exact hr.elim
theorem closed_tr {P : Program} (hm : P.follows .mixedOrders = true) {nm : Nat → Nat} {n d f : Nat} {l : List AV} {L : List (String × DataW Unit)} {v : AV} {h' : Hp} (e : run0 P nm n d f l L = .ok v h') {fn : Func} (hfn : P.funcs[f]? = some fn) (hb : (fn.body.isSome && !(fn.name == "runtime.NumGoroutine")) = true)
    (w : World) (hw : P.globals.size < w.heap.size) (hL : laidMet P L w) (l' : Array Value) (hl : VRs (rhoW P.globals.size w) l l'.toList) : Calls P f l' w fun e w' => ∃ ρ v', e = .returned v' ∧ VR ρ v v' ∧ Below w.heap.size w w' :=
  closed_trG hm e hfn hb w w hw hL (Below.refl _ _) l' hl
end Go.Am

namespace Go.Am
open Go Go.RowKit Go.WideShapes Go.ChangeShapes

noncomputable def isTrue : Out → Bool
  | .ok (.bool true) _ => true
  | _ => false
theorem isTrue_ok {o : Out} (h : isTrue o = true) : ∃ h', o = .ok (.bool true) h' := by
  unfold isTrue at h
  split at h
  · exact ⟨_, rfl⟩
  · cases h
/-- a call without arguments that answers true, over variables that are laid -/
theorem closed_true {P : Program} (hm : P.follows .mixedOrders = true) {nm : Nat → Nat} {n d f : Nat} {L : List (String × DataW Unit)} (e : isTrue (run0 P nm n d f [] L) = true) {fn : Func} (hfn : P.funcs[f]? = some fn) (hb : (fn.body.isSome && !(fn.name == "runtime.NumGoroutine")) = true)
    (w : World) (hw : P.globals.size < w.heap.size) (hL : laidMet P L w) : Calls P f #[] w fun e w' => e = .returned (.bool true) ∧ Below w.heap.size w w' := by
  obtain ⟨h', e⟩ := isTrue_ok e
  refine (closed_tr hm e hfn hb w hw hL #[] trivial).mono fun en w' hr => ?_
  obtain ⟨ρ, v', h1, h2, h3⟩ := hr
  have h2 : v' = .bool true := h2
  subst h2
  exact ⟨h1, h3⟩
/-- .. in a world that grew from the laid one -/
theorem closed_trueG {P : Program} (hm : P.follows .mixedOrders = true) {nm : Nat → Nat} {n d f : Nat} {L : List (String × DataW Unit)} (e : isTrue (run0 P nm n d f [] L) = true) {fn : Func} (hfn : P.funcs[f]? = some fn) (hb : (fn.body.isSome && !(fn.name == "runtime.NumGoroutine")) = true)
    (w w1 : World) (hw : P.globals.size < w.heap.size) (hL : laidMet P L w) (hg : Below w.heap.size w w1) : Calls P f #[] w1 fun e w' => e = .returned (.bool true) ∧ Below w1.heap.size w1 w' := by
  obtain ⟨h', e⟩ := isTrue_ok e
  refine (closed_trG hm e hfn hb w w1 hw hL hg #[] trivial).mono fun en w' hr => ?_
  obtain ⟨ρ, v', h1, h2, h3⟩ := hr
  have h2 : v' = .bool true := h2
  subst h2
  exact ⟨h1, h3⟩
theorem laid_none {P : Program} {w : World} : laidMet P [] w := ⟨[], rfl, List.nodup_nil, fun _ _ h => by simp at h⟩
/-- the row of a law: it answers true, and leaves what was there alone -/
theorem law_post {H : Type} {enc : TypeId × Value → H} {P : Program} {f : Func} {s : ChangeSpec} {apart fresh handsOn : Bool} {W W' : World} {args : Array Value} {ds : List (DataW H)} {before : List MemPlace} {t : TypeId}
    (hW : DataW.Whole enc P f.params.toList s.vars apart W args.toList ds [] before) (hv : s.vars = []) (hs : s.fn H (ds ++ []) = { results := [.lit (.bool true)], args := ds }) (ht : f.resultTypes = #[t]) (hb : P.underlying t = some .bool)
    (hargs : DataW.TrodAll enc P W' 0 (fun b => decide (b < W.heap.size)) true f.params.toList args.toList ds before) (hk : Below W.heap.size W W') : s.post enc P f apart fresh handsOn false W args (.bool true) W' := by
  refine ⟨ds, [], before, [], before, [], hW, ?_, ?_, ?_, World.keptBut_mono (fun p hp => ⟨hp, .inr (.inl hp)⟩) (hk.frame (· ∈ before)), fun h => by cases h⟩
  · rw [hs, ht]; exact trodAll_mk1 (shut_bool hb true)
  · rw [hs]; exact hargs
  · rw [hs, hv]; rfl
/-- the package-level variables, and the block behind them, lie in memory -/
theorem globals_lie {P : Program} {w : World} (hsh : w.ShapedOpen P) (hl : Nat.ble (P.globals.size + 1) (begin P (fun _ _ => 0) default).world.heap.size = true) : P.globals.size < w.heap.size := by
  obtain ⟨o, _, h1, _⟩ := hsh.2 P.globals.size (Nat.le_refl _) (Nat.le_of_ble_eq_true hl)
  exact (Array.getElem?_eq_some_iff.1 h1).1
/-- a law without arguments, over variables that are laid -/
theorem law_closed {C : Checked} {os : Os} (started : os.Started) {H : Type} {enc : TypeId × Value → H} {f : FuncId} {fn : Func} {s : ChangeSpec} {laid : List (String × DataW Unit)} {t : TypeId}
    (own : ownKnob C.prog.godebug = none) (noInit : C.prog.inits.idxOf? f = none) (hfn : C.prog.funcs[f]? = some fn) (hp : fn.params = #[]) (hv : s.vars = []) (hs : s.fn H ([] ++ []) = { results := [.lit (.bool true)], args := [] }) (ht : fn.resultTypes = #[t]) (hb : C.prog.underlying t = some .bool)
    (hl : Nat.ble (C.prog.globals.size + 1) (begin C.prog (fun _ _ => 0) default).world.heap.size = true)
    (witness : ∃ (w : World) (tape : Tape) (i : Input), w.os = os ∧ (w.forCall tape i).Shaped C.prog ∧ i.vars = [] ∧ Input.okWide C.prog (w.forCall tape i) .any w.heap.size f i ∧
      ((s.pre enc C.prog fn [] false (w.forCall tape i).memory i.args ∧ laidMetH C.prog laid (w.forCall tape i).memory) ∧ sizedMet enc C.prog fn (OpenSpec.ofChange s) false (w.forCall tape i).memory i.args) ∧ ({} : Assume).holds C.prog (lone (Frame.enter C.prog f i.args .normal) [] (w.forCall tape i)))
    (run : ∀ W : World, C.prog.globals.size < W.heap.size → laidMetH C.prog laid W → Calls C.prog f #[] W fun e W' => e = .returned (.bool true) ∧ Below W.heap.size W W') :
    ReturnsInHanded {} C os f .any (fun w args => (s.pre enc C.prog fn [] false w args ∧ laidMetH C.prog laid w) ∧ sizedMet enc C.prog fn (OpenSpec.ofChange s) false w args) (s.post enc C.prog fn false true false false) := by
  refine returnsInHanded_of_calls own started noInit witness ?_
  intro w tape i _ hsh _ _ hpre _
  obtain ⟨⟨⟨ds, gs, before, hw, _⟩, hL⟩, _⟩ := hpre
  have hw' := DataW.Whole.of_heap (w' := w.forCall tape i) (by rfl) hw
  have hL' : laidMetH C.prog laid (w.forCall tape i) := laidMetH.of_heap (w := (w.forCall tape i).memory) (w' := w.forCall tape i) rfl hL
  have hg := globals_lie hsh hl
  generalize w.forCall tape i = W at *
  have hW := hw'
  obtain ⟨p, q, hA0, hV, rfl, hfz, hnd⟩ := hw'
  rw [hp] at hA0
  obtain ⟨ha, rfl, rfl⟩ := trodAll_none hA0
  rw [hv] at hV
  obtain ⟨rfl, rfl⟩ := trodVars_none hV
  rw [ha] at hW ⊢
  refine (run W hg hL').mono fun e W' ⟨he, hk⟩ => ?_
  subst he
  exact ChangeSpec.post_blind (law_post hW hv hs ht hb (by rw [hp]; exact trodAll_mk0) hk)
/-- what is read stays as it was read -/
theorem trod_all_below {H : Type} {enc : TypeId × Value → H} {P : Program} (lo : laidOutB P = true) {W W' : World} (hb : Below W.heap.size W W') :
    ∀ {ts : List TypeId} {vs : List Value} {ds : List (DataW H)} {ps : List MemPlace}, (ts.all fun t => P.readableRec t && decide (t < P.types.size)) = true → DataW.TrodAll enc P W 0 (fun _ => true) true ts vs ds ps → (∀ x ∈ ps, x.block < W.heap.size) →
      DataW.TrodAll enc P W' 0 (fun b => decide (b < W.heap.size)) true ts vs ds ps := by
  intro ts
  induction ts with
  | nil =>
    intro vs ds ps _ h _
    obtain ⟨rfl, rfl, rfl⟩ := trodAll_nil h
    exact trodAll_mk0
  | cons t ts ih =>
    intro vs ds ps hr h hlt
    rw [List.all_cons, Bool.and_eq_true] at hr
    obtain ⟨v, vs', d, ds', p, q, rfl, rfl, rfl, h1, h2⟩ := trodAll_cons h
    simp only [Bool.and_eq_true, decide_eq_true_eq] at hr
    exact trodAll_cons_mk (Below.trod lo hr.1.1 hr.1.2 h1 hb fun x hx => hlt x (List.mem_append_left _ hx)) (ih (by simpa using hr.2) h2 fun x hx => hlt x (List.mem_append_right _ hx))
/-- the heart of a law's row -/
theorem law_core {C : Checked} {H : Type} {enc : TypeId × Value → H} {f : FuncId} {fn : Func} {s : ChangeSpec} {t : TypeId}
    (hfn : C.prog.funcs[f]? = some fn) (hv : s.vars = []) (hs : ∀ ds : List (DataW H), ds.length = fn.params.size → s.fn H (ds ++ []) = { results := [.lit (.bool true)], args := ds }) (ht : fn.resultTypes = #[t]) (hb : C.prog.underlying t = some .bool)
    (hl : Nat.ble (C.prog.globals.size + 1) (begin C.prog (fun _ _ => 0) default).world.heap.size = true) (lo : laidOutB C.prog = true) (hr : (fn.params.toList.all fun t => C.prog.readableRec t && decide (t < C.prog.types.size)) = true)
    {w : World} {tape : Tape} {i : Input} (hsh : (w.forCall tape i).ShapedOpen C.prog) (hok : Input.okWide C.prog (w.forCall tape i) .any w.heap.size f i) (hpre : s.pre enc C.prog fn [] false (w.forCall tape i).memory i.args)
    (run : ∀ (W : World) (base : Nat) (ds : List (DataW H)) (before : List MemPlace), W = w.forCall tape i → C.prog.globals.size < W.heap.size → (∀ (j : Nat) t v, fn.params[j]? = some t → i.args[j]? = some v → Value.okWide C.prog W .any base t v) →
      DataW.TrodAll enc C.prog W 0 (fun _ => true) true fn.params.toList i.args.toList ds before → Calls C.prog f i.args W fun e W' => e = .returned (.bool true) ∧ Below W.heap.size W W') :
    Calls C.prog f i.args (w.forCall tape i) fun
        | .returned v, w' => s.post enc C.prog fn false true false false (w.forCall tape i).blind i.args v w'.blind
        | _, _ => False := by
  obtain ⟨_, _, _, fn', hfn', _, _, _, _, hval⟩ := hok
  have e : fn' = fn := Option.some.inj (hfn'.symm.trans hfn)
  subst e
  obtain ⟨ds, gs, before, hw, _⟩ := hpre
  have hw' := DataW.Whole.of_heap (w' := w.forCall tape i) (by rfl) hw
  have hg := globals_lie hsh hl
  generalize hWW : w.forCall tape i = W at *
  have hW := hw'
  have hlt : ∀ x ∈ before, x.block < W.heap.size := fun x hx => hW.lt x hx
  obtain ⟨p, q, hA0, hV, rfl, hfz, hnd⟩ := hw'
  rw [hv] at hV
  obtain ⟨rfl, rfl⟩ := trodVars_none hV
  have hlen : ds.length = fn'.params.size := by
    have : ∀ {ts : List TypeId} {vs : List Value} {ds : List (DataW H)} {ps : List MemPlace}, DataW.TrodAll enc C.prog W 0 (fun _ => true) true ts vs ds ps → ds.length = ts.length := by
      intro ts
      induction ts with
      | nil => intro vs ds ps h; obtain ⟨_, rfl, _⟩ := trodAll_nil h; rfl
      | cons t ts ih => intro vs ds ps h; obtain ⟨v, vs', d, ds', p, q, rfl, rfl, rfl, _, h2⟩ := trodAll_cons h; simp [ih h2]
    have := this hA0
    simpa using this
  simp only [List.append_nil] at hlt hW
  refine (run W _ ds p rfl hg hval hA0).mono fun e W' ⟨he, hk⟩ => ?_
  subst he
  exact ChangeSpec.post_blind (law_post hW hv (hs ds hlen) ht hb (trod_all_below lo hk hr hA0 hlt) hk)
/-- a law, over variables that are laid -/
theorem law_any {C : Checked} {os : Os} (started : os.Started) {H : Type} {enc : TypeId × Value → H} {f : FuncId} {fn : Func} {s : ChangeSpec} {laid : List (String × DataW Unit)} {t : TypeId}
    (own : ownKnob C.prog.godebug = none) (noInit : C.prog.inits.idxOf? f = none) (hfn : C.prog.funcs[f]? = some fn) (hv : s.vars = []) (hs : ∀ ds : List (DataW H), ds.length = fn.params.size → s.fn H (ds ++ []) = { results := [.lit (.bool true)], args := ds }) (ht : fn.resultTypes = #[t]) (hb : C.prog.underlying t = some .bool)
    (hl : Nat.ble (C.prog.globals.size + 1) (begin C.prog (fun _ _ => 0) default).world.heap.size = true) (lo : laidOutB C.prog = true) (hr : (fn.params.toList.all fun t => C.prog.readableRec t && decide (t < C.prog.types.size)) = true)
    (witness : ∃ (w : World) (tape : Tape) (i : Input), w.os = os ∧ (w.forCall tape i).Shaped C.prog ∧ i.vars = [] ∧ Input.okWide C.prog (w.forCall tape i) .any w.heap.size f i ∧
      ((s.pre enc C.prog fn [] false (w.forCall tape i).memory i.args ∧ laidMetH C.prog laid (w.forCall tape i).memory) ∧ sizedMet enc C.prog fn (OpenSpec.ofChange s) false (w.forCall tape i).memory i.args) ∧ ({} : Assume).holds C.prog (lone (Frame.enter C.prog f i.args .normal) [] (w.forCall tape i)))
    (run : ∀ (W : World) (base : Nat) (args : Array Value) (ds : List (DataW H)) (before : List MemPlace), C.prog.globals.size < W.heap.size → laidMetH C.prog laid W → (∀ (j : Nat) t v, fn.params[j]? = some t → args[j]? = some v → Value.okWide C.prog W .any base t v) →
      DataW.TrodAll enc C.prog W 0 (fun _ => true) true fn.params.toList args.toList ds before → Calls C.prog f args W fun e W' => e = .returned (.bool true) ∧ Below W.heap.size W W') :
    ReturnsInHanded {} C os f .any (fun w args => (s.pre enc C.prog fn [] false w args ∧ laidMetH C.prog laid w) ∧ sizedMet enc C.prog fn (OpenSpec.ofChange s) false w args) (s.post enc C.prog fn false true false false) := by
  refine returnsInHanded_of_calls own started noInit witness ?_
  intro w tape i _ hsh _ hok hpre _
  have hL' : laidMetH C.prog laid (w.forCall tape i) := laidMetH.of_heap (w := (w.forCall tape i).memory) (w' := w.forCall tape i) rfl hpre.1.2
  exact law_core hfn hv hs ht hb hl lo hr hsh hok hpre.1.1 fun W base ds before hWW hg hval hA => run W base i.args ds before hg (hWW ▸ hL') hval hA
/-- a law, over no variable -/
theorem law_plain {C : Checked} {os : Os} (started : os.Started) {H : Type} {enc : TypeId × Value → H} {f : FuncId} {fn : Func} {s : ChangeSpec} {t : TypeId}
    (own : ownKnob C.prog.godebug = none) (noInit : C.prog.inits.idxOf? f = none) (hfn : C.prog.funcs[f]? = some fn) (hv : s.vars = []) (hs : ∀ ds : List (DataW H), ds.length = fn.params.size → s.fn H (ds ++ []) = { results := [.lit (.bool true)], args := ds }) (ht : fn.resultTypes = #[t]) (hb : C.prog.underlying t = some .bool)
    (hl : Nat.ble (C.prog.globals.size + 1) (begin C.prog (fun _ _ => 0) default).world.heap.size = true) (lo : laidOutB C.prog = true) (hr : (fn.params.toList.all fun t => C.prog.readableRec t && decide (t < C.prog.types.size)) = true)
    (witness : ∃ (w : World) (tape : Tape) (i : Input), w.os = os ∧ (w.forCall tape i).Shaped C.prog ∧ i.vars = [] ∧ Input.okWide C.prog (w.forCall tape i) .any w.heap.size f i ∧
      s.pre6 enc C.prog fn [] false (w.forCall tape i).memory i.args ∧ ({} : Assume).holds C.prog (lone (Frame.enter C.prog f i.args .normal) [] (w.forCall tape i)))
    (run : ∀ (W : World) (base : Nat) (args : Array Value) (ds : List (DataW H)) (before : List MemPlace), C.prog.globals.size < W.heap.size → (∀ (j : Nat) t v, fn.params[j]? = some t → args[j]? = some v → Value.okWide C.prog W .any base t v) →
      DataW.TrodAll enc C.prog W 0 (fun _ => true) true fn.params.toList args.toList ds before → Calls C.prog f args W fun e W' => e = .returned (.bool true) ∧ Below W.heap.size W W') :
    ReturnsInHanded {} C os f .any (s.pre6 enc C.prog fn [] false) (s.post enc C.prog fn false true false false) := by
  refine returnsInHanded_of_calls own started noInit witness ?_
  intro w tape i _ hsh _ hok hpre _
  exact law_core hfn hv hs ht hb hl lo hr hsh hok hpre.1 fun W base ds before _ hg hval hA => run W base i.args ds before hg hval hA
end Go.Am

namespace Go.Am
open Go Go.RowKit Go.WideShapes Go.ChangeShapes

/-! ### A variable that is not laid: a number, of which it is known where it lies -/
noncomputable def laidIvl (lo hi : Int) : Fam := ⟨0, 0, big + 1, .arr (.nd .lf (some [.ifc 0 (.tup [.bad, .int .i64 lo, .int .i64 hi])]) .lf) 1 1 [.bad]⟩
noncomputable def hpI (P : Program) (L : List (String × DataW Unit)) (g : Nat) (lo hi : Int) : Hp := putFam (hpL P L) (Pth.ofNat g) (some (laidIvl lo hi))
noncomputable def run0I (P : Program) (nm : Nat → Nat) (n d f : Nat) (l : List AV) (L : List (String × DataW Unit)) (g : Nat) (lo hi : Int) : Out := call P nm n d f l (hpI P L g lo hi) fun v h => .ok v h
structure IvlMet (P : Program) (w : World) (g : Nat) (lo hi : Int) : Prop where
  lt : g < P.globals.size
  ex : ∃ n el, w.heap[g]? = some (.cells #[.int .i64 n] el (0, 0)) ∧ lo ≤ n ∧ n ≤ hi
theorem ivl_rel {P : Program} {w : World} {L : List (String × DataW Unit)} {g : Nat} {lo hi : Int} (hw : P.globals.size < w.heap.size) (hL : laidMet P L w) (hI : IvlMet P w g lo hi) : Rel (rhoW P.globals.size w) (hpI P L g lo hi).look w := by
  have R0 := laid_rel hw hL
  obtain ⟨hg, n, el, hb, h1, h2⟩ := hI
  have hsz : sizeAt w g = 1 := by unfold sizeAt; rw [hb]; rfl
  refine ⟨fun f F hF => ?_, fun f F e x f' F' e' x' _ _ h1 h2 h3 => ?_, R0.lt⟩
  · have hl : (hpI P L g lo hi).look f = if f = Pth.ofNat g then some (laidIvl lo hi) else (hpL P L).look f := look_put _ _ _ _
    rw [hl] at hF
    split at hF
    · rename_i hf
      cases hF
      subst hf
      refine ⟨⟨rfl, fun p row hp => ?_⟩, ⟨_, by unfold rhoW; rw [toNat_ofNat, if_pos ⟨rfl, Nat.le_of_lt hg⟩]⟩, fun e y hy => by rw [(rhoW_some hy).1]; exact Nat.le_refl _, fun m hm => (by cases hm), fun _ e y hy => ?_, (fun _ _ _ hm => by cases hm), (fun k hk hb => absurd (show big + 1 ≤ big from hb) (by omega)), fun _ hm => by cases hm⟩
      · cases p with
        | e => cases hp; rfl
        | l p => have hp : (PT.lf : PT (List AV)).look p = some row := hp; rw [look_lf] at hp; cases hp
        | r p => have hp : (PT.lf : PT (List AV)).look p = some row := hp; rw [look_lf] at hp; cases hp
      · obtain ⟨rfl, _, rfl⟩ := rhoW_some hy
        rw [toNat_ofNat, hsz]
        refine ⟨⟨_, el, _, hb, rfl, .inl rfl⟩, fun i v hcl _ => ?_⟩
        have hlt : i < 1 * 1 := by
          have hi' : (Body.arr (.nd .lf (some [.ifc 0 (.tup [.bad, .int .i64 lo, .int .i64 hi])]) .lf) 1 1 [.bad]).cell? i = some v := hcl
          simp only [Body.cell?] at hi'
          split at hi'
          · assumption
          · cases hi'
        obtain rfl : i = 0 := by omega
        have hv : v = .ifc 0 (.tup [.bad, .int .i64 lo, .int .i64 hi]) := by
          have hi' : some (AV.ifc 0 (.tup [.bad, .int .i64 lo, .int .i64 hi])) = some v := hcl
          cases hi'; rfl
        subst hv
        refine ⟨.int .i64 n, ?_, .inr ⟨_, _, _, n, rfl, h1, h2, rfl⟩, rfl⟩
        show w.cell? ⟨g, 0 + 0, none⟩ = _
        unfold World.cell?
        rw [hb]; rfl
    · exact R0.fam f F hF
  · obtain ⟨_, _, rfl⟩ := rhoW_some h1
    obtain ⟨_, _, rfl⟩ := rhoW_some h2
    exact ⟨Pth.toNat_inj h3, rfl⟩
theorem ivl_ro {P : Program} {L : List (String × DataW Unit)} {g : Nat} {lo hi : Int} {f : Pth} {F : Fam} (h : (hpI P L g lo hi).look f = some F) : big < F.old := by
  have hl : (hpI P L g lo hi).look f = if f = Pth.ofNat g then some (laidIvl lo hi) else (hpL P L).look f := look_put _ _ _ _
  rw [hl] at h
  split at h
  · cases h; exact Nat.lt_succ_self _
  · exact laid_ro h
theorem closed_trI {P : Program} (hm : P.follows .mixedOrders = true) {nm : Nat → Nat} {n d f : Nat} {l : List AV} {L : List (String × DataW Unit)} {g : Nat} {lo hi : Int} {v : AV} {h' : Hp} (e : run0I P nm n d f l L g lo hi = .ok v h') {fn : Func} (hfn : P.funcs[f]? = some fn) (hb : (fn.body.isSome && !(fn.name == "runtime.NumGoroutine")) = true)
    (w w1 : World) (hw : P.globals.size < w.heap.size) (hL : laidMet P L w) (hI : IvlMet P w g lo hi) (hg : Below w.heap.size w w1) (l' : Array Value) (hl : VRs (rhoW P.globals.size w) l l'.toList) : Calls P f l' w1 fun e w' => ∃ ρ v', e = .returned v' ∧ VR ρ v v' ∧ Below w1.heap.size w1 w' := by
  obtain ⟨v1, h1, e1, n1, H⟩ := (calls_ok hm nm n d).fn e
  cases e1
  have hnx : (hpI P L g lo hi).nx.toNat = P.globals.size + 1 := by unfold hpI; rw [nx_put]; unfold hpL; rw [lay_nx]; exact toNat_ofNat (P.globals.size + 1)
  have R0 := ivl_rel hw hL hI
  have R : Rel (rhoW P.globals.size w) (hpI P L g lo hi).look w1 :=
    ⟨fun f F hF => (R0.fam f F hF).mono (Le.refl _) (fun _ _ h => h) (fun e x hx => hg.block _ (R0.lt f e x hx)), R0.sep, fun f e x hx => Nat.lt_of_lt_of_le (R0.lt f e x hx) hg.size⟩
  have hgl : Gl P (rhoW P.globals.size w) := fun g hg => ⟨_, by unfold rhoW; rw [toNat_ofNat, if_pos ⟨rfl, by omega⟩]⟩
  have hfr : Fresh (rhoW P.globals.size w) (hpI P L g lo hi) h' := by
    intro f e a b
    cases hx : rhoW P.globals.size w f e with
    | none => rfl
    | some x => obtain ⟨_, h2, _⟩ := rhoW_some hx; omega
  rcases H (rhoW P.globals.size w) w1 l' hl hgl R hfr with ⟨v', w', ρ', h2, _, _⟩ | ⟨_, h2⟩
  · exfalso
    cases hbd : fn.body with
    | none => rw [hbd] at hb; simp at hb
    | some c =>
      have hname : (fn.name == "runtime.NumGoroutine") = false := by
        cases hq : (fn.name == "runtime.NumGoroutine") with
        | false => rfl
        | true => rw [hq] at hb; simp at hb
      simp only [callFunc, Sem.run_bind, program, Sem.run, hfn, Result.andThen_ok, hname, hbd] at h2
      cases h2
  · refine h2.mono fun en w' hr => ?_
    cases en with
    | returned v' =>
      obtain ⟨ρ', a1, a2⟩ := hr
      refine ⟨ρ', v', rfl, a1, a2.os, a2.tape, a2.output, a2.size, fun k hk => a2.frame k hk fun f F e x hF hF2 => ?_⟩
      have := ivl_ro hF; omega
    | panicked _ => exact hr.elim
    | outgrown => exact hr.elim
/-- a call without arguments that answers true, over variables that are laid and one that lies in an interval -/
theorem closed_trueI {P : Program} (hm : P.follows .mixedOrders = true) {nm : Nat → Nat} {n d f : Nat} {L : List (String × DataW Unit)} {g : Nat} {lo hi : Int} (e : isTrue (run0I P nm n d f [] L g lo hi) = true) {fn : Func} (hfn : P.funcs[f]? = some fn) (hb : (fn.body.isSome && !(fn.name == "runtime.NumGoroutine")) = true)
    (w w1 : World) (hw : P.globals.size < w.heap.size) (hL : laidMet P L w) (hI : IvlMet P w g lo hi) (hg : Below w.heap.size w w1) : Calls P f #[] w1 fun e w' => e = .returned (.bool true) ∧ Below w1.heap.size w1 w' := by
  obtain ⟨h', e⟩ := isTrue_ok e
  refine (closed_trI hm e hfn hb w w1 hw hL hI hg #[] trivial).mono fun en w' hr => ?_
  obtain ⟨ρ, v', h1, h2, h3⟩ := hr
  have h2 : v' = .bool true := h2
  subst h2
  exact ⟨h1, h3⟩
/-- a variable of a number's type holds some number -/
theorem int_of_shape {P : Program} {w : World} {g : Nat} {t : TypeId} {zero : Array Value} (h : w.ShapedOpen P) (hg : g < P.globals.size)
    (h0 : ((begin P (fun _ _ => 0) default).world.heap[g]?).bind Obj.row? = some (zero, t)) (hz : zero.size = 1)
    (hb : P.buildable t = true) (hc : P.cellTypes P.depth t = some [t]) (hu : P.underlying t = some (.int .i64)) : ∃ n, w.heap[g]? = some (.cells #[.int .i64 n] t (0, 0)) ∧ -9223372036854775808 ≤ n ∧ n ≤ 9223372036854775807 := by
  obtain ⟨cs, hh, hs, hr⟩ := h.1 g zero t hg h0
  obtain ⟨ts, hts, _, hall⟩ := hr hb
  rw [hc] at hts
  cases hts
  have h1 : 0 < cs.size := by omega
  obtain ⟨u, hu', hok⟩ := hall 0 cs[0] (by simp [h1])
  have : u = t := by simpa using hu'.symm
  subst this
  unfold Cell.ok at hok
  rw [hu] at hok
  have hcs : cs = #[cs[0]] := by
    apply Array.ext
    · simp; omega
    · intro i hi1 hi2
      simp at hi2
      subst hi2; rfl
  cases hv : cs[0] <;> rw [hv] at hok <;> first | (simp at hok; done) | skip
  rename_i k n
  obtain ⟨rfl, hn⟩ := hok
  rw [hcs, hv] at hh
  refine ⟨n, hh, ?_⟩
  simpa [IntKind.has, IntKind.min, IntKind.max, IntKind.signed, IntKind.bits] using hn
/-- a law without arguments, over variables that are laid -/
theorem law_closedS {C : Checked} {os : Os} (started : os.Started) {H : Type} {enc : TypeId × Value → H} {f : FuncId} {fn : Func} {s : ChangeSpec} {laid : List (String × DataW Unit)} {t : TypeId}
    (own : ownKnob C.prog.godebug = none) (noInit : C.prog.inits.idxOf? f = none) (hfn : C.prog.funcs[f]? = some fn) (hp : fn.params = #[]) (hv : s.vars = []) (hs : s.fn H ([] ++ []) = { results := [.lit (.bool true)], args := [] }) (ht : fn.resultTypes = #[t]) (hb : C.prog.underlying t = some .bool)
    (hl : Nat.ble (C.prog.globals.size + 1) (begin C.prog (fun _ _ => 0) default).world.heap.size = true)
    (witness : ∃ (w : World) (tape : Tape) (i : Input), w.os = os ∧ (w.forCall tape i).Shaped C.prog ∧ i.vars = [] ∧ Input.okWide C.prog (w.forCall tape i) .any w.heap.size f i ∧
      ((s.pre enc C.prog fn [] false (w.forCall tape i).memory i.args ∧ laidMetH C.prog laid (w.forCall tape i).memory) ∧ sizedMet enc C.prog fn (OpenSpec.ofChange s) false (w.forCall tape i).memory i.args) ∧ ({} : Assume).holds C.prog (lone (Frame.enter C.prog f i.args .normal) [] (w.forCall tape i)))
    (run : ∀ W : World, W.ShapedOpen C.prog → C.prog.globals.size < W.heap.size → laidMetH C.prog laid W → Calls C.prog f #[] W fun e W' => e = .returned (.bool true) ∧ Below W.heap.size W W') :
    ReturnsInHanded {} C os f .any (fun w args => (s.pre enc C.prog fn [] false w args ∧ laidMetH C.prog laid w) ∧ sizedMet enc C.prog fn (OpenSpec.ofChange s) false w args) (s.post enc C.prog fn false true false false) := by
  refine returnsInHanded_of_calls own started noInit witness ?_
  intro w tape i _ hsh _ _ hpre _
  obtain ⟨⟨⟨ds, gs, before, hw, _⟩, hL⟩, _⟩ := hpre
  have hw' := DataW.Whole.of_heap (w' := w.forCall tape i) (by rfl) hw
  have hL' : laidMetH C.prog laid (w.forCall tape i) := laidMetH.of_heap (w := (w.forCall tape i).memory) (w' := w.forCall tape i) rfl hL
  have hg := globals_lie hsh hl
  generalize w.forCall tape i = W at *
  have hW := hw'
  obtain ⟨p, q, hA0, hV, rfl, hfz, hnd⟩ := hw'
  rw [hp] at hA0
  obtain ⟨ha, rfl, rfl⟩ := trodAll_none hA0
  rw [hv] at hV
  obtain ⟨rfl, rfl⟩ := trodVars_none hV
  rw [ha] at hW ⊢
  refine (run W hsh hg hL').mono fun e W' ⟨he, hk⟩ => ?_
  subst he
  exact ChangeSpec.post_blind (law_post hW hv hs ht hb (by rw [hp]; exact trodAll_mk0) hk)
/-- a law, over variables that are laid -/
theorem law_anyS {C : Checked} {os : Os} (started : os.Started) {H : Type} {enc : TypeId × Value → H} {f : FuncId} {fn : Func} {s : ChangeSpec} {laid : List (String × DataW Unit)} {t : TypeId}
    (own : ownKnob C.prog.godebug = none) (noInit : C.prog.inits.idxOf? f = none) (hfn : C.prog.funcs[f]? = some fn) (hv : s.vars = []) (hs : ∀ ds : List (DataW H), ds.length = fn.params.size → s.fn H (ds ++ []) = { results := [.lit (.bool true)], args := ds }) (ht : fn.resultTypes = #[t]) (hb : C.prog.underlying t = some .bool)
    (hl : Nat.ble (C.prog.globals.size + 1) (begin C.prog (fun _ _ => 0) default).world.heap.size = true) (lo : laidOutB C.prog = true) (hr : (fn.params.toList.all fun t => C.prog.readableRec t && decide (t < C.prog.types.size)) = true)
    (witness : ∃ (w : World) (tape : Tape) (i : Input), w.os = os ∧ (w.forCall tape i).Shaped C.prog ∧ i.vars = [] ∧ Input.okWide C.prog (w.forCall tape i) .any w.heap.size f i ∧
      ((s.pre enc C.prog fn [] false (w.forCall tape i).memory i.args ∧ laidMetH C.prog laid (w.forCall tape i).memory) ∧ sizedMet enc C.prog fn (OpenSpec.ofChange s) false (w.forCall tape i).memory i.args) ∧ ({} : Assume).holds C.prog (lone (Frame.enter C.prog f i.args .normal) [] (w.forCall tape i)))
    (run : ∀ (W : World) (base : Nat) (args : Array Value) (ds : List (DataW H)) (before : List MemPlace), W.ShapedOpen C.prog → C.prog.globals.size < W.heap.size → laidMetH C.prog laid W → (∀ (j : Nat) t v, fn.params[j]? = some t → args[j]? = some v → Value.okWide C.prog W .any base t v) →
      DataW.TrodAll enc C.prog W 0 (fun _ => true) true fn.params.toList args.toList ds before → Calls C.prog f args W fun e W' => e = .returned (.bool true) ∧ Below W.heap.size W W') :
    ReturnsInHanded {} C os f .any (fun w args => (s.pre enc C.prog fn [] false w args ∧ laidMetH C.prog laid w) ∧ sizedMet enc C.prog fn (OpenSpec.ofChange s) false w args) (s.post enc C.prog fn false true false false) := by
  refine returnsInHanded_of_calls own started noInit witness ?_
  intro w tape i _ hsh _ hok hpre _
  have hL' : laidMetH C.prog laid (w.forCall tape i) := laidMetH.of_heap (w := (w.forCall tape i).memory) (w' := w.forCall tape i) rfl hpre.1.2
  exact law_core hfn hv hs ht hb hl lo hr hsh hok hpre.1.1 fun W base ds before hWW hg hval hA => run W base i.args ds before (hWW ▸ hsh) hg (hWW ▸ hL') hval hA
end Go.Am

/- Numbers in order. No condition. -/
namespace Go.Am
def insI (x : Int) : List Int → List Int
  | [] => [x]
  | y :: l => if x ≤ y then x :: y :: l else y :: insI x l
def isort : List Int → List Int
  | [] => []
  | x :: l => insI x (isort l)
theorem insI_perm (x : Int) : ∀ l, (insI x l).Perm (x :: l)
  | [] => List.Perm.refl _
  | y :: l => by
    unfold insI
    split
    · exact List.Perm.refl _
    · exact ((insI_perm x l).cons y).trans (List.Perm.swap x y l)
theorem isort_perm : ∀ l, (isort l).Perm l
  | [] => List.Perm.refl _
  | x :: l => (insI_perm x _).trans ((isort_perm l).cons x)
theorem isort_len (l : List Int) : (isort l).length = l.length := (isort_perm l).length_eq
def Rises (l : List Int) : Prop := l.Pairwise (· ≤ ·)
theorem insI_rises {x : Int} : ∀ {l : List Int}, Rises l → Rises (insI x l)
  | [], _ => List.pairwise_singleton _ _
  | y :: l, h => by
    have h1 := List.pairwise_cons.1 h
    unfold insI
    split
    · rename_i hxy
      refine List.pairwise_cons.2 ⟨fun z hz => ?_, h⟩
      rcases List.mem_cons.1 hz with rfl | hz
      · exact hxy
      · exact Int.le_trans hxy (h1.1 z hz)
    · rename_i hxy
      refine List.pairwise_cons.2 ⟨fun z hz => ?_, insI_rises h1.2⟩
      rcases List.mem_cons.1 ((insI_perm x l).mem_iff.1 hz) with rfl | hz
      · omega
      · exact h1.1 z hz
theorem isort_rises : ∀ l, Rises (isort l)
  | [] => List.Pairwise.nil
  | _ :: l => insI_rises (isort_rises l)
theorem rises_one {l l' : List Int} (h : l.Perm l') (h1 : Rises l) (h2 : Rises l') : l = l' :=
  List.Perm.eq_of_pairwise (le := fun a b : Int => a ≤ b) (fun a b _ _ h1 h2 => Int.le_antisymm h1 h2) h1 h2 h
theorem isort_of {l s : List Int} (h : s.Perm l) (hr : Rises s) : s = isort l := rises_one (h.trans (isort_perm l).symm) hr (isort_rises l)
theorem isort_of_perm {l l' : List Int} (h : l.Perm l') : isort l = isort l' := rises_one (((isort_perm l).trans h).trans (isort_perm l').symm) (isort_rises l) (isort_rises l')
end Go.Am

namespace Go.Am
open Go Go.RowKit

/-! ### Functions that are known by a contract: the keys of a map, in order -/
/-- how many keys -/
def capK : IntKind → Nat
  | .u8 => 12
  | _ => 1
def RiseC (P : Program) (f : Nat) (kd : IntKind) (el : Nat) : Prop :=
  ∀ w b es ck (ks : List Int), w.heap[b]? = some (.map es ck) → es.toList.map (·.key) = ks.map (Value.int kd) → Born es ck → ks.Nodup → ks.length ≤ capK kd → (∀ n ∈ ks, 0 ≤ n ∧ n < 256) →
    Calls P f #[.map (some b)] w fun e w' => ∃ v, e = .returned v ∧ w'.ownsRow w.heap.size el 1 v ks.length ((isort ks).map (Value.int kd)) ∧ (v = .slice none 0 0 ↔ ks = []) ∧ Below w.heap.size w w'
noncomputable def keysK (kd : IntKind) (l : List (AV × AV)) (k : List Int → Out) : Out :=
  List.rec (motive := fun _ => (List Int → Out) → Out) (fun k => k []) (fun p _ ih k => p.1.asInt fun kd' n => bc (kEq kd' kd) (ih fun l => k (n :: l)) (.no 160)) l k
theorem keysK_ok {kd : IntKind} {r : AV} {hF : Hp} : ∀ {l : List (AV × AV)} {k : List Int → Out}, keysK kd l k = .ok r hF → ∃ ks, k ks = .ok r hF ∧ l.map (·.1) = ks.map (AV.int kd) := by
  intro l
  induction l with
  | nil => intro k e; exact ⟨[], e, rfl⟩
  | cons p l ih =>
    intro k e
    obtain ⟨kd', n, h1, e1⟩ := asInt_ok (show p.1.asInt (fun kd' n => bc (kEq kd' kd) (keysK kd l fun l => k (n :: l)) (.no 160)) = .ok r hF from e)
    obtain ⟨h2, e2⟩ := bc_ok e1
    have h2 := kEq_ok h2
    subst h2
    obtain ⟨ks, e3, h3⟩ := ih e2
    exact ⟨n :: ks, e3, by simp [h1, h3]⟩
def rangeB (ks : List Int) : Bool := ks.all fun n => decide (0 ≤ n) && decide (n < 256)
def bytesI (ks : List Int) : List UInt8 := (isort ks).map fun n => UInt8.ofNat n.toNat
noncomputable def riseB (kd : IntKind) (el : Nat) (ks : List Int) (h : Hp) (k : AV → Hp → Out) : Out :=
  match ks, kd with
  | [], _ => k .nsl h
  | [n], .i64 => newFam h (Nat.succ el) (.arr (.nd .lf (some [.int .i64 n]) .lf) 1 1 [.bad]) fun f h => k (.slc f 0 1 0 1) h
  | _, .u8 => natK (leNat (bytesI ks)) fun m => natK ks.length fun len => newFam h (Nat.succ el) (.byt m len) fun f h => k (.slc f 0 len 0 1) h
  | _, _ => .no 163
noncomputable def riseK (kd : IntKind) (el : Nat) (l : List AV) (h : Hp) (k : AV → Hp → Out) : Out :=
  bc (lenIs l 1) (nthK l 0 fun v => v.asMp fun o => Option.rec (motive := fun _ => Out) (.no 164) (fun q => mapK h q fun es => keysK kd es fun ks => bc (Nat.ble ks.length (capK kd) && rangeB ks && decide ks.Nodup) (riseB kd el ks h k) (.no 161)) o) (.no 162)
/-- a block that the call has made, named by a new family -/
theorem Rel.adopt {ρ : Rho} {h : Hp} {w w' : World} (R : Rel ρ h.look w) (hB : Below w.heap.size w w') {g el cs : Nat} {b : Body} {o : Obj} (hg : w.heap.size ≤ g) (ho : w'.heap[g]? = some o)
    (hfr : Fresh ρ h (grow h ⟨el, 0, big, b⟩)) (hm : b.isMap = false) (N : NewOk ρ o cs el b) : Tr ρ h w (upd1 ρ h.nx 0 (g, 0, cs)) (grow h ⟨el, 0, big, b⟩) w' := by
  have hn : ∀ e, ρ h.nx e = none := fun e => hfr h.nx e (Nat.le_refl _) (by show _ < (Pth.succ h.nx).toNat; rw [Pth.toNat_succ]; omega)
  have hnx : (grow h ⟨el, 0, big, b⟩).nx.toNat = h.nx.toNat + 1 := Pth.toNat_succ _
  have hle : Le ρ (upd1 ρ h.nx 0 (g, 0, cs)) := upd1_le (hn 0)
  have hgl : g < w'.heap.size := (Array.getElem?_eq_some_iff.1 ho).1
  have hold : ∀ k, k < w.heap.size → w'.heap[k]? = w.heap[k]? := fun k hk => hB.block k hk
  have hrel : Rel (upd1 ρ h.nx 0 (g, 0, cs)) (fun f => if f = h.nx then some ⟨el, 0, big, b⟩ else h.look f) w' := by
    refine ⟨?_, ?_, ?_⟩
    · intro f F hF
      by_cases hf : f = h.nx
      · subst hf
        rw [if_pos rfl] at hF; cases hF
        have hinv : ∀ e y, upd1 ρ h.nx 0 (g, 0, cs) h.nx e = some y → e = 0 ∧ y = (g, 0, cs) := by
          intro e y hy
          rcases upd1_inv hy with ⟨_, h1, h2⟩ | h1
          · exact ⟨h1, h2⟩
          · rw [hn] at h1; cases h1
        refine ⟨N.1, ⟨_, upd1_same _ _ _ _⟩, fun e y hy => by rw [(hinv e y hy).1]; exact Nat.le_refl _, ?_, ?_, ?_, fun k hk _ e y hy => ?_, fun m hm2 => ?_⟩
        · intro l hl; simp only at hl; rw [hl] at hm; cases hm
        · intro hm e y hy
          obtain ⟨rfl, rfl⟩ := hinv e y hy
          simp only at hm
          rcases N.2.1 with (⟨h1, _⟩ | ⟨d, r, h1, _⟩ | ⟨m0, mo, si, la, h1, _⟩) | ⟨_, c, el', fz, h2, hfz, h3, h4⟩
          · rw [h1] at hm; cases hm
          · rw [h1] at hm; cases hm
          · rw [h1] at hm; cases hm
          · subst h2
            refine ⟨⟨c, el', fz, ho, h3, hfz⟩, fun i v hi _ => ?_⟩
            obtain ⟨v', h5, h6, h7⟩ := h4 i v hi
            refine ⟨v', ?_, VR.mono hle _ _ h6, h7⟩
            show w'.cell? ⟨g, 0 + i, none⟩ = some v'
            rw [Nat.zero_add]; unfold World.cell?; rw [ho]; simpa using h5
        · intro st p d hl; simp only at hl; rw [hl] at hm; cases hm
        · obtain ⟨rfl, rfl⟩ := hinv e y hy
          obtain ⟨c, fz, ho2⟩ := N.2.2 k hk
          subst ho2
          exact ⟨rfl, c, fz, ho⟩
        · simp only at hm2; rw [hm2] at hm; cases hm
      · rw [if_neg hf] at hF
        refine (R.fam f F hF).mono hle (fun e y hy => ?_) fun e y hy => hold _ (R.lt f e y hy)
        rcases upd1_inv hy with ⟨h1, _⟩ | h1
        · exact absurd h1 hf
        · exact h1
    · intro f F e x f' F' e' x' h1 h2 h3 h4 h5
      rcases upd1_inv h3 with ⟨a1, a2, a3⟩ | a <;> rcases upd1_inv h4 with ⟨b1, b2, b3⟩ | b
      · subst a3; subst b3; exact ⟨a1.trans b1.symm, rfl⟩
      · subst a3; have := R.lt f' e' x' b; simp at h5; omega
      · subst b3; have := R.lt f e x a; simp at h5; omega
      · have hf : f ≠ h.nx := fun he => by rw [he, hn] at a; cases a
        have hf' : f' ≠ h.nx := fun he => by rw [he, hn] at b; cases b
        rw [if_neg hf] at h1; rw [if_neg hf'] at h2
        exact R.sep f F e x f' F' e' x' h1 h2 a b h5
    · intro f e x hx
      rcases upd1_inv hx with ⟨_, _, h1⟩ | h1
      · subst h1; exact hgl
      · exact Nat.lt_of_lt_of_le (R.lt f e x h1) hB.size
  refine ⟨by rw [look_grow]; exact hrel, hle, ?_, by omega, ?_, ?_, hB.size, hB.os, hB.tape, hB.output, ?_⟩
  rotate_right
  · intro f F hF hb
    rw [look_grow] at hF
    by_cases hf : f = h.nx
    · subst hf; exact .inr ⟨Nat.le_refl _, by omega⟩
    · exact .inl ⟨F, by simpa [hf] using hF, hb⟩
  · intro f e x h1 h2
    rcases upd1_inv h1 with ⟨a, _, c⟩ | h3
    · subst a; subst c; exact ⟨.inl ⟨Nat.le_refl _, by omega⟩, .inl hg⟩
    · rw [h3] at h2; cases h2
  · intro f F hF
    rw [look_grow] at hF
    by_cases hf : f = h.nx
    · subst hf; exact .inr ⟨Nat.le_refl _, by omega⟩
    · exact .inl ⟨F, by simpa [hf] using hF⟩
  · intro k hk _
    exact hold k hk
/-- nothing that is named has turned -/
theorem Rel.belowTr {ρ : Rho} {h : Hp} {w w' : World} (R : Rel ρ h.look w) (hB : Below w.heap.size w w') : Tr ρ h w ρ h w' :=
  ⟨⟨fun f F hF => (R.fam f F hF).mono (Le.refl ρ) (fun _ _ h => h) fun e y hy => hB.block _ (R.lt f e y hy), R.sep, fun f e x hx => Nat.lt_of_lt_of_le (R.lt f e x hx) hB.size⟩, Le.refl ρ,
    fun f e x h1 h2 => (by rw [h1] at h2; cases h2), Nat.le_refl _, fun f F hF => .inl ⟨F, hF⟩, fun k hk _ => hB.block k hk, hB.size, hB.os, hB.tape, hB.output, fun f F hF hb => .inl ⟨F, hF, hb⟩⟩
theorem one_rowC {v : AV} {ρ : Rho} {cs : Array Value} {x : Value} (h0 : cs[0]? = some x) (hv : VR ρ v x) (ho : x.oneCell' = true) (el : Nat) : NewOk ρ (.cells cs el) cs.size (el + 1) (.arr (.nd .lf (some [v]) .lf) 1 1 [.bad]) := by
  have hlook : ∀ p, (PT.nd (.lf : PT (List AV)) (some [v]) .lf).look p = if p = .e then some [v] else none := by
    intro p; cases p with
    | e => rfl
    | l p => simp [PT.look, look_lf]
    | r p => simp [PT.look, look_lf]
  refine ⟨⟨rfl, fun p row hr => ?_⟩, .inr ⟨rfl, cs, el, (0, 0), rfl, .inl rfl, rfl, fun i u hi => ?_⟩, fun k hk => by cases hk; exact ⟨_, _, rfl⟩⟩
  · rw [hlook] at hr
    split at hr
    · cases hr; rfl
    · cases hr
  · have hlt : i < 1 := by
      simp only [Body.cell?] at hi
      split at hi
      · omega
      · cases hi
    obtain rfl : i = 0 := by omega
    have hi : (some v : Option AV) = some u := hi
    cases hi
    exact ⟨x, h0, hv, ho⟩
theorem one_bytes {bs : List UInt8} {ρ : Rho} {cs : Array Value} (h : cs.toList.take bs.length = bs.map fun b => Value.int .u8 (b.toNat : Int)) (el : Nat) : NewOk ρ (.cells cs el) cs.size (el + 1) (.byt (leNat bs) bs.length) := by
  refine ⟨leNat_lt bs, .inr ⟨rfl, cs, el, (0, 0), rfl, .inl rfl, rfl, fun i v hi => ?_⟩, fun k hk => by cases hk; exact ⟨_, _, rfl⟩⟩
  rw [cell_byt] at hi
  cases hb : bs[i]? with
  | none => rw [hb] at hi; cases hi
  | some b =>
    rw [hb] at hi
    cases hi
    have hlt : i < bs.length := (List.getElem?_eq_some_iff.1 hb).1
    have h1 : (cs.toList.take bs.length)[i]? = some (.int .u8 (b.toNat : Int)) := by rw [h, List.getElem?_map, hb]; rfl
    rw [List.getElem?_take_of_lt hlt] at h1
    exact ⟨_, by simpa using h1, rfl, rfl⟩
theorem bytesI_vals {ks : List Int} (h : ∀ n ∈ ks, 0 ≤ n ∧ n < 256) : ((bytesI ks).map fun b => Value.int .u8 (b.toNat : Int)) = (isort ks).map (Value.int .u8) := by
  unfold bytesI
  rw [List.map_map]
  apply List.map_congr_left
  intro n hn
  have := h n ((isort_perm ks).mem_iff.1 hn)
  have e : (UInt8.ofNat n.toNat).toNat = n.toNat := by simp; omega
  simp only [Function.comp, e]
  congr 1; omega
theorem keys_vals {ρ : Rho} {kd : IntKind} : ∀ {ks : List Int} {L : List Value}, VRs ρ (ks.map (AV.int kd)) L → L = ks.map (Value.int kd)
  | [], [], _ => rfl
  | [], _ :: _, h => h.elim
  | _ :: _, [], h => h.elim
  | n :: ks, y :: L, h => by
    have h1 : y = .int kd n := h.1
    rw [keys_vals (ks := ks) (L := L) h.2, h1]; rfl
theorem rise_ok {P : Program} {f : Nat} {kd : IntKind} {el : Nat} (H : RiseC P f kd el) {l : List AV} {h : Hp} {k : AV → Hp → Out} {r : AV} {hF : Hp} (e : riseK kd el l h k = .ok r hF) :
    ∃ v h', k v h' = .ok r hF ∧ h.nx.toNat ≤ h'.nx.toNat ∧ ∀ ρ w (l' : Array Value), VRs ρ l l'.toList → Rel ρ h.look w → Fresh ρ h h' → Calls P f l' w (Ret ρ h w v h') := by
  obtain ⟨h1, e1⟩ := bc_ok e
  obtain ⟨v, hv, e2⟩ := nthK_ok e1
  rcases asMp_ok e2 with ⟨q, rfl, e3⟩ | ⟨rfl, e3⟩
  · obtain ⟨F, es0, hq, hb, e4⟩ := famW_map (show mapK h q _ = .ok r hF from e3)
    obtain ⟨ks, e5, hks⟩ := keysK_ok e4
    obtain ⟨hc, e6⟩ := bc_ok e5
    simp only [Bool.and_eq_true, decide_eq_true_eq] at hc
    obtain ⟨⟨h12, hrg⟩, hnd⟩ := hc
    have h12 := Nat.le_of_ble_eq_true h12
    have hrg : ∀ n ∈ ks, 0 ≤ n ∧ n < 256 := fun n hn => by
      have := List.all_eq_true.1 hrg n hn
      simpa using this
    have main : ∀ ρ w (l' : Array Value), VRs ρ l l'.toList → Rel ρ h.look w → Calls P f l' w fun e w' => ∃ v, e = .returned v ∧ w'.ownsRow w.heap.size el 1 v ks.length ((isort ks).map (Value.int kd)) ∧ (v = .slice none 0 0 ↔ ks = []) ∧ Below w.heap.size w w' := by
      intro ρ w l' hl R
      obtain ⟨x, rfl, b, ba, cs, hr, rfl⟩ := args_one hl (lenIs_ok _ _ h1) hv
      obtain ⟨es, ck, g1, g2, g3⟩ := map_run2 R hq hb hr
      refine H w b es ck ks g1 ?_ g3 hnd h12 hrg
      have g4 := g2.1
      rw [hks] at g4
      exact keys_vals g4
    cases ks with
    | nil =>
      have e7 : k .nsl h = .ok r hF := e6
      refine ⟨_, _, e7, Nat.le_refl _, fun ρ w l' hl R K => (main ρ w l' hl R).mono ?_⟩
      rintro en w' ⟨v, rfl, _, hn, hB⟩
      have hv := hn.2 rfl
      subst hv
      exact ⟨ρ, rfl, R.belowTr hB⟩
    | cons n t =>
      have by8 : kd = .u8 → riseB kd el (n :: t) h k = natK (leNat (bytesI (n :: t))) fun m => natK (n :: t).length fun len => newFam h (Nat.succ el) (.byt m len) fun f h => k (.slc f 0 len 0 1) h := fun hk => by
        subst hk; cases t <;> rfl
      by_cases hk8 : kd = .u8
      · rw [by8 hk8, natK_eq, natK_eq] at e6
        subst hk8
        have e7 := newFam_ok e6
        refine ⟨_, _, e7, (by show _ ≤ (Pth.succ h.nx).toNat; rw [Pth.toNat_succ]; omega), fun ρ w l' hl R K => (main ρ w l' hl R).mono ?_⟩
        rintro en w' ⟨v, rfl, hrow, hnil, hB⟩
        rcases hrow.2 with ⟨hv, h0⟩ | ⟨g, cap, cur, rfl, hbase, hg, hn, hcm, hcs, htk⟩
        · have := hnil.1 hv
          cases this
        · have hbl : (bytesI (n :: t)).length = (n :: t).length := by unfold bytesI; rw [List.length_map, isort_len]
          have N := one_bytes (bs := bytesI (n :: t)) (ρ := ρ) (cs := cur) (by rw [bytesI_vals hrg, hbl]; simpa using htk) el
          rw [hbl] at N
          exact ⟨_, ⟨g, 0, cur.size, cap, upd1_same _ _ _ _, .inl ⟨by simp, hn, by omega⟩⟩, R.adopt hB hbase hg K rfl N⟩
      · cases t with
        | cons n2 t => exfalso; cases kd <;> first | exact hk8 rfl | cases e6
        | nil =>
          by_cases hki : kd = .i64
          · subst hki
            have e7 := newFam_ok (show newFam h (Nat.succ el) (.arr (.nd .lf (some [.int .i64 n]) .lf) 1 1 [.bad]) (fun f h => k (.slc f 0 1 0 1) h) = .ok r hF from e6)
            refine ⟨_, _, e7, (by show _ ≤ (Pth.succ h.nx).toNat; rw [Pth.toNat_succ]; omega), fun ρ w l' hl R K => (main ρ w l' hl R).mono ?_⟩
            rintro en w' ⟨v, rfl, hrow, _, hB⟩
            rcases hrow.2 with ⟨_, h0⟩ | ⟨g, cap, cur, rfl, hbase, hg, hn, hcm, hcs, htk⟩
            · simp at h0
            · have h0 : cur[0]? = some (.int .i64 n) := by
                have h2 : (cur.toList.take ([n].length * 1))[0]? = some (.int .i64 n) := by rw [htk]; rfl
                rw [List.getElem?_take_of_lt (by simp)] at h2
                simpa using h2
              exact ⟨_, ⟨g, 0, cur.size, cap, upd1_same _ _ _ _, .inl ⟨rfl, hn, by omega⟩⟩, R.adopt hB hbase hg K rfl (one_rowC (v := .int .i64 n) h0 (show Value.int .i64 n = .int .i64 n from rfl) rfl el)⟩
          · exfalso; cases kd <;> first | exact hk8 rfl | exact hki rfl | cases e6
  · cases e3
/-- strings.Repeat -/
def RepC (P : Program) (f : Nat) : Prop := ∀ w (s : ByteArray) (c : Nat), s.size ≤ 1000 → c ≤ 1000 → Calls P f #[.string s, .int .i64 c] w fun e w' => e = .returned (.string ⟨(Lib.repeatL s.data.toList c).toArray⟩) ∧ Below w.heap.size w w'
noncomputable def repN (n m : Nat) (c : Nat) : Nat := Nat.rec (motive := fun _ => Nat) 0 (fun _ ih => Nat.add n (Nat.mul ih (Nat.pow 256 m))) c
theorem repN_eq (bs : List UInt8) : ∀ c, repN (leNat bs) bs.length c = leNat (Lib.repeatL bs c)
  | 0 => rfl
  | c + 1 => by
    show leNat bs + repN (leNat bs) bs.length c * 256 ^ bs.length = _
    rw [repN_eq bs c, Lib.repeatL, leNat_append]
noncomputable def repK (l : List AV) (h : Hp) (k : AV → Hp → Out) : Out :=
  bc (lenIs l 2) (nthK l 0 fun a => nthK l 1 fun b => a.asStr fun n m => b.asInt fun kd c => bc (kEq kd .i64) (Int.rec (motive := fun _ => Out) (fun c => bc (Nat.ble m 1000 && Nat.ble c 1000) (natK (repN n m c) fun q => natK (Nat.mul c m) fun l => k (.str q l) h) (.no 165)) (fun _ => .no 165) c) (.no 165)) (.no 165)
theorem rep_ok {P : Program} {f : Nat} (H : RepC P f) {l : List AV} {h : Hp} {k : AV → Hp → Out} {r : AV} {hF : Hp} (e : repK l h k = .ok r hF) :
    ∃ v h', k v h' = .ok r hF ∧ h.nx.toNat ≤ h'.nx.toNat ∧ ∀ ρ w (l' : Array Value), VRs ρ l l'.toList → Rel ρ h.look w → Fresh ρ h h' → Calls P f l' w (Ret ρ h w v h') := by
  obtain ⟨h1, e1⟩ := bc_ok e
  obtain ⟨a, ha, e2⟩ := nthK_ok e1
  obtain ⟨b, hb, e3⟩ := nthK_ok e2
  obtain ⟨n, m, rfl, e4⟩ := asStr_ok e3
  obtain ⟨kd, c, rfl, e5⟩ := asInt_ok e4
  obtain ⟨hk, e6⟩ := bc_ok e5
  have hk := kEq_ok hk
  subst hk
  cases c with
  | negSucc c => cases e6
  | ofNat c =>
    obtain ⟨hc, e7⟩ := bc_ok e6
    simp only [Bool.and_eq_true] at hc
    have hm := Nat.le_of_ble_eq_true hc.1
    have hcc := Nat.le_of_ble_eq_true hc.2
    rw [natK_eq, natK_eq] at e7
    refine ⟨_, _, e7, Nat.le_refl _, fun ρ w l' hl R K => ?_⟩
    obtain ⟨x, y, rfl, hx, hy⟩ := args_two hl (lenIs_ok _ _ h1) ha hb
    obtain ⟨s, rfl, hn, hml⟩ := hx
    have hy : y = .int .i64 (Int.ofNat c) := hy
    subst hy
    refine (H w s c (by rw [hml] at hm; simpa using hm) hcc).mono ?_
    rintro en w' ⟨rfl, hB⟩
    refine ⟨ρ, ⟨_, rfl, ?_, ?_⟩, R.belowTr hB⟩
    · show repN n m c = _
      rw [hn, hml, repN_eq]
    · show Nat.mul c m = _
      rw [hml]
      simp only [List.toList_toArray, Lib.repeatL_length]; rfl
inductive Kn where | rise (kd : IntKind) (el : Nat) | rep
noncomputable def knK (p : Kn) (l : List AV) (h : Hp) (k : AV → Hp → Out) : Out := match p with
  | .rise kd el => riseK kd el l h k
  | .rep => repK l h k
def KnC (P : Program) (f : Nat) : Kn → Prop
  | .rise kd el => RiseC P f kd el
  | .rep => RepC P f
theorem kn_ok {P : Program} {f : Nat} {p : Kn} (H : KnC P f p) {l : List AV} {h : Hp} {k : AV → Hp → Out} {r : AV} {hF : Hp} (e : knK p l h k = .ok r hF) :
    ∃ v h', k v h' = .ok r hF ∧ h.nx.toNat ≤ h'.nx.toNat ∧ ∀ ρ w (l' : Array Value), VRs ρ l l'.toList → Rel ρ h.look w → Fresh ρ h h' → Calls P f l' w (Ret ρ h w v h') := by
  cases p with
  | rise kd el => exact rise_ok H e
  | rep => exact rep_ok H e
/-- the machine, with functions that are known by their contracts -/
noncomputable def callO (P : Program) (nm : Nat → Nat) (kn : Nat → Option Kn) (n : Nat) (d : Nat) : Call_ :=
  Nat.rec (motive := fun _ => Call_) (fun _ _ _ _ => .no 111) (fun _ ih f l h k => Option.rec (motive := fun _ => Out) (FnF.rec (motive := fun _ => Out) (fun g => g ih n l h k) (fnC P nm f)) (fun p => knK p l h k) (kn f)) d
def KnOk (P : Program) (kn : Nat → Option Kn) : Prop := kn yid = none ∧ ∀ f p, kn f = some p → (∀ args w, (callFunc f args).run P w = .ok (.enter f args) w) ∧ KnC P f p
theorem callO_ok {P : Program} (hop : ∀ N T o, OpG P N T o) (hdr : ∀ N T ops, DrawOk P N T ops) (hxt : XtOk P) (nm : Nat → Nat) {kn : Nat → Option Kn} (hkn : KnOk P kn) (n : Nat) : ∀ d, CallOk P (callO P nm kn n d) := by
  intro d
  induction d with
  | zero => exact ⟨fun e => (by cases e), fun e => (by cases e)⟩
  | succ d ih =>
    refine ⟨?_, ?_⟩
    · intro f l h k r hF e
      cases hk : kn f with
      | none =>
        cases hg : fnC P nm f with
        | mk g =>
          have e' : Option.rec (motive := fun _ => Out) (FnF.rec (motive := fun _ => Out) (fun g => g (callO P nm kn n d) n l h k) (fnC P nm f)) (fun p => knK p l h k) (kn f) = .ok r hF := e
          rw [hk, hg] at e'
          exact @fnC_ok P hop hdr hxt nm f g hg (callO P nm kn n d) ih n f l h k r hF (by show (if f = f then _ else _) = _; rw [if_pos rfl]; exact e')
      | some p =>
        have e' : Option.rec (motive := fun _ => Out) (FnF.rec (motive := fun _ => Out) (fun g => g (callO P nm kn n d) n l h k) (fnC P nm f)) (fun p => knK p l h k) (kn f) = .ok r hF := e
        rw [hk] at e'
        obtain ⟨h1, h2⟩ := hkn.2 f p hk
        obtain ⟨v, h', e1, n1, H⟩ := kn_ok h2 (show knK p l h k = .ok r hF from e')
        exact ⟨v, h', e1, n1, fun ρ w l' hl _ R K => .inr ⟨h1 l' w, H ρ w l' hl R K⟩⟩
    · intro q l h k r hF e
      have e' : Option.rec (motive := fun _ => Out) (FnF.rec (motive := fun _ => Out) (fun g => g (callO P nm kn n d) n (.bad :: .mp q :: l) h k) (fnC P nm yid)) (fun p => knK p (.bad :: .mp q :: l) h k) (kn yid) = .ok r hF := e
      have hy : fnC P nm yid = .mk (roundC P) := by unfold fnC; rw [Nat.beq_refl]
      rw [hkn.1, hy] at e'
      obtain ⟨q', l2, hl, v, h', e1, n1, H⟩ := round_ok hop hdr ih (show roundC P (callO P nm kn n d) n (.bad :: .mp q :: l) h k = .ok r hF from e')
      cases hl
      exact ⟨v, h', e1, n1, H⟩
noncomputable def run0O (P : Program) (nm : Nat → Nat) (kn : Nat → Option Kn) (n d f : Nat) (l : List AV) (L : List (String × DataW Unit)) : Out := callO P nm kn n d f l (hpL P L) fun v h => .ok v h
/-- a call without arguments that answers true, over variables that are laid, in a world that grew from the laid one -/
theorem closed_trueO {P : Program} (hm : P.follows .mixedOrders = true) {nm : Nat → Nat} {kn : Nat → Option Kn} (hkn : KnOk P kn) {n d f : Nat} {L : List (String × DataW Unit)} (e : isTrue (run0O P nm kn n d f [] L) = true) {fn : Func} (hfn : P.funcs[f]? = some fn) (hb : (fn.body.isSome && !(fn.name == "runtime.NumGoroutine")) = true)
    (w : World) (hw : P.globals.size < w.heap.size) (hL : laidMet P L w) : Calls P f #[] w fun e w' => e = .returned (.bool true) ∧ Below w.heap.size w w' := by
  obtain ⟨h', e⟩ := isTrue_ok e
  obtain ⟨v1, h1, e1, n1, H⟩ := (callO_ok (fun _ _ o => all_ops _ _ o) (fun _ _ ops => draw_ok hm (fun o => spec o) ops) xt_ok nm hkn n d).fn e
  cases e1
  have hnx : (hpL P L).nx.toNat = P.globals.size + 1 := by unfold hpL; rw [lay_nx]; exact toNat_ofNat (P.globals.size + 1)
  have R := laid_rel hw hL
  have hgl : Gl P (rhoW P.globals.size w) := fun g hg => ⟨_, by unfold rhoW; rw [toNat_ofNat, if_pos ⟨rfl, by omega⟩]⟩
  have hfr : Fresh (rhoW P.globals.size w) (hpL P L) h' := by
    intro f e a b
    cases hx : rhoW P.globals.size w f e with
    | none => rfl
    | some x => obtain ⟨_, h2, _⟩ := rhoW_some hx; omega
  rcases H (rhoW P.globals.size w) w #[] trivial hgl R hfr with ⟨v', w', ρ', h2, _, _⟩ | ⟨_, h2⟩
  · exfalso
    cases hbd : fn.body with
    | none => rw [hbd] at hb; simp at hb
    | some c =>
      have hname : (fn.name == "runtime.NumGoroutine") = false := by
        cases hq : (fn.name == "runtime.NumGoroutine") with
        | false => rfl
        | true => rw [hq] at hb; simp at hb
      simp only [callFunc, Sem.run_bind, program, Sem.run, hfn, Result.andThen_ok, hname, hbd] at h2
      cases h2
  · refine h2.mono fun en w' hr => ?_
    cases en with
    | returned v' =>
      obtain ⟨ρ', a1, a2⟩ := hr
      have a1 : v' = .bool true := a1
      subst a1
      refine ⟨rfl, a2.os, a2.tape, a2.output, a2.size, fun k hk => a2.frame k hk fun f F e x hF hF2 => ?_⟩
      have := laid_ro hF; omega
    | panicked _ => exact hr.elim
    | outgrown => exact hr.elim
end Go.Am

namespace Go.Am
open Go Go.RowKit

/-! ### A function's code in parts, each run from the laid memory -/
noncomputable def partO (P : Program) (nm : Nat → Nat) (kn : Nat → Option Kn) (n d N T : Nat) (X : Code) (L : List (String × DataW Unit)) (k : KE) : Out :=
  CodeF.rec (motive := fun _ => Out) (fun g => g (callO P nm kn n d) n .lf (hpL P L) k) (codeC P false N T X)
noncomputable def nrmE : KE := fun ex _ h => Ex.rec (motive := fun _ => Out) (.ok (.bool true) h) (fun _ => .no 171) (.no 172) ex
noncomputable def retE : KE := fun ex fr h => Ex.rec (motive := fun _ => Out) (.no 173) (fun _ => .no 174) (Option.rec (motive := fun _ => Out) (.no 175) (fun v => .ok v h) (fr.look .e)) ex
theorem nrmE_ok {ex : Ex} {fr : Fr} {h : Hp} {r : AV} {hF : Hp} (e : nrmE ex fr h = .ok r hF) : ex = .nrm ∧ h = hF := by
  cases ex with
  | nrm => cases e; exact ⟨rfl, rfl⟩
  | ext i => cases e
  | ret => cases e
theorem retE_ok {ex : Ex} {fr : Fr} {h : Hp} {r : AV} {hF : Hp} (e : retE ex fr h = .ok r hF) : ex = .ret ∧ h = hF ∧ fr.look .e = some r := by
  cases ex with
  | nrm => cases e
  | ext i => cases e
  | ret =>
    have e' : Option.rec (motive := fun _ => Out) (.no 175) (fun v => .ok v h) (fr.look .e) = .ok r hF := e
    cases hv : fr.look .e with
    | none => rw [hv] at e'; cases e'
    | some v => rw [hv] at e'; cases e'; exact ⟨rfl, rfl, rfl⟩
/-- the world has grown, and the marks' blocks are new -/
structure Grown (P : Program) (L : List (String × DataW Unit)) (T : Nat) (w0 : World) (a : Act) (w : World) : Prop where
  big : P.globals.size < w0.heap.size
  laid : laidMet P L w0
  size : a.tmps.size = T
  below : Below w0.heap.size w0 w
  safe : Safe w0.heap.size (rhoW P.globals.size w0) (hpL P L) w a.defers
theorem Grown.rel {P : Program} {L : List (String × DataW Unit)} {T : Nat} {w0 w : World} {a : Act} (G : Grown P L T w0 a w) : Rel (rhoW P.globals.size w0) (hpL P L).look w :=
  have R0 := laid_rel G.big G.laid
  ⟨fun f F hF => (R0.fam f F hF).mono (Le.refl _) (fun _ _ h => h) (fun e x hx => G.below.block _ (R0.lt f e x hx)), R0.sep, fun f e x hx => Nat.lt_of_lt_of_le (R0.lt f e x hx) G.below.size⟩
theorem Grown.ar {P : Program} {L : List (String × DataW Unit)} {N T : Nat} {w0 w : World} {a : Act} (G : Grown P L T w0 a w) : AR P N T (rhoW P.globals.size w0) .nil .lf a := by
  refine ⟨⟨fun t v hv => ?_, fun g hg => ⟨_, by unfold rhoW; rw [toNat_ofNat, if_pos ⟨rfl, by have := G.big; omega⟩]⟩⟩, G.size⟩
  exfalso
  have hv : (if Nat.testBit N t = true then (.lf : Fr).look (Pth.ofNat t) else Env.look .nil t) = some v := hv
  split at hv
  · rw [look_lf] at hv; cases hv
  · cases hv
theorem Grown.fresh {P : Program} {L : List (String × DataW Unit)} {T : Nat} {w0 w : World} {a : Act} (_ : Grown P L T w0 a w) (h' : Hp) : Fresh (rhoW P.globals.size w0) (hpL P L) h' := by
  have hnx : (hpL P L).nx.toNat = P.globals.size + 1 := by unfold hpL; rw [lay_nx]; exact toNat_ofNat (P.globals.size + 1)
  intro f e a b
  cases hx : rhoW P.globals.size w0 f e with
  | none => rfl
  | some x => obtain ⟨_, h2, _⟩ := rhoW_some hx; omega
theorem Grown.next {P : Program} {L : List (String × DataW Unit)} {N T : Nat} {w0 w w' : World} {a a' : Act} {ρ' : Rho} {fr' : Fr} {h' : Hp} (G : Grown P L T w0 a w) (ha' : AR P N T ρ' .nil fr' a') (t : Tr (rhoW P.globals.size w0) (hpL P L) w ρ' h' w') (s : Safe w0.heap.size ρ' h' w' a'.defers) : Grown P L T w0 a' w' := by
  refine ⟨G.big, G.laid, ha'.size, ?_, ?_⟩
  · have hb : Below w.heap.size w w' := ⟨t.os, t.tape, t.output, t.size, fun k hk => t.frame k hk fun f F e x hF hF2 => by have := laid_ro hF; omega⟩
    exact ⟨hb.os.trans G.below.os, hb.tape.trans G.below.tape, hb.output.trans G.below.output, Nat.le_trans G.below.size hb.size, fun k hk => (hb.block k (Nat.lt_of_lt_of_le hk G.below.size)).trans (G.below.block k hk)⟩
  · obtain ⟨Ds, s1, s2, s3⟩ := s
    refine ⟨Ds, s1, s2, fun D hD => ⟨(s3 D hD).ge, (s3 D hD).lt, (s3 D hD).obj, fun f F e x hF hx => ?_⟩⟩
    have := (laid_rel G.big G.laid).lt f e x hx
    have := (s3 D hD).ge
    omega
theorem codeO_ok {P : Program} (hm : P.follows .mixedOrders = true) {nm : Nat → Nat} {kn : Nat → Option Kn} (hkn : KnOk P kn) {n d N T : Nat} (X : Code) {g : Call_ → Nat → Fr → Hp → KE → Out} (hX : codeC P false N T X = .mk g) : CodeOk P false N T X (callO P nm kn n d) g :=
  codeC_ok (all_ops N T) (draw_ok hm (fun o => spec o)) (callO_ok (fun _ _ o => all_ops _ _ o) (fun _ _ ops => draw_ok hm (fun o => spec o) ops) xt_ok nm hkn n d) false X hX
theorem part_ok {P : Program} (hm : P.follows .mixedOrders = true) {nm : Nat → Nat} {kn : Nat → Option Kn} (hkn : KnOk P kn) {n d N T : Nat} {X : Code} {L : List (String × DataW Unit)} {k : KE} {r : AV} {hF : Hp} (e : partO P nm kn n d N T X L k = .ok r hF) :
    ∃ ex fr' h', k ex fr' h' = .ok r hF ∧ ∀ w0 a w Q, Grown P L T w0 a w →
      (∀ ρ' a' w', Grown P L T w0 a' w' → AR P N T ρ' .nil fr' a' → Q ex.of a' w') → X.wpIn (wideR none) 0 P Q a w := by
  unfold partO at e
  cases hX : codeC P false N T X with
  | mk g =>
    rw [hX] at e
    obtain ⟨ex, fr', h', e1, n1, A⟩ := codeO_ok hm hkn X hX (show g (callO P nm kn n d) n .lf (hpL P L) k = .ok r hF from e)
    exact ⟨ex, fr', h', e1, fun w0 a w Q G H => A none w0.heap.size _ a w Q rfl G.ar G.rel (G.fresh h') G.below.size G.safe fun ρ' a' w' ha' t s => H ρ' a' w' (G.next ha' t s) ha'⟩
noncomputable def pairO (P : Program) (nm : Nat → Nat) (kn : Nat → Option Kn) (n d N T : Nat) (X Y : Code) (L : List (String × DataW Unit)) : Out :=
  CodeF.rec (motive := fun _ => Out) (fun g => CodeF.rec (motive := fun _ => Out) (fun g2 => g (callO P nm kn n d) n .lf (hpL P L) fun ex fr h => exK ex fr h (fun fr h => g2 (callO P nm kn n d) n fr h nrmE) nrmE) (codeC P false N T Y)) (codeC P false N T X)
theorem pair_ok {P : Program} (hm : P.follows .mixedOrders = true) {nm : Nat → Nat} {kn : Nat → Option Kn} (hkn : KnOk P kn) {n d N T : Nat} {X Y : Code} {L : List (String × DataW Unit)} {r : AV} {hF : Hp} (e : pairO P nm kn n d N T X Y L = .ok r hF) {w0 w : World} {a : Act} {Q : Exit → Act → World → Prop} {z : Code} (G : Grown P L T w0 a w)
    (H : ∀ a' w', Grown P L T w0 a' w' → z.wpIn (wideR none) 0 P Q a' w') : (Code.seq X (.seq Y z)).wpIn (wideR none) 0 P Q a w := by
  unfold pairO at e
  cases hX : codeC P false N T X with
  | mk g => cases hY : codeC P false N T Y with
    | mk g2 =>
      rw [hX, hY] at e
      obtain ⟨ex, fr1, h1, e1, n1, A⟩ := codeO_ok hm hkn X hX (show g (callO P nm kn n d) n .lf (hpL P L) _ = .ok r hF from e)
      rcases exK_ok e1 with ⟨rfl, e2⟩ | ⟨hx, e2⟩
      · obtain ⟨ex2, fr2, h2, e3, n2, B⟩ := codeO_ok hm hkn Y hY e2
        obtain ⟨rfl, _⟩ := nrmE_ok e3
        have K := G.fresh h2
        refine wpIn_seq (A none w0.heap.size _ a w _ rfl G.ar G.rel (G.fresh h1) G.below.size G.safe fun ρ1 a1 w1 ha1 t1 s1 => ?_)
        refine wpIn_seq (B none w0.heap.size ρ1 a1 w1 _ rfl ha1 t1.rel (K.next G.rel t1) (Nat.le_trans G.below.size t1.size) s1 fun ρ2 a2 w2 ha2 t2 s2 => ?_)
        exact H a2 w2 (G.next ha2 (t1.trans G.rel t2 K) s2)
      · exact absurd (nrmE_ok e2).1 hx
theorem three_ok {P : Program} (hm : P.follows .mixedOrders = true) {nm : Nat → Nat} {kn : Nat → Option Kn} (hkn : KnOk P kn) {n d N : Nat} {L : List (String × DataW Unit)} {f : Nat} {fn : Func} (hfn : P.funcs[f]? = some fn) (hN : Nat.testBit N 0 = true) {x1 x2 x3 x4 x5 : Code}
    (hb : fn.body = some (.seq x1 (.seq x2 (.seq x3 (.seq x4 x5))))) (hr : fn.results = #[.tmp 0]) 
    (e1 : isTrue (pairO P nm kn n d N fn.ntmps x1 x2 L) = true) (e2 : isTrue (pairO P nm kn n d N fn.ntmps x3 x4 L) = true) (e3 : isTrue (partO P nm kn n d N fn.ntmps x5 L retE) = true)
    (w : World) (hw : P.globals.size < w.heap.size) (hL : laidMet P L w) : Calls P f #[] w fun e w' => e = .returned (.bool true) ∧ Below w.heap.size w w' := by
  obtain ⟨h1, e1⟩ := isTrue_ok e1
  obtain ⟨h2, e2⟩ := isTrue_ok e2
  obtain ⟨h3, e3⟩ := isTrue_ok e3
  obtain ⟨x3, f3, g3, k3, A3⟩ := part_ok hm hkn e3
  obtain ⟨rfl, rfl, hv⟩ := retE_ok k3
  refine callsIn_wideR.1 (callsIn_of_wp_marks (F := wideR none) (n := 0) hfn hb trivial ?_)
  refine pair_ok hm hkn e1 (w0 := w) ⟨hw, hL, ?_, Below.refl _ _, Safe.nil⟩ fun a1 w1 G1 => ?_
  · simp
  refine pair_ok hm hkn e2 G1 fun a2 w2 G2 => ?_
  refine A3 w a2 w2 _ G2 fun ρ3 a3 w3 G3 ha => ?_
  obtain ⟨Ds, hD1, hD2, hD3⟩ := G3.safe
  show LeavesInM (wideR none) 0 P fn a3.tmps _ a3.defers .returning w3
  rw [hD1]
  refine leaves_marks Ds w3 hD2 (fun D hD => (hD3 D hD).obj) ⟨.bool true, ?_, rfl, ?_⟩
  · have hv0 : VR ρ3 (.bool true) (a3.tmps.getD 0 undef) := ha.cx.st 0 _ (by
      show (if Nat.testBit N 0 = true then _ else _) = _
      rw [if_pos hN]; exact hv)
    have hv0 : a3.tmps.getD 0 undef = .bool true := hv0
    have hh : (fn.results.toList.mapM (oneRes a3.tmps)).run P (shut w3 Ds) = .ok [a3.tmps.getD 0 undef] (shut w3 Ds) := by rw [hr]; rfl
    obtain ⟨v', h4, h5⟩ := results_run (ρ := ρ3) (l := [.bool true]) (vs := [a3.tmps.getD 0 undef]) ⟨hv0, trivial⟩ hh
    have h4 : v' = .bool true := h4
    rw [h4] at h5; exact h5
  · obtain ⟨r1, r2, r3⟩ := shut_rest Ds w3
    refine ⟨r1.trans G3.below.os, r2.trans G3.below.tape, r3.trans G3.below.output, by rw [shut_size]; exact G3.below.size, fun k hk => ?_⟩
    rw [shut_heap Ds w3 k fun hm => by have := (hD3 k hm).ge; omega]
    exact G3.below.block k hk
end Go.Am

/- The row of a law whose specification bears a condition. No condition. -/
set_option linter.unusedVariables false
namespace Go.Am
open Go Go.RowKit Go.WideShapes Go.ChangeShapes
/-- a law whose specification bears a condition, over variables that are laid -/
theorem law_upto {C : Checked} {os : Os} (started : os.Started) {H : Type} {enc : TypeId × Value → H} {F : Stop.Interp} {f : FuncId} {fn : Func} {s : OpenSpec} {laid : List (String × DataW Unit)} {t : TypeId}
    (own : ownKnob C.prog.godebug = none) (noInit : C.prog.inits.idxOf? f = none) (hfn : C.prog.funcs[f]? = some fn) (hv : (s.at F).vars = []) (hvs : (s.at F).vars = s.vars) (hs : ∀ ds : List (DataW H), ds.length = fn.params.size → (s.at F).fn H (ds ++ []) = { results := [.lit (.bool true)], args := ds }) (ht : fn.resultTypes = #[t]) (hb : C.prog.underlying t = some .bool)
    (hl : Nat.ble (C.prog.globals.size + 1) (begin C.prog (fun _ _ => 0) default).world.heap.size = true) (lo : laidOutB C.prog = true) (hr : (fn.params.toList.all fun t => C.prog.readableRec t && decide (t < C.prog.types.size)) = true)
    (witness : ∃ (w : World) (tape : Tape) (i : Input), w.os = os ∧ (w.forCall tape i).Shaped C.prog ∧ i.vars = [] ∧ Input.okWide C.prog (w.forCall tape i) .any w.heap.size f i ∧
      s.preRow enc C.prog fn [] false laid (w.forCall tape i).memory i.args ∧ ({} : Assume).holds C.prog (lone (Frame.enter C.prog f i.args .normal) [] (w.forCall tape i)))
    (run : ∀ (W : World) (base : Nat) (args : Array Value) (ds : List (DataW H)) (before : List MemPlace), C.prog.globals.size < W.heap.size → laidMetH C.prog laid W → (∀ k, s.cond = some k → k H ds = true) → (∀ (j : Nat) t v, fn.params[j]? = some t → args[j]? = some v → Value.okWide C.prog W .any base t v) →
      DataW.TrodAll enc C.prog W 0 (fun _ => true) true fn.params.toList args.toList ds before → Calls C.prog f args W fun e W' => e = .returned (.bool true) ∧ Below W.heap.size W W') :
    ReturnsInHanded {} C os f .any (s.preRow enc C.prog fn [] false laid) ((s.at F).post enc C.prog fn false true false false) := by
  refine returnsInHanded_of_row own started noInit hfn witness ?_
  intro W base args ds gs before hval hW _ hk _ hL hsh _
  rw [← hvs] at hW
  have hg := globals_lie hsh hl
  have hW2 := hW
  have hlt : ∀ x ∈ before, x.block < W.heap.size := fun x hx => hW.lt x hx
  obtain ⟨p, q, hA0, hV, rfl, hfz, hnd⟩ := hW
  rw [hv] at hV
  obtain ⟨rfl, rfl⟩ := trodVars_none hV
  have hlen : ds.length = fn.params.size := by
    have : ∀ {ts : List TypeId} {vs : List Value} {ds : List (DataW H)} {ps : List MemPlace}, DataW.TrodAll enc C.prog W 0 (fun _ => true) true ts vs ds ps → ds.length = ts.length := by
      intro ts
      induction ts with
      | nil => intro vs ds ps h; obtain ⟨_, rfl, _⟩ := trodAll_nil h; rfl
      | cons t ts ih => intro vs ds ps h; obtain ⟨v, vs', d, ds', p, q, rfl, rfl, rfl, _, h2⟩ := trodAll_cons h; simp [ih h2]
    have := this hA0
    simpa using this
  simp only [List.append_nil] at hlt hW2
  refine (run W base args ds p hg hL (fun k h => by have := hk k h; rwa [List.append_nil] at this) hval hA0).mono fun e W' ⟨he, hk⟩ => ?_
  exact ⟨_, he, law_post hW2 hv (hs ds hlen) ht hb (trod_all_below lo hk hr hA0 hlt) hk⟩
/-- an input that fits, at a world that is written out -/
theorem witness_upto {H : Type} {enc : TypeId × Value → H} {C : Checked} {os : Os} {f : FuncId} {fn : Func} {s : OpenSpec} {conds : List PathCond} {apart : Bool} {laid : List (String × DataW Unit)} (w0 : World) (args : Array Value) (hos : w0.os = os)
    (hsh : (w0.forCall (fun _ _ => 0) ⟨#[], args, []⟩).Shaped C.prog)
    (hok : Input.okWideB C.prog (w0.forCall (fun _ _ => 0) ⟨#[], args, []⟩) f ⟨#[], args, []⟩ = true)
    (hrow : s.preRow enc C.prog fn conds apart laid (w0.forCall (fun _ _ => 0) ⟨#[], args, []⟩).memory args) :
    ∃ (w : World) (tape : Tape) (i : Input), w.os = os ∧ (w.forCall tape i).Shaped C.prog ∧ i.vars = [] ∧ Input.okWide C.prog (w.forCall tape i) .any w.heap.size f i ∧
      s.preRow enc C.prog fn conds apart laid (w.forCall tape i).memory i.args ∧ ({} : Assume).holds C.prog (lone (Frame.enter C.prog f i.args .normal) [] (w.forCall tape i)) :=
  ⟨w0, fun _ _ => 0, ⟨#[], args, []⟩, hos, hsh, (Input.okWide_of_okWideB (base := 0) hok).1, (Input.okWide_of_okWideB hok).2, hrow, by
    simp only [Assume.holds]
    exact ⟨by simp, by simp, fun _ => Modest.zero, by simp, by simp⟩⟩
end Go.Am
